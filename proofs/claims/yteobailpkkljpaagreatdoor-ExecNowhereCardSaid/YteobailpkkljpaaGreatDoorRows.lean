/-
  NARROWER THAN 'FOR EVERY INPUT', by the rows' own cells (each row's printed sentence says how): ExecNowhere: laid · AxiomOwn: laid · AxiomSerial: laid · AxiomAtomic: laid · ExecTurned: laid.
  DERIVED. THE GIVEN ROWS OF THIS SEAT. 5 by the template 'for every input the law returns true; each argument reads behind the call as it read before'; 0 by the template 'total and deterministic' (their statements: YteobailpkkljpaaGreatDoorTotals.lean).
  GIVEN WITH THE SEED: the statements are not yours to turn. If you find one false, say at which input.
  Laid BY PROGRAM, IN A SANDBOX (cutbox-rows.mjs): the forced cells as the released guide's own fill.sh prints them over the translation 4df1bcfa2eab0e1a… (all of the seat's roots in one cut). By AI agents, Wed Nov 11 2026. No macro, syntax, notation, axiom, sorry.
-/
import Derived.Test.YteobailpkkljpaaGreatDoorChecked
import GoSem.Claim
import GoSem.ClaimJoined
import GoSem.ClaimMapViews
import Derived.JoinedTies
import Derived.KernelRfl
namespace Go.Proofs.YteobailpkkljpaaGreatDoor
/- THE CELL 'sum', in the pinned program and in every row, IS THE sha256 OF THE DUMP (.gsa) THAT YteobailpkkljpaaGreatDoorProg.lean LOADS. Nothing in Lean hashes anything: it is a label: what it is worth is what the hold of that sum in a sandbox is worth. -/
noncomputable def Tryz.pinned : Pinned := { name := "yteobailpkkljpaagreatdoor", sum := "4df1bcfa2eab0e1a70b27a8c55fed7934d4f43ecda5e10f611c9b0935153627f", checked := Tryz.checked }
namespace Rows
def none {H : Type} : Left H := { results := [], args := [] }

/- WHAT THE LISTED PACKAGE-LEVEL VARIABLES READ AS WHEN THE CALL BEGINS. Each datum BY PROGRAM (the guide's laid-datum.mjs) off the statement by which the dump's own 'gosem.cut.vars' lays the variable. In a bare row this is a premise. The card (YteobailpkkljpaaGreatDoorCards.lean) ties it to the program's text. -/
def laid_math_bits_deBruijn32tab {H : Type} : DataW H := .agg [.lit (.int .u8 0), .lit (.int .u8 1), .lit (.int .u8 28), .lit (.int .u8 2), .lit (.int .u8 29), .lit (.int .u8 14), .lit (.int .u8 24), .lit (.int .u8 3), .lit (.int .u8 30), .lit (.int .u8 22), .lit (.int .u8 20), .lit (.int .u8 15), .lit (.int .u8 25), .lit (.int .u8 17), .lit (.int .u8 4), .lit (.int .u8 8), .lit (.int .u8 31), .lit (.int .u8 27), .lit (.int .u8 13), .lit (.int .u8 23), .lit (.int .u8 21), .lit (.int .u8 19), .lit (.int .u8 16), .lit (.int .u8 7), .lit (.int .u8 26), .lit (.int .u8 12), .lit (.int .u8 18), .lit (.int .u8 6), .lit (.int .u8 11), .lit (.int .u8 5), .lit (.int .u8 10), .lit (.int .u8 9)]
def laid_math_bits_deBruijn64tab {H : Type} : DataW H := .agg [.lit (.int .u8 0), .lit (.int .u8 1), .lit (.int .u8 56), .lit (.int .u8 2), .lit (.int .u8 57), .lit (.int .u8 49), .lit (.int .u8 28), .lit (.int .u8 3), .lit (.int .u8 61), .lit (.int .u8 58), .lit (.int .u8 42), .lit (.int .u8 50), .lit (.int .u8 38), .lit (.int .u8 29), .lit (.int .u8 17), .lit (.int .u8 4), .lit (.int .u8 62), .lit (.int .u8 47), .lit (.int .u8 59), .lit (.int .u8 36), .lit (.int .u8 45), .lit (.int .u8 43), .lit (.int .u8 51), .lit (.int .u8 22), .lit (.int .u8 53), .lit (.int .u8 39), .lit (.int .u8 33), .lit (.int .u8 30), .lit (.int .u8 24), .lit (.int .u8 18), .lit (.int .u8 12), .lit (.int .u8 5), .lit (.int .u8 63), .lit (.int .u8 55), .lit (.int .u8 48), .lit (.int .u8 27), .lit (.int .u8 60), .lit (.int .u8 41), .lit (.int .u8 37), .lit (.int .u8 16), .lit (.int .u8 46), .lit (.int .u8 35), .lit (.int .u8 44), .lit (.int .u8 21), .lit (.int .u8 52), .lit (.int .u8 32), .lit (.int .u8 23), .lit (.int .u8 11), .lit (.int .u8 54), .lit (.int .u8 26), .lit (.int .u8 40), .lit (.int .u8 15), .lit (.int .u8 34), .lit (.int .u8 20), .lit (.int .u8 31), .lit (.int .u8 10), .lit (.int .u8 25), .lit (.int .u8 14), .lit (.int .u8 19), .lit (.int .u8 9), .lit (.int .u8 13), .lit (.int .u8 8), .lit (.int .u8 7), .lit (.int .u8 6)]
def laid_internal_strconv_uint64pow10 {H : Type} : DataW H := .agg [.lit (.int .u64 1), .lit (.int .u64 10), .lit (.int .u64 100), .lit (.int .u64 1000), .lit (.int .u64 10000), .lit (.int .u64 100000), .lit (.int .u64 1000000), .lit (.int .u64 10000000), .lit (.int .u64 100000000), .lit (.int .u64 1000000000), .lit (.int .u64 10000000000), .lit (.int .u64 100000000000), .lit (.int .u64 1000000000000), .lit (.int .u64 10000000000000), .lit (.int .u64 100000000000000), .lit (.int .u64 1000000000000000), .lit (.int .u64 10000000000000000), .lit (.int .u64 100000000000000000), .lit (.int .u64 1000000000000000000), .lit (.int .u64 10000000000000000000)]

/-- 'jacquardlaw11.ExecNowhere': WHATEVER THE INPUT: true; the input reads as it did. -/
def execNowhereSpec : ChangeSpec := { name := "execNowhere", fn := fun _ => fun
  | [d] => { results := [.lit (.bool true)], args := [d] }
  | _ => none }
def execNowhereRow : OpenClaim := { program := "yteobailpkkljpaagreatdoor", sum := "4df1bcfa2eab0e1a70b27a8c55fed7934d4f43ecda5e10f611c9b0935153627f", func := "jacquard/jacquardlaw11.ExecNowhere", spec := "execNowhere", inPlace := ["internal/abi.NoEscape", "internal/bytealg.MakeNoZero"], unfollowed := true, recurses := true, named := ["math/bits.deBruijn64tab", "internal/strconv.uint64pow10", "math/bits.deBruijn32tab"], apart := false, laid := [("math/bits.deBruijn32tab", laid_math_bits_deBruijn32tab), ("math/bits.deBruijn64tab", laid_math_bits_deBruijn64tab), ("internal/strconv.uint64pow10", laid_internal_strconv_uint64pow10)] }
def ExecNowhereSaid : Prop := execNowhereRow.holds Tryz.pinned (OpenSpec.ofChange execNowhereSpec)

/-- ITS FALSE NEIGHBOUR: 'it returns false'. Refute it at one input. -/
def execNowhereWrong : ChangeSpec := { name := "execNowhere", fn := fun _ => fun
  | [d] => { results := [.lit (.bool false)], args := [d] }
  | _ => none }
def ExecNowhereWrongFalsely : Prop := execNowhereRow.holds Tryz.pinned (OpenSpec.ofChange execNowhereWrong)

/-- 'jacquardlaw12.AxiomOwn': WHATEVER THE INPUT: true; the input reads as it did. -/
def axiomOwnSpec : ChangeSpec := { name := "axiomOwn", fn := fun _ => fun
  | [d1, d2] => { results := [.lit (.bool true)], args := [d1, d2] }
  | _ => none }
def axiomOwnRow : OpenClaim := { program := "yteobailpkkljpaagreatdoor", sum := "4df1bcfa2eab0e1a70b27a8c55fed7934d4f43ecda5e10f611c9b0935153627f", func := "jacquard/jacquardlaw12.AxiomOwn", spec := "axiomOwn", unfollowed := true, recurses := true, named := ["math/bits.deBruijn64tab"], apart := false, laid := [("math/bits.deBruijn64tab", laid_math_bits_deBruijn64tab)] }
def AxiomOwnSaid : Prop := axiomOwnRow.holds Tryz.pinned (OpenSpec.ofChange axiomOwnSpec)

/-- ITS FALSE NEIGHBOUR: 'it returns false'. Refute it at one input. -/
def axiomOwnWrong : ChangeSpec := { name := "axiomOwn", fn := fun _ => fun
  | [d1, d2] => { results := [.lit (.bool false)], args := [d1, d2] }
  | _ => none }
def AxiomOwnWrongFalsely : Prop := axiomOwnRow.holds Tryz.pinned (OpenSpec.ofChange axiomOwnWrong)

/-- 'jacquardlaw12.AxiomSerial': WHATEVER THE INPUT: true; the input reads as it did. -/
def axiomSerialSpec : ChangeSpec := { name := "axiomSerial", fn := fun _ => fun
  | [d] => { results := [.lit (.bool true)], args := [d] }
  | _ => none }
def axiomSerialRow : OpenClaim := { program := "yteobailpkkljpaagreatdoor", sum := "4df1bcfa2eab0e1a70b27a8c55fed7934d4f43ecda5e10f611c9b0935153627f", func := "jacquard/jacquardlaw12.AxiomSerial", spec := "axiomSerial", unfollowed := true, recurses := true, named := ["math/bits.deBruijn64tab"], apart := false, laid := [("math/bits.deBruijn64tab", laid_math_bits_deBruijn64tab)] }
def AxiomSerialSaid : Prop := axiomSerialRow.holds Tryz.pinned (OpenSpec.ofChange axiomSerialSpec)

/-- ITS FALSE NEIGHBOUR: 'it returns false'. Refute it at one input. -/
def axiomSerialWrong : ChangeSpec := { name := "axiomSerial", fn := fun _ => fun
  | [d] => { results := [.lit (.bool false)], args := [d] }
  | _ => none }
def AxiomSerialWrongFalsely : Prop := axiomSerialRow.holds Tryz.pinned (OpenSpec.ofChange axiomSerialWrong)

/-- 'jacquardlaw12.AxiomAtomic': WHATEVER THE INPUT: true; the input reads as it did. -/
def axiomAtomicSpec : ChangeSpec := { name := "axiomAtomic", fn := fun _ => fun
  | [d1, d2] => { results := [.lit (.bool true)], args := [d1, d2] }
  | _ => none }
def axiomAtomicRow : OpenClaim := { program := "yteobailpkkljpaagreatdoor", sum := "4df1bcfa2eab0e1a70b27a8c55fed7934d4f43ecda5e10f611c9b0935153627f", func := "jacquard/jacquardlaw12.AxiomAtomic", spec := "axiomAtomic", unfollowed := true, recurses := true, named := ["math/bits.deBruijn64tab"], apart := false, laid := [("math/bits.deBruijn64tab", laid_math_bits_deBruijn64tab)] }
def AxiomAtomicSaid : Prop := axiomAtomicRow.holds Tryz.pinned (OpenSpec.ofChange axiomAtomicSpec)

/-- ITS FALSE NEIGHBOUR: 'it returns false'. Refute it at one input. -/
def axiomAtomicWrong : ChangeSpec := { name := "axiomAtomic", fn := fun _ => fun
  | [d1, d2] => { results := [.lit (.bool false)], args := [d1, d2] }
  | _ => none }
def AxiomAtomicWrongFalsely : Prop := axiomAtomicRow.holds Tryz.pinned (OpenSpec.ofChange axiomAtomicWrong)

/-- 'jacquardlaw11.ExecTurned': WHATEVER THE INPUT: true; the input reads as it did. -/
def execTurnedSpec : ChangeSpec := { name := "execTurned", fn := fun _ => fun
  | [d1, d2, d3, d4, d5] => { results := [.lit (.bool true)], args := [d1, d2, d3, d4, d5] }
  | _ => none }
def execTurnedRow : OpenClaim := { program := "yteobailpkkljpaagreatdoor", sum := "4df1bcfa2eab0e1a70b27a8c55fed7934d4f43ecda5e10f611c9b0935153627f", func := "jacquard/jacquardlaw11.ExecTurned", spec := "execTurned", inPlace := ["internal/abi.NoEscape", "internal/bytealg.MakeNoZero"], unfollowed := true, recurses := true, named := ["math/bits.deBruijn64tab", "internal/strconv.uint64pow10", "math/bits.deBruijn32tab"], apart := false, laid := [("math/bits.deBruijn32tab", laid_math_bits_deBruijn32tab), ("math/bits.deBruijn64tab", laid_math_bits_deBruijn64tab), ("internal/strconv.uint64pow10", laid_internal_strconv_uint64pow10)] }
def ExecTurnedSaid : Prop := execTurnedRow.holds Tryz.pinned (OpenSpec.ofChange execTurnedSpec)

/-- ITS FALSE NEIGHBOUR: 'it returns false'. Refute it at one input. -/
def execTurnedWrong : ChangeSpec := { name := "execTurned", fn := fun _ => fun
  | [d1, d2, d3, d4, d5] => { results := [.lit (.bool false)], args := [d1, d2, d3, d4, d5] }
  | _ => none }
def ExecTurnedWrongFalsely : Prop := execTurnedRow.holds Tryz.pinned (OpenSpec.ofChange execTurnedWrong)

/- THE SECOND FORM. 'bulk': how many values and letters a reading holds, each counted each time it is reached (what is shared counts as often as it is met; a slice's spare places count too). A statement '..UptoSaid' is the law's where the arguments, and the package variables that the reading takes, are together of bulk at most 1048576: NARROWER than '..Said'. Prove '..Said' where nothing that the law and all that it calls make is longer than what came in: it says more and counts as full. Else prove '..UptoSaid'. A law counts once. -/
mutual
def uptoBulk {H : Type} : DataW H → Nat
  | .lit (.string bytes) => bytes.length + 1
  | .lit _ => 1
  | .nil => 1
  | .ptr d => uptoBulk d + 1
  | .slice elems spare => uptoBulkAll elems + uptoBulkAll spare + 1
  | .agg parts => uptoBulkAll parts + 1
  | .iface _ d => uptoBulk d + 1
  | .map entries => uptoBulkEntries entries + 1
  | .held _ => 1
def uptoBulkAll {H : Type} : List (DataW H) → Nat
  | [] => 0
  | d :: r => uptoBulk d + uptoBulkAll r
def uptoBulkEntries {H : Type} : List (Lit × DataW H) → Nat
  | [] => 0
  | x :: r => uptoBulkEntry x + uptoBulkEntries r
def uptoBulkEntry {H : Type} : Lit × DataW H → Nat
  | (.string bytes, d) => bytes.length + uptoBulk d + 1
  | (_, d) => uptoBulk d + 1
 end
def uptoSmall : (H : Type) → List (DataW H) → Bool := fun _ ds => decide (uptoBulkAll ds ≤ 1048576)
def OpenSpec.upto (s : _root_.Go.ChangeSpec) : _root_.Go.OpenSpec := { _root_.Go.OpenSpec.ofChange s with cond := some uptoSmall }

/-- 'jacquardlaw11.ExecNowhere', WHERE WHAT IT READS IS OF BULK AT MOST 1048576: true; the input reads as it did. -/
def execNowhereUptoRow : OpenClaim := { program := "yteobailpkkljpaagreatdoor", sum := "4df1bcfa2eab0e1a70b27a8c55fed7934d4f43ecda5e10f611c9b0935153627f", func := "jacquard/jacquardlaw11.ExecNowhere", spec := "execNowhere", inPlace := ["internal/abi.NoEscape", "internal/bytealg.MakeNoZero"], unfollowed := true, recurses := true, named := ["math/bits.deBruijn64tab", "internal/strconv.uint64pow10", "math/bits.deBruijn32tab"], apart := false, laid := [("math/bits.deBruijn32tab", laid_math_bits_deBruijn32tab), ("math/bits.deBruijn64tab", laid_math_bits_deBruijn64tab), ("internal/strconv.uint64pow10", laid_internal_strconv_uint64pow10)], narrowed := true }
def ExecNowhereUptoSaid : Prop := execNowhereUptoRow.holds Tryz.pinned (OpenSpec.upto execNowhereSpec)

/-- 'jacquardlaw12.AxiomOwn', WHERE WHAT IT READS IS OF BULK AT MOST 1048576: true; the input reads as it did. -/
def axiomOwnUptoRow : OpenClaim := { program := "yteobailpkkljpaagreatdoor", sum := "4df1bcfa2eab0e1a70b27a8c55fed7934d4f43ecda5e10f611c9b0935153627f", func := "jacquard/jacquardlaw12.AxiomOwn", spec := "axiomOwn", unfollowed := true, recurses := true, named := ["math/bits.deBruijn64tab"], apart := false, laid := [("math/bits.deBruijn64tab", laid_math_bits_deBruijn64tab)], narrowed := true }
def AxiomOwnUptoSaid : Prop := axiomOwnUptoRow.holds Tryz.pinned (OpenSpec.upto axiomOwnSpec)

/-- 'jacquardlaw12.AxiomSerial', WHERE WHAT IT READS IS OF BULK AT MOST 1048576: true; the input reads as it did. -/
def axiomSerialUptoRow : OpenClaim := { program := "yteobailpkkljpaagreatdoor", sum := "4df1bcfa2eab0e1a70b27a8c55fed7934d4f43ecda5e10f611c9b0935153627f", func := "jacquard/jacquardlaw12.AxiomSerial", spec := "axiomSerial", unfollowed := true, recurses := true, named := ["math/bits.deBruijn64tab"], apart := false, laid := [("math/bits.deBruijn64tab", laid_math_bits_deBruijn64tab)], narrowed := true }
def AxiomSerialUptoSaid : Prop := axiomSerialUptoRow.holds Tryz.pinned (OpenSpec.upto axiomSerialSpec)

/-- 'jacquardlaw12.AxiomAtomic', WHERE WHAT IT READS IS OF BULK AT MOST 1048576: true; the input reads as it did. -/
def axiomAtomicUptoRow : OpenClaim := { program := "yteobailpkkljpaagreatdoor", sum := "4df1bcfa2eab0e1a70b27a8c55fed7934d4f43ecda5e10f611c9b0935153627f", func := "jacquard/jacquardlaw12.AxiomAtomic", spec := "axiomAtomic", unfollowed := true, recurses := true, named := ["math/bits.deBruijn64tab"], apart := false, laid := [("math/bits.deBruijn64tab", laid_math_bits_deBruijn64tab)], narrowed := true }
def AxiomAtomicUptoSaid : Prop := axiomAtomicUptoRow.holds Tryz.pinned (OpenSpec.upto axiomAtomicSpec)

/-- 'jacquardlaw11.ExecTurned', WHERE WHAT IT READS IS OF BULK AT MOST 1048576: true; the input reads as it did. -/
def execTurnedUptoRow : OpenClaim := { program := "yteobailpkkljpaagreatdoor", sum := "4df1bcfa2eab0e1a70b27a8c55fed7934d4f43ecda5e10f611c9b0935153627f", func := "jacquard/jacquardlaw11.ExecTurned", spec := "execTurned", inPlace := ["internal/abi.NoEscape", "internal/bytealg.MakeNoZero"], unfollowed := true, recurses := true, named := ["math/bits.deBruijn64tab", "internal/strconv.uint64pow10", "math/bits.deBruijn32tab"], apart := false, laid := [("math/bits.deBruijn32tab", laid_math_bits_deBruijn32tab), ("math/bits.deBruijn64tab", laid_math_bits_deBruijn64tab), ("internal/strconv.uint64pow10", laid_internal_strconv_uint64pow10)], narrowed := true }
def ExecTurnedUptoSaid : Prop := execTurnedUptoRow.holds Tryz.pinned (OpenSpec.upto execTurnedSpec)

end Rows
end Go.Proofs.YteobailpkkljpaaGreatDoor
