/-
  No cell of these rows narrows 'for every input' (looked for: loops, veiled, ifaces, maps, wideKeys, modest, calm, conditions, laid).
  DERIVED. THE GIVEN ROWS OF THIS SEAT. 4 by the template 'for every input the law returns true; each argument reads behind the call as it read before'; 0 by the template 'total and deterministic' (their statements: YtcgpmahbigdikaaTotals.lean).
  GIVEN WITH THE SEED: the statements are not yours to turn. If you find one false, say at which input.
  Laid BY PROGRAM, IN A SANDBOX (cutbox-rows.mjs): the forced cells as the released guide's own fill.sh prints them over the translation 151088f912c5428a… (all of the seat's roots in one cut). By AI agents, Wed Nov 11 2026. No macro, syntax, notation, axiom, sorry.
-/
import Derived.Test.YtcgpmahbigdikaaChecked
import GoSem.Claim
import GoSem.ClaimJoined
import GoSem.ClaimMapViews
import Derived.JoinedTies
import Derived.KernelRfl
namespace Go.Proofs.Ytcgpmahbigdikaa
/- THE CELL 'sum', in the pinned program and in every row, IS THE sha256 OF THE DUMP (.gsa) THAT YtcgpmahbigdikaaProg.lean LOADS. Nothing in Lean hashes anything: it is a label: what it is worth is what the hold of that sum in a sandbox is worth. -/
noncomputable def Try.pinned : Pinned := { name := "ytcgpmahbigdikaa", sum := "151088f912c5428a44b5a2774ca76668be7c3e916bd724b8c51687b1671ab300", checked := Try.checked }
namespace Rows
def none {H : Type} : Left H := { results := [], args := [] }

/-- 'jacquardlaw15.BufFull': WHATEVER THE INPUT: true; the input reads as it did. -/
def bufFullSpec : ChangeSpec := { name := "bufFull", fn := fun _ => fun
  | [d1, d2, d3] => { results := [.lit (.bool true)], args := [d1, d2, d3] }
  | _ => none }
def bufFullRow : OpenClaim := { program := "ytcgpmahbigdikaa", sum := "151088f912c5428a44b5a2774ca76668be7c3e916bd724b8c51687b1671ab300", func := "jacquard/jacquardlaw15.BufFull", spec := "bufFull", apart := false }
def BufFullSaid : Prop := bufFullRow.holds Try.pinned (OpenSpec.ofChange bufFullSpec)

/-- ITS FALSE NEIGHBOUR: 'it returns false'. Refute it at one input. -/
def bufFullWrong : ChangeSpec := { name := "bufFull", fn := fun _ => fun
  | [d1, d2, d3] => { results := [.lit (.bool false)], args := [d1, d2, d3] }
  | _ => none }
def BufFullWrongFalsely : Prop := bufFullRow.holds Try.pinned (OpenSpec.ofChange bufFullWrong)

/-- 'jacquardlaw15.BufValues': WHATEVER THE INPUT: true; the input reads as it did. -/
def bufValuesSpec : ChangeSpec := { name := "bufValues", fn := fun _ => fun
  | [d1, d2] => { results := [.lit (.bool true)], args := [d1, d2] }
  | _ => none }
def bufValuesRow : OpenClaim := { program := "ytcgpmahbigdikaa", sum := "151088f912c5428a44b5a2774ca76668be7c3e916bd724b8c51687b1671ab300", func := "jacquard/jacquardlaw15.BufValues", spec := "bufValues", apart := false }
def BufValuesSaid : Prop := bufValuesRow.holds Try.pinned (OpenSpec.ofChange bufValuesSpec)

/-- ITS FALSE NEIGHBOUR: 'it returns false'. Refute it at one input. -/
def bufValuesWrong : ChangeSpec := { name := "bufValues", fn := fun _ => fun
  | [d1, d2] => { results := [.lit (.bool false)], args := [d1, d2] }
  | _ => none }
def BufValuesWrongFalsely : Prop := bufValuesRow.holds Try.pinned (OpenSpec.ofChange bufValuesWrong)

/-- 'jacquardlaw15.BufOrder': WHATEVER THE INPUT: true; the input reads as it did. -/
def bufOrderSpec : ChangeSpec := { name := "bufOrder", fn := fun _ => fun
  | [d] => { results := [.lit (.bool true)], args := [d] }
  | _ => none }
def bufOrderRow : OpenClaim := { program := "ytcgpmahbigdikaa", sum := "151088f912c5428a44b5a2774ca76668be7c3e916bd724b8c51687b1671ab300", func := "jacquard/jacquardlaw15.BufOrder", spec := "bufOrder", apart := false }
def BufOrderSaid : Prop := bufOrderRow.holds Try.pinned (OpenSpec.ofChange bufOrderSpec)

/-- ITS FALSE NEIGHBOUR: 'it returns false'. Refute it at one input. -/
def bufOrderWrong : ChangeSpec := { name := "bufOrder", fn := fun _ => fun
  | [d] => { results := [.lit (.bool false)], args := [d] }
  | _ => none }
def BufOrderWrongFalsely : Prop := bufOrderRow.holds Try.pinned (OpenSpec.ofChange bufOrderWrong)

/-- 'jacquardlaw15.BufPlays': WHATEVER THE INPUT: true; the input reads as it did. -/
def bufPlaysSpec : ChangeSpec := { name := "bufPlays", fn := fun _ => fun
  | [d1, d2, d3] => { results := [.lit (.bool true)], args := [d1, d2, d3] }
  | _ => none }
def bufPlaysRow : OpenClaim := { program := "ytcgpmahbigdikaa", sum := "151088f912c5428a44b5a2774ca76668be7c3e916bd724b8c51687b1671ab300", func := "jacquard/jacquardlaw15.BufPlays", spec := "bufPlays", apart := false }
def BufPlaysSaid : Prop := bufPlaysRow.holds Try.pinned (OpenSpec.ofChange bufPlaysSpec)

/-- ITS FALSE NEIGHBOUR: 'it returns false'. Refute it at one input. -/
def bufPlaysWrong : ChangeSpec := { name := "bufPlays", fn := fun _ => fun
  | [d1, d2, d3] => { results := [.lit (.bool false)], args := [d1, d2, d3] }
  | _ => none }
def BufPlaysWrongFalsely : Prop := bufPlaysRow.holds Try.pinned (OpenSpec.ofChange bufPlaysWrong)

/- THE SECOND FORM. 'bulk': how many values and letters a reading holds, each counted each time it is reached (what is shared counts as often as it is met; a slice's spare places count too). A statement '..UptoSaid' is the law's where the arguments, and the package variables that the reading takes, are together of bulk at most 1048576: NARROWER than '..Said'. Prove '..Said' where nothing that the law and all that it calls make is longer than what came in: it says more and counts as full. Else prove '..UptoSaid'. A law counts once. -/
mutual
def uptoBulk {H : Type} : DataW H → Nat
  | .lit (.string bytes) => bytes.length + 1
  | .lit _ => 1
  | .nil => 1
  | .ptr d => uptoBulk d + 1
  | .slice elems spare => uptoBulkAll elems + uptoBulkAll spare + 1
  | .agg parts => uptoBulkAll parts + 1
  | .iface _ d => uptoBulk d + 1
  | .map entries => uptoBulkEntries entries + 1
  | .held _ => 1
def uptoBulkAll {H : Type} : List (DataW H) → Nat
  | [] => 0
  | d :: r => uptoBulk d + uptoBulkAll r
def uptoBulkEntries {H : Type} : List (Lit × DataW H) → Nat
  | [] => 0
  | x :: r => uptoBulkEntry x + uptoBulkEntries r
def uptoBulkEntry {H : Type} : Lit × DataW H → Nat
  | (.string bytes, d) => bytes.length + uptoBulk d + 1
  | (_, d) => uptoBulk d + 1
 end
def uptoSmall : (H : Type) → List (DataW H) → Bool := fun _ ds => decide (uptoBulkAll ds ≤ 1048576)
def OpenSpec.upto (s : _root_.Go.ChangeSpec) : _root_.Go.OpenSpec := { _root_.Go.OpenSpec.ofChange s with cond := some uptoSmall }

/-- 'jacquardlaw15.BufFull', WHERE WHAT IT READS IS OF BULK AT MOST 1048576: true; the input reads as it did. -/
def bufFullUptoRow : OpenClaim := { program := "ytcgpmahbigdikaa", sum := "151088f912c5428a44b5a2774ca76668be7c3e916bd724b8c51687b1671ab300", func := "jacquard/jacquardlaw15.BufFull", spec := "bufFull", apart := false, narrowed := true }
def BufFullUptoSaid : Prop := bufFullUptoRow.holds Try.pinned (OpenSpec.upto bufFullSpec)

/-- 'jacquardlaw15.BufValues', WHERE WHAT IT READS IS OF BULK AT MOST 1048576: true; the input reads as it did. -/
def bufValuesUptoRow : OpenClaim := { program := "ytcgpmahbigdikaa", sum := "151088f912c5428a44b5a2774ca76668be7c3e916bd724b8c51687b1671ab300", func := "jacquard/jacquardlaw15.BufValues", spec := "bufValues", apart := false, narrowed := true }
def BufValuesUptoSaid : Prop := bufValuesUptoRow.holds Try.pinned (OpenSpec.upto bufValuesSpec)

/-- 'jacquardlaw15.BufOrder', WHERE WHAT IT READS IS OF BULK AT MOST 1048576: true; the input reads as it did. -/
def bufOrderUptoRow : OpenClaim := { program := "ytcgpmahbigdikaa", sum := "151088f912c5428a44b5a2774ca76668be7c3e916bd724b8c51687b1671ab300", func := "jacquard/jacquardlaw15.BufOrder", spec := "bufOrder", apart := false, narrowed := true }
def BufOrderUptoSaid : Prop := bufOrderUptoRow.holds Try.pinned (OpenSpec.upto bufOrderSpec)

/-- 'jacquardlaw15.BufPlays', WHERE WHAT IT READS IS OF BULK AT MOST 1048576: true; the input reads as it did. -/
def bufPlaysUptoRow : OpenClaim := { program := "ytcgpmahbigdikaa", sum := "151088f912c5428a44b5a2774ca76668be7c3e916bd724b8c51687b1671ab300", func := "jacquard/jacquardlaw15.BufPlays", spec := "bufPlays", apart := false, narrowed := true }
def BufPlaysUptoSaid : Prop := bufPlaysUptoRow.holds Try.pinned (OpenSpec.upto bufPlaysSpec)

end Rows
end Go.Proofs.Ytcgpmahbigdikaa
