/-
  DERIVED. GIVEN WITH THE SEED: THE CARDS: each row of YtmaemogjdnlcoaaGreatDoorRows.lean that lists a variable, with what it lists TIED to the program's text (the seventh form; the later family's looks); each row that meets fmt, with fmt's text TOLD by the authors' own Lean function (tested against real Go, not proved from fmt's source: count such statements apart). THE CARD IS WHAT COUNTS. Prove the row's statement (the work); the ties are given (YtmaemogjdnlcoaaGreatDoorTie.lean); close each card by the builder's one call (the guide's Derived/Test/ToyasCard.lean, 'card_holds'). Laid BY PROGRAM, IN A SANDBOX (cutbox-door.mjs). By AI agents, Wed Nov 11 2026. No macro, syntax, notation, axiom, sorry.
-/
import Derived.Test.YtmaemogjdnlcoaaGreatDoorRows
import GoSem.ClaimSeven
namespace Go.Proofs.YtmaemogjdnlcoaaGreatDoor
namespace Rows

/-- THE TIED CARD OF 'jacquardlaw12.AxiomCounts'. -/
def axiomCountsCard : Claim7 := { stood := { row := axiomCountsRow, standIns := [], harness := (true, "bbb50214bbd0de5c672c4356273bef62b275cac9e593ec2118d9d1d52ffdf9da"), looks := false }, kinds := [], alts := [], laidByText := true, laidKinds := [.data], laidTests := true, laidLooks := .later }
def AxiomCountsCardSaid : Prop := Claim7.holds Tryz.pinned (.plain (OpenSpec.ofChange axiomCountsSpec)) axiomCountsCard

/-- THE TIED CARD OF 'jacquardlaw11.ExecCounts'. -/
def execCountsCard : Claim7 := { stood := { row := execCountsRow, standIns := [], harness := (true, "bbb50214bbd0de5c672c4356273bef62b275cac9e593ec2118d9d1d52ffdf9da"), looks := false }, kinds := [], alts := [], laidByText := true, laidKinds := [.data, .data, .data], laidTests := true, laidLooks := .later }
def ExecCountsCardSaid : Prop := Claim7.holds Tryz.pinned (.plain (OpenSpec.ofChange execCountsSpec)) execCountsCard

/-- THE TIED CARD OF 'jacquardlaw22.NaiveNone'. -/
def naiveNoneCard : Claim7 := { stood := { row := naiveNoneRow, standIns := [], harness := (true, "bbb50214bbd0de5c672c4356273bef62b275cac9e593ec2118d9d1d52ffdf9da"), looks := false }, kinds := [], alts := [], laidByText := true, laidKinds := [.data], laidTests := true, laidLooks := .later }
def NaiveNoneCardSaid : Prop := Claim7.holds Tryz.pinned (.plain (OpenSpec.ofChange naiveNoneSpec)) naiveNoneCard

/-- THE SECOND FORM's CARD OF 'jacquardlaw12.AxiomCounts'. -/
def axiomCountsUptoCard : Claim7 := { stood := { row := axiomCountsUptoRow, standIns := [], harness := (true, "bbb50214bbd0de5c672c4356273bef62b275cac9e593ec2118d9d1d52ffdf9da"), looks := false }, kinds := [], alts := [], laidByText := true, laidKinds := [.data], laidTests := true, laidLooks := .later }
def AxiomCountsUptoCardSaid : Prop := Claim7.holds Tryz.pinned (.plain (OpenSpec.upto axiomCountsSpec)) axiomCountsUptoCard

/-- THE SECOND FORM's CARD OF 'jacquardlaw11.ExecCounts'. -/
def execCountsUptoCard : Claim7 := { stood := { row := execCountsUptoRow, standIns := [], harness := (true, "bbb50214bbd0de5c672c4356273bef62b275cac9e593ec2118d9d1d52ffdf9da"), looks := false }, kinds := [], alts := [], laidByText := true, laidKinds := [.data, .data, .data], laidTests := true, laidLooks := .later }
def ExecCountsUptoCardSaid : Prop := Claim7.holds Tryz.pinned (.plain (OpenSpec.upto execCountsSpec)) execCountsUptoCard

/-- THE SECOND FORM's CARD OF 'jacquardlaw22.NaiveNone'. -/
def naiveNoneUptoCard : Claim7 := { stood := { row := naiveNoneUptoRow, standIns := [], harness := (true, "bbb50214bbd0de5c672c4356273bef62b275cac9e593ec2118d9d1d52ffdf9da"), looks := false }, kinds := [], alts := [], laidByText := true, laidKinds := [.data], laidTests := true, laidLooks := .later }
def NaiveNoneUptoCardSaid : Prop := Claim7.holds Tryz.pinned (.plain (OpenSpec.upto naiveNoneSpec)) naiveNoneUptoCard
end Rows
end Go.Proofs.YtmaemogjdnlcoaaGreatDoor
