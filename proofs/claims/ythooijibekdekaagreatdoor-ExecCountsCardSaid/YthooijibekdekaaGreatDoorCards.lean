/-
  DERIVED. GIVEN WITH THE SEED: THE CARDS: each row of YthooijibekdekaaGreatDoorRows.lean that lists a variable, with what it lists TIED to the program's text (the seventh form; the later family's looks); each row that meets fmt, with fmt's text TOLD by the authors' own Lean function (tested against real Go, not proved from fmt's source: count such statements apart). THE CARD IS WHAT COUNTS. Prove the row's statement (the work); the ties are given (YthooijibekdekaaGreatDoorTie.lean); close each card by the builder's one call (the guide's Derived/Test/ToyasCard.lean, 'card_holds'). Laid BY PROGRAM, IN A SANDBOX (cutbox-door.mjs). By AI agents, Wed Nov 11 2026. No macro, syntax, notation, axiom, sorry.
-/
import Derived.Test.YthooijibekdekaaGreatDoorRows
import GoSem.ClaimSeven
namespace Go.Proofs.YthooijibekdekaaGreatDoor
namespace Rows

/-- THE TIED CARD OF 'jacquardlaw11.ExecCounts'. -/
def execCountsCard : Claim7 := { stood := { row := execCountsRow, standIns := [], harness := (true, "b9c05d12d5dea04eca0dbb5f327e90b02e4c3b0cd2bfe451925bd385223a4995"), looks := false }, kinds := [], alts := [], laidByText := true, laidKinds := [.data, .data, .data], laidTests := true, laidLooks := .later }
def ExecCountsCardSaid : Prop := Claim7.holds Tryz.pinned (.plain (OpenSpec.ofChange execCountsSpec)) execCountsCard

/-- THE SECOND FORM's CARD OF 'jacquardlaw11.ExecCounts'. -/
def execCountsUptoCard : Claim7 := { stood := { row := execCountsUptoRow, standIns := [], harness := (true, "b9c05d12d5dea04eca0dbb5f327e90b02e4c3b0cd2bfe451925bd385223a4995"), looks := false }, kinds := [], alts := [], laidByText := true, laidKinds := [.data, .data, .data], laidTests := true, laidLooks := .later }
def ExecCountsUptoCardSaid : Prop := Claim7.holds Tryz.pinned (.plain (OpenSpec.upto execCountsSpec)) execCountsUptoCard
end Rows
end Go.Proofs.YthooijibekdekaaGreatDoor
