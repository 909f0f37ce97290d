/-
  DERIVED. GIVEN WITH THE SEED: THE CARDS: each row of YtnojkhkbnjcghaaGreatDoorRows.lean that lists a variable, with what it lists TIED to the program's text (the seventh form; the later family's looks); each row that meets fmt, with fmt's text TOLD by the authors' own Lean function (tested against real Go, not proved from fmt's source: count such statements apart). THE CARD IS WHAT COUNTS. Prove the row's statement (the work); the ties are given (YtnojkhkbnjcghaaGreatDoorTie.lean); close each card by the builder's one call (the guide's Derived/Test/ToyasCard.lean, 'card_holds'). Laid BY PROGRAM, IN A SANDBOX (cutbox-door.mjs). By AI agents, Wed Nov 11 2026. No macro, syntax, notation, axiom, sorry.
-/
import Derived.Test.YtnojkhkbnjcghaaGreatDoorRows
import GoSem.ClaimSeven
namespace Go.Proofs.YtnojkhkbnjcghaaGreatDoor
namespace Rows

/-- THE TIED CARD OF 'jacquardlaw12.AxiomFenced'. -/
def axiomFencedCard : Claim7 := { stood := { row := axiomFencedRow, standIns := [], harness := (true, "41a8fcca53370f362fab9da835479e5f0877ddb89a2ce742ed4bf1889ddfb4bf"), looks := false }, kinds := [], alts := [], laidByText := true, laidKinds := [.data], laidTests := true, laidLooks := .later }
def AxiomFencedCardSaid : Prop := Claim7.holds Tryz.pinned (.plain (OpenSpec.ofChange axiomFencedSpec)) axiomFencedCard

/-- THE SECOND FORM's CARD OF 'jacquardlaw12.AxiomFenced'. -/
def axiomFencedUptoCard : Claim7 := { stood := { row := axiomFencedUptoRow, standIns := [], harness := (true, "41a8fcca53370f362fab9da835479e5f0877ddb89a2ce742ed4bf1889ddfb4bf"), looks := false }, kinds := [], alts := [], laidByText := true, laidKinds := [.data], laidTests := true, laidLooks := .later }
def AxiomFencedUptoCardSaid : Prop := Claim7.holds Tryz.pinned (.plain (OpenSpec.upto axiomFencedSpec)) axiomFencedUptoCard
end Rows
end Go.Proofs.YtnojkhkbnjcghaaGreatDoor
