/-
  DERIVED. GIVEN WITH THE SEED: THE CARDS: each row of YtghlejnndjioiaaDoorRows.lean that lists a variable, with what it lists TIED to the program's text (the seventh form; the later family's looks); each row that meets fmt, with fmt's text TOLD by the authors' own Lean function (tested against real Go, not proved from fmt's source: count such statements apart). THE CARD IS WHAT COUNTS. Prove the row's statement (the work); the ties are given (YtghlejnndjioiaaDoorTie.lean); close each card by the builder's one call (the guide's Derived/Test/ToyasCard.lean, 'card_holds'). Laid BY PROGRAM, IN A SANDBOX (cutbox-door.mjs). By AI agents, Wed Nov 11 2026. No macro, syntax, notation, axiom, sorry.
-/
import Derived.Test.YtghlejnndjioiaaDoorRows
import GoSem.ClaimSeven
namespace Go.Proofs.YtghlejnndjioiaaDoor
namespace Rows

/-- THE TIED CARD OF 'jacquardlaw19.TraceMany'. -/
def traceManyCard : Claim7 := { stood := { row := traceManyRow, standIns := [], harness := (true, "0a01d6e995d34b7e7f97ca4454c04b3a95eef9d628c8751e4a302d75b7dab32e"), looks := false }, kinds := [], alts := [], laidByText := true, laidKinds := [.data], laidTests := true, laidLooks := .later }
def TraceManyCardSaid : Prop := Claim7.holds Tryd.pinned (.plain (OpenSpec.ofChange traceManySpec)) traceManyCard

/-- THE TIED CARD OF 'jacquardlaw13.FinalTexts'. -/
def finalTextsCard : Claim7 := { stood := { row := finalTextsRow, standIns := [], harness := (true, "0a01d6e995d34b7e7f97ca4454c04b3a95eef9d628c8751e4a302d75b7dab32e"), looks := false }, kinds := [], alts := [], laidByText := true, laidKinds := [.data, .data, .data], laidTests := true, laidLooks := .later }
def FinalTextsCardSaid : Prop := Claim7.holds Tryd.pinned (.plain (OpenSpec.ofChange finalTextsSpec)) finalTextsCard

/-- THE SECOND FORM's CARD OF 'jacquardlaw19.TraceMany'. -/
def traceManyUptoCard : Claim7 := { stood := { row := traceManyUptoRow, standIns := [], harness := (true, "0a01d6e995d34b7e7f97ca4454c04b3a95eef9d628c8751e4a302d75b7dab32e"), looks := false }, kinds := [], alts := [], laidByText := true, laidKinds := [.data], laidTests := true, laidLooks := .later }
def TraceManyUptoCardSaid : Prop := Claim7.holds Tryd.pinned (.plain (OpenSpec.upto traceManySpec)) traceManyUptoCard

/-- THE SECOND FORM's CARD OF 'jacquardlaw13.FinalTexts'. -/
def finalTextsUptoCard : Claim7 := { stood := { row := finalTextsUptoRow, standIns := [], harness := (true, "0a01d6e995d34b7e7f97ca4454c04b3a95eef9d628c8751e4a302d75b7dab32e"), looks := false }, kinds := [], alts := [], laidByText := true, laidKinds := [.data, .data, .data], laidTests := true, laidLooks := .later }
def FinalTextsUptoCardSaid : Prop := Claim7.holds Tryd.pinned (.plain (OpenSpec.upto finalTextsSpec)) finalTextsUptoCard
end Rows
end Go.Proofs.YtghlejnndjioiaaDoor
