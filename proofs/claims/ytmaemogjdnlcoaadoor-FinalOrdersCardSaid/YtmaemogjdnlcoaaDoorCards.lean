/-
  DERIVED. GIVEN WITH THE SEED: THE CARDS: each row of YtmaemogjdnlcoaaDoorRows.lean that lists a variable, with what it lists TIED to the program's text (the seventh form; the later family's looks); each row that meets fmt, with fmt's text TOLD by the authors' own Lean function (tested against real Go, not proved from fmt's source: count such statements apart). THE CARD IS WHAT COUNTS. Prove the row's statement (the work); the ties are given (YtmaemogjdnlcoaaDoorTie.lean); close each card by the builder's one call (the guide's Derived/Test/ToyasCard.lean, 'card_holds'). Laid BY PROGRAM, IN A SANDBOX (cutbox-door.mjs). By AI agents, Wed Nov 11 2026. No macro, syntax, notation, axiom, sorry.
-/
import Derived.Test.YtmaemogjdnlcoaaDoorRows
import GoSem.ClaimSeven
namespace Go.Proofs.YtmaemogjdnlcoaaDoor
namespace Rows

/-- THE TIED CARD OF 'jacquardlaw13.FinalOrders'. -/
def finalOrdersCard : Claim7 := { stood := { row := finalOrdersRow, standIns := [], harness := (true, "f34fcd80d71eea40d881984f161630f914a1cd5c9384752b3768f44204a0392f"), looks := false }, kinds := [], alts := [], laidByText := true, laidKinds := [.data, .data, .data], laidTests := true, laidLooks := .later }
def FinalOrdersCardSaid : Prop := Claim7.holds Tryd.pinned (.plain (OpenSpec.ofChange finalOrdersSpec)) finalOrdersCard

/-- THE SECOND FORM's CARD OF 'jacquardlaw13.FinalOrders'. -/
def finalOrdersUptoCard : Claim7 := { stood := { row := finalOrdersUptoRow, standIns := [], harness := (true, "f34fcd80d71eea40d881984f161630f914a1cd5c9384752b3768f44204a0392f"), looks := false }, kinds := [], alts := [], laidByText := true, laidKinds := [.data, .data, .data], laidTests := true, laidLooks := .later }
def FinalOrdersUptoCardSaid : Prop := Claim7.holds Tryd.pinned (.plain (OpenSpec.upto finalOrdersSpec)) finalOrdersUptoCard
end Rows
end Go.Proofs.YtmaemogjdnlcoaaDoor
