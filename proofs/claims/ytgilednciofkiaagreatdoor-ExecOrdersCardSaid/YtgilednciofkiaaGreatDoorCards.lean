/-
  DERIVED. GIVEN WITH THE SEED: THE CARDS: each row of YtgilednciofkiaaGreatDoorRows.lean that lists a variable, with what it lists TIED to the program's text (the seventh form; the later family's looks); each row that meets fmt, with fmt's text TOLD by the authors' own Lean function (tested against real Go, not proved from fmt's source: count such statements apart). THE CARD IS WHAT COUNTS. Prove the row's statement (the work); the ties are given (YtgilednciofkiaaGreatDoorTie.lean); close each card by the builder's one call (the guide's Derived/Test/ToyasCard.lean, 'card_holds'). Laid BY PROGRAM, IN A SANDBOX (cutbox-door.mjs). By AI agents, Wed Nov 11 2026. No macro, syntax, notation, axiom, sorry.
-/
import Derived.Test.YtgilednciofkiaaGreatDoorRows
import GoSem.ClaimSeven
namespace Go.Proofs.YtgilednciofkiaaGreatDoor
namespace Rows

/-- THE TIED CARD OF 'jacquardlaw11.ExecOrders'. -/
def execOrdersCard : Claim7 := { stood := { row := execOrdersRow, standIns := [], harness := (true, "87077f0eef6328d6fe836c3f067290dcd6c3e2e7c0fc7d84025f7d5d0783352f"), looks := false }, kinds := [], alts := [], laidByText := true, laidKinds := [.data, .data, .data], laidTests := true, laidLooks := .later }
def ExecOrdersCardSaid : Prop := Claim7.holds Tryz.pinned (.plain (OpenSpec.ofChange execOrdersSpec)) execOrdersCard

/-- THE TIED CARD OF 'jacquardlaw13.FinalOf'. -/
def finalOfCard : Claim7 := { stood := { row := finalOfRow, standIns := [], harness := (true, "87077f0eef6328d6fe836c3f067290dcd6c3e2e7c0fc7d84025f7d5d0783352f"), looks := false }, kinds := [], alts := [], laidByText := true, laidKinds := [.data, .data, .data], laidTests := true, laidLooks := .later }
def FinalOfCardSaid : Prop := Claim7.holds Tryz.pinned (.plain (OpenSpec.ofChange finalOfSpec)) finalOfCard

/-- THE TIED CARD OF 'jacquardlaw12.AxiomWeaker'. -/
def axiomWeakerCard : Claim7 := { stood := { row := axiomWeakerRow, standIns := [], harness := (true, "87077f0eef6328d6fe836c3f067290dcd6c3e2e7c0fc7d84025f7d5d0783352f"), looks := false }, kinds := [], alts := [], laidByText := true, laidKinds := [.data], laidTests := true, laidLooks := .later }
def AxiomWeakerCardSaid : Prop := Claim7.holds Tryz.pinned (.plain (OpenSpec.ofChange axiomWeakerSpec)) axiomWeakerCard

/-- THE SECOND FORM's CARD OF 'jacquardlaw11.ExecOrders'. -/
def execOrdersUptoCard : Claim7 := { stood := { row := execOrdersUptoRow, standIns := [], harness := (true, "87077f0eef6328d6fe836c3f067290dcd6c3e2e7c0fc7d84025f7d5d0783352f"), looks := false }, kinds := [], alts := [], laidByText := true, laidKinds := [.data, .data, .data], laidTests := true, laidLooks := .later }
def ExecOrdersUptoCardSaid : Prop := Claim7.holds Tryz.pinned (.plain (OpenSpec.upto execOrdersSpec)) execOrdersUptoCard

/-- THE SECOND FORM's CARD OF 'jacquardlaw13.FinalOf'. -/
def finalOfUptoCard : Claim7 := { stood := { row := finalOfUptoRow, standIns := [], harness := (true, "87077f0eef6328d6fe836c3f067290dcd6c3e2e7c0fc7d84025f7d5d0783352f"), looks := false }, kinds := [], alts := [], laidByText := true, laidKinds := [.data, .data, .data], laidTests := true, laidLooks := .later }
def FinalOfUptoCardSaid : Prop := Claim7.holds Tryz.pinned (.plain (OpenSpec.upto finalOfSpec)) finalOfUptoCard

/-- THE SECOND FORM's CARD OF 'jacquardlaw12.AxiomWeaker'. -/
def axiomWeakerUptoCard : Claim7 := { stood := { row := axiomWeakerUptoRow, standIns := [], harness := (true, "87077f0eef6328d6fe836c3f067290dcd6c3e2e7c0fc7d84025f7d5d0783352f"), looks := false }, kinds := [], alts := [], laidByText := true, laidKinds := [.data], laidTests := true, laidLooks := .later }
def AxiomWeakerUptoCardSaid : Prop := Claim7.holds Tryz.pinned (.plain (OpenSpec.upto axiomWeakerSpec)) axiomWeakerUptoCard
end Rows
end Go.Proofs.YtgilednciofkiaaGreatDoor
