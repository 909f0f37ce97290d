/-
  DERIVED. GIVEN WITH THE SEED: THE CARDS: each row of YteobailpkkljpaaGreatDoorRows.lean that lists a variable, with what it lists TIED to the program's text (the seventh form; the later family's looks); each row that meets fmt, with fmt's text TOLD by the authors' own Lean function (tested against real Go, not proved from fmt's source: count such statements apart). THE CARD IS WHAT COUNTS. Prove the row's statement (the work); the ties are given (YteobailpkkljpaaGreatDoorTie.lean); close each card by the builder's one call (the guide's Derived/Test/ToyasCard.lean, 'card_holds'). Laid BY PROGRAM, IN A SANDBOX (cutbox-door.mjs). By AI agents, Wed Nov 11 2026. No macro, syntax, notation, axiom, sorry.
-/
import Derived.Test.YteobailpkkljpaaGreatDoorRows
import GoSem.ClaimSeven
namespace Go.Proofs.YteobailpkkljpaaGreatDoor
namespace Rows

/-- THE TIED CARD OF 'jacquardlaw11.ExecNowhere'. -/
def execNowhereCard : Claim7 := { stood := { row := execNowhereRow, standIns := [], harness := (true, "6c36d505c4417e45506724b3e5b0458f07c3d4e89275cf9d9d7cea792f4238e7"), looks := false }, kinds := [], alts := [], laidByText := true, laidKinds := [.data, .data, .data], laidTests := true, laidLooks := .later }
def ExecNowhereCardSaid : Prop := Claim7.holds Tryz.pinned (.plain (OpenSpec.ofChange execNowhereSpec)) execNowhereCard

/-- THE TIED CARD OF 'jacquardlaw12.AxiomOwn'. -/
def axiomOwnCard : Claim7 := { stood := { row := axiomOwnRow, standIns := [], harness := (true, "6c36d505c4417e45506724b3e5b0458f07c3d4e89275cf9d9d7cea792f4238e7"), looks := false }, kinds := [], alts := [], laidByText := true, laidKinds := [.data], laidTests := true, laidLooks := .later }
def AxiomOwnCardSaid : Prop := Claim7.holds Tryz.pinned (.plain (OpenSpec.ofChange axiomOwnSpec)) axiomOwnCard

/-- THE TIED CARD OF 'jacquardlaw12.AxiomSerial'. -/
def axiomSerialCard : Claim7 := { stood := { row := axiomSerialRow, standIns := [], harness := (true, "6c36d505c4417e45506724b3e5b0458f07c3d4e89275cf9d9d7cea792f4238e7"), looks := false }, kinds := [], alts := [], laidByText := true, laidKinds := [.data], laidTests := true, laidLooks := .later }
def AxiomSerialCardSaid : Prop := Claim7.holds Tryz.pinned (.plain (OpenSpec.ofChange axiomSerialSpec)) axiomSerialCard

/-- THE TIED CARD OF 'jacquardlaw12.AxiomAtomic'. -/
def axiomAtomicCard : Claim7 := { stood := { row := axiomAtomicRow, standIns := [], harness := (true, "6c36d505c4417e45506724b3e5b0458f07c3d4e89275cf9d9d7cea792f4238e7"), looks := false }, kinds := [], alts := [], laidByText := true, laidKinds := [.data], laidTests := true, laidLooks := .later }
def AxiomAtomicCardSaid : Prop := Claim7.holds Tryz.pinned (.plain (OpenSpec.ofChange axiomAtomicSpec)) axiomAtomicCard

/-- THE TIED CARD OF 'jacquardlaw11.ExecTurned'. -/
def execTurnedCard : Claim7 := { stood := { row := execTurnedRow, standIns := [], harness := (true, "6c36d505c4417e45506724b3e5b0458f07c3d4e89275cf9d9d7cea792f4238e7"), looks := false }, kinds := [], alts := [], laidByText := true, laidKinds := [.data, .data, .data], laidTests := true, laidLooks := .later }
def ExecTurnedCardSaid : Prop := Claim7.holds Tryz.pinned (.plain (OpenSpec.ofChange execTurnedSpec)) execTurnedCard

/-- THE SECOND FORM's CARD OF 'jacquardlaw11.ExecNowhere'. -/
def execNowhereUptoCard : Claim7 := { stood := { row := execNowhereUptoRow, standIns := [], harness := (true, "6c36d505c4417e45506724b3e5b0458f07c3d4e89275cf9d9d7cea792f4238e7"), looks := false }, kinds := [], alts := [], laidByText := true, laidKinds := [.data, .data, .data], laidTests := true, laidLooks := .later }
def ExecNowhereUptoCardSaid : Prop := Claim7.holds Tryz.pinned (.plain (OpenSpec.upto execNowhereSpec)) execNowhereUptoCard

/-- THE SECOND FORM's CARD OF 'jacquardlaw12.AxiomOwn'. -/
def axiomOwnUptoCard : Claim7 := { stood := { row := axiomOwnUptoRow, standIns := [], harness := (true, "6c36d505c4417e45506724b3e5b0458f07c3d4e89275cf9d9d7cea792f4238e7"), looks := false }, kinds := [], alts := [], laidByText := true, laidKinds := [.data], laidTests := true, laidLooks := .later }
def AxiomOwnUptoCardSaid : Prop := Claim7.holds Tryz.pinned (.plain (OpenSpec.upto axiomOwnSpec)) axiomOwnUptoCard

/-- THE SECOND FORM's CARD OF 'jacquardlaw12.AxiomSerial'. -/
def axiomSerialUptoCard : Claim7 := { stood := { row := axiomSerialUptoRow, standIns := [], harness := (true, "6c36d505c4417e45506724b3e5b0458f07c3d4e89275cf9d9d7cea792f4238e7"), looks := false }, kinds := [], alts := [], laidByText := true, laidKinds := [.data], laidTests := true, laidLooks := .later }
def AxiomSerialUptoCardSaid : Prop := Claim7.holds Tryz.pinned (.plain (OpenSpec.upto axiomSerialSpec)) axiomSerialUptoCard

/-- THE SECOND FORM's CARD OF 'jacquardlaw12.AxiomAtomic'. -/
def axiomAtomicUptoCard : Claim7 := { stood := { row := axiomAtomicUptoRow, standIns := [], harness := (true, "6c36d505c4417e45506724b3e5b0458f07c3d4e89275cf9d9d7cea792f4238e7"), looks := false }, kinds := [], alts := [], laidByText := true, laidKinds := [.data], laidTests := true, laidLooks := .later }
def AxiomAtomicUptoCardSaid : Prop := Claim7.holds Tryz.pinned (.plain (OpenSpec.upto axiomAtomicSpec)) axiomAtomicUptoCard

/-- THE SECOND FORM's CARD OF 'jacquardlaw11.ExecTurned'. -/
def execTurnedUptoCard : Claim7 := { stood := { row := execTurnedUptoRow, standIns := [], harness := (true, "6c36d505c4417e45506724b3e5b0458f07c3d4e89275cf9d9d7cea792f4238e7"), looks := false }, kinds := [], alts := [], laidByText := true, laidKinds := [.data, .data, .data], laidTests := true, laidLooks := .later }
def ExecTurnedUptoCardSaid : Prop := Claim7.holds Tryz.pinned (.plain (OpenSpec.upto execTurnedSpec)) execTurnedUptoCard
end Rows
end Go.Proofs.YteobailpkkljpaaGreatDoor
