/-
  DERIVED. GIVEN WITH THE SEED: THE CARDS: each row of YtggldnbhmebcpaaGreatDoorRows.lean that lists a variable, with what it lists TIED to the program's text (the seventh form; the later family's looks); each row that meets fmt, with fmt's text TOLD by the authors' own Lean function (tested against real Go, not proved from fmt's source: count such statements apart). THE CARD IS WHAT COUNTS. Prove the row's statement (the work); the ties are given (YtggldnbhmebcpaaGreatDoorTie.lean); close each card by the builder's one call (the guide's Derived/Test/ToyasCard.lean, 'card_holds'). Laid BY PROGRAM, IN A SANDBOX (cutbox-door.mjs). By AI agents, Wed Nov 11 2026. No macro, syntax, notation, axiom, sorry.
-/
import Derived.Test.YtggldnbhmebcpaaGreatDoorRows
import GoSem.ClaimSeven
namespace Go.Proofs.YtggldnbhmebcpaaGreatDoor
namespace Rows

/-- THE TIED CARD OF 'dioramalaw22.DeltaMakes'. -/
def deltaMakesCard : Claim7 := { stood := { row := deltaMakesRow, standIns := [], harness := (true, "e04e5f368ad3c2bf0694bf191675e29cfe5459737e0d8c947c987908c85a0c5a"), looks := false }, kinds := [], alts := [], laidByText := true, laidKinds := [.data, .data, .data, .data, .pinned, .pinned, .pinned, .pinned, .pinned, .pinned], laidTests := true, laidLooks := .later }
def DeltaMakesCardSaid : Prop := Claim7.holds Tryz.pinned (.plain (OpenSpec.ofChange deltaMakesSpec)) deltaMakesCard

/-- THE TIED CARD OF 'dioramalaw22.DeltaSame'. -/
def deltaSameCard : Claim7 := { stood := { row := deltaSameRow, standIns := [], harness := (true, "e04e5f368ad3c2bf0694bf191675e29cfe5459737e0d8c947c987908c85a0c5a"), looks := false }, kinds := [], alts := [], laidByText := true, laidKinds := [.data, .data, .data, .data, .pinned, .pinned, .pinned, .pinned, .pinned, .pinned], laidTests := true, laidLooks := .later }
def DeltaSameCardSaid : Prop := Claim7.holds Tryz.pinned (.plain (OpenSpec.ofChange deltaSameSpec)) deltaSameCard

/-- THE TIED CARD OF 'dioramalaw22.DeltaOps'. -/
def deltaOpsCard : Claim7 := { stood := { row := deltaOpsRow, standIns := [], harness := (true, "e04e5f368ad3c2bf0694bf191675e29cfe5459737e0d8c947c987908c85a0c5a"), looks := false }, kinds := [], alts := [], laidByText := true, laidKinds := [.data, .data, .data, .data, .pinned, .pinned, .pinned, .pinned, .pinned, .pinned], laidTests := true, laidLooks := .later }
def DeltaOpsCardSaid : Prop := Claim7.holds Tryz.pinned (.plain (OpenSpec.ofChange deltaOpsSpec)) deltaOpsCard

/-- THE TIED CARD OF 'dioramalaw22.DeltaKeeps'. -/
def deltaKeepsCard : Claim7 := { stood := { row := deltaKeepsRow, standIns := [], harness := (true, "e04e5f368ad3c2bf0694bf191675e29cfe5459737e0d8c947c987908c85a0c5a"), looks := false }, kinds := [], alts := [], laidByText := true, laidKinds := [.data, .data, .data, .data, .pinned, .pinned, .pinned, .pinned, .pinned, .pinned], laidTests := true, laidLooks := .later }
def DeltaKeepsCardSaid : Prop := Claim7.holds Tryz.pinned (.plain (OpenSpec.ofChange deltaKeepsSpec)) deltaKeepsCard

/-- THE TIED CARD OF 'dioramalaw22.DeltaNew'. -/
def deltaNewCard : Claim7 := { stood := { row := deltaNewRow, standIns := [], harness := (true, "e04e5f368ad3c2bf0694bf191675e29cfe5459737e0d8c947c987908c85a0c5a"), looks := false }, kinds := [], alts := [], laidByText := true, laidKinds := [.data, .data, .data, .data, .pinned, .pinned, .pinned, .pinned, .pinned, .pinned], laidTests := true, laidLooks := .later }
def DeltaNewCardSaid : Prop := Claim7.holds Tryz.pinned (.plain (OpenSpec.ofChange deltaNewSpec)) deltaNewCard

/-- THE TIED CARD OF 'dioramalaw23.RebuildBack'. -/
def rebuildBackCard : Claim7 := { stood := { row := rebuildBackRow, standIns := [], harness := (true, "e04e5f368ad3c2bf0694bf191675e29cfe5459737e0d8c947c987908c85a0c5a"), looks := false }, kinds := [], alts := [], laidByText := true, laidKinds := [.data, .data, .data, .data, .pinned, .pinned, .pinned, .pinned, .pinned, .pinned], laidTests := true, laidLooks := .later }
def RebuildBackCardSaid : Prop := Claim7.holds Tryz.pinned (.plain (OpenSpec.ofChange rebuildBackSpec)) rebuildBackCard

/-- THE SECOND FORM's CARD OF 'dioramalaw22.DeltaMakes'. -/
def deltaMakesUptoCard : Claim7 := { stood := { row := deltaMakesUptoRow, standIns := [], harness := (true, "e04e5f368ad3c2bf0694bf191675e29cfe5459737e0d8c947c987908c85a0c5a"), looks := false }, kinds := [], alts := [], laidByText := true, laidKinds := [.data, .data, .data, .data, .pinned, .pinned, .pinned, .pinned, .pinned, .pinned], laidTests := true, laidLooks := .later }
def DeltaMakesUptoCardSaid : Prop := Claim7.holds Tryz.pinned (.plain (OpenSpec.upto deltaMakesSpec)) deltaMakesUptoCard

/-- THE SECOND FORM's CARD OF 'dioramalaw22.DeltaSame'. -/
def deltaSameUptoCard : Claim7 := { stood := { row := deltaSameUptoRow, standIns := [], harness := (true, "e04e5f368ad3c2bf0694bf191675e29cfe5459737e0d8c947c987908c85a0c5a"), looks := false }, kinds := [], alts := [], laidByText := true, laidKinds := [.data, .data, .data, .data, .pinned, .pinned, .pinned, .pinned, .pinned, .pinned], laidTests := true, laidLooks := .later }
def DeltaSameUptoCardSaid : Prop := Claim7.holds Tryz.pinned (.plain (OpenSpec.upto deltaSameSpec)) deltaSameUptoCard

/-- THE SECOND FORM's CARD OF 'dioramalaw22.DeltaOps'. -/
def deltaOpsUptoCard : Claim7 := { stood := { row := deltaOpsUptoRow, standIns := [], harness := (true, "e04e5f368ad3c2bf0694bf191675e29cfe5459737e0d8c947c987908c85a0c5a"), looks := false }, kinds := [], alts := [], laidByText := true, laidKinds := [.data, .data, .data, .data, .pinned, .pinned, .pinned, .pinned, .pinned, .pinned], laidTests := true, laidLooks := .later }
def DeltaOpsUptoCardSaid : Prop := Claim7.holds Tryz.pinned (.plain (OpenSpec.upto deltaOpsSpec)) deltaOpsUptoCard

/-- THE SECOND FORM's CARD OF 'dioramalaw22.DeltaKeeps'. -/
def deltaKeepsUptoCard : Claim7 := { stood := { row := deltaKeepsUptoRow, standIns := [], harness := (true, "e04e5f368ad3c2bf0694bf191675e29cfe5459737e0d8c947c987908c85a0c5a"), looks := false }, kinds := [], alts := [], laidByText := true, laidKinds := [.data, .data, .data, .data, .pinned, .pinned, .pinned, .pinned, .pinned, .pinned], laidTests := true, laidLooks := .later }
def DeltaKeepsUptoCardSaid : Prop := Claim7.holds Tryz.pinned (.plain (OpenSpec.upto deltaKeepsSpec)) deltaKeepsUptoCard

/-- THE SECOND FORM's CARD OF 'dioramalaw22.DeltaNew'. -/
def deltaNewUptoCard : Claim7 := { stood := { row := deltaNewUptoRow, standIns := [], harness := (true, "e04e5f368ad3c2bf0694bf191675e29cfe5459737e0d8c947c987908c85a0c5a"), looks := false }, kinds := [], alts := [], laidByText := true, laidKinds := [.data, .data, .data, .data, .pinned, .pinned, .pinned, .pinned, .pinned, .pinned], laidTests := true, laidLooks := .later }
def DeltaNewUptoCardSaid : Prop := Claim7.holds Tryz.pinned (.plain (OpenSpec.upto deltaNewSpec)) deltaNewUptoCard

/-- THE SECOND FORM's CARD OF 'dioramalaw23.RebuildBack'. -/
def rebuildBackUptoCard : Claim7 := { stood := { row := rebuildBackUptoRow, standIns := [], harness := (true, "e04e5f368ad3c2bf0694bf191675e29cfe5459737e0d8c947c987908c85a0c5a"), looks := false }, kinds := [], alts := [], laidByText := true, laidKinds := [.data, .data, .data, .data, .pinned, .pinned, .pinned, .pinned, .pinned, .pinned], laidTests := true, laidLooks := .later }
def RebuildBackUptoCardSaid : Prop := Claim7.holds Tryz.pinned (.plain (OpenSpec.upto rebuildBackSpec)) rebuildBackUptoCard
end Rows
end Go.Proofs.YtggldnbhmebcpaaGreatDoor
