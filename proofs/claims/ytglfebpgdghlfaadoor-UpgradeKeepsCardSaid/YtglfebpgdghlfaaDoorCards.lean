/-
  DERIVED. GIVEN WITH THE SEED: THE CARDS: each row of YtglfebpgdghlfaaDoorRows.lean that lists a variable, with what it lists TIED to the program's text (the seventh form; the later family's looks); each row that meets fmt, with fmt's text TOLD by the authors' own Lean function (tested against real Go, not proved from fmt's source: count such statements apart). THE CARD IS WHAT COUNTS. Prove the row's statement (the work); the ties are given (YtglfebpgdghlfaaDoorTie.lean); close each card by the builder's one call (the guide's Derived/Test/ToyasCard.lean, 'card_holds'). Laid BY PROGRAM, IN A SANDBOX (cutbox-door.mjs). By AI agents, Wed Nov 11 2026. No macro, syntax, notation, axiom, sorry.
-/
import Derived.Test.YtglfebpgdghlfaaDoorRows
import GoSem.ClaimSeven
namespace Go.Proofs.YtglfebpgdghlfaaDoor
namespace Rows

/-- THE TIED CARD OF 'dioramalaw18.UpgradeNodes'. -/
def upgradeNodesCard : Claim7 := { stood := { row := upgradeNodesRow, standIns := [], harness := (true, "d9096c8d86ec02858f6829e4145980d481af2c3bac41f782ac1e7c2d8c679a29"), looks := false }, kinds := [], alts := [], laidByText := true, laidKinds := [.data, .pinned], laidTests := true, laidLooks := .later }
def UpgradeNodesCardSaid : Prop := Claim7.holds Tryd.pinned (.plain (OpenSpec.ofChange upgradeNodesSpec)) upgradeNodesCard

/-- THE TIED CARD OF 'dioramalaw18.UpgradeUps'. -/
def upgradeUpsCard : Claim7 := { stood := { row := upgradeUpsRow, standIns := [], harness := (true, "d9096c8d86ec02858f6829e4145980d481af2c3bac41f782ac1e7c2d8c679a29"), looks := false }, kinds := [], alts := [], laidByText := true, laidKinds := [.data, .pinned], laidTests := true, laidLooks := .later }
def UpgradeUpsCardSaid : Prop := Claim7.holds Tryd.pinned (.plain (OpenSpec.ofChange upgradeUpsSpec)) upgradeUpsCard

/-- THE TIED CARD OF 'dioramalaw18.UpgradeMeasure'. -/
def upgradeMeasureCard : Claim7 := { stood := { row := upgradeMeasureRow, standIns := [], harness := (true, "d9096c8d86ec02858f6829e4145980d481af2c3bac41f782ac1e7c2d8c679a29"), looks := false }, kinds := [], alts := [], laidByText := true, laidKinds := [.data, .pinned], laidTests := true, laidLooks := .later }
def UpgradeMeasureCardSaid : Prop := Claim7.holds Tryd.pinned (.plain (OpenSpec.ofChange upgradeMeasureSpec)) upgradeMeasureCard

/-- THE TIED CARD OF 'dioramalaw23.RebuildApplies'. -/
def rebuildAppliesCard : Claim7 := { stood := { row := rebuildAppliesRow, standIns := [], harness := (true, "d9096c8d86ec02858f6829e4145980d481af2c3bac41f782ac1e7c2d8c679a29"), looks := false }, kinds := [], alts := [], laidByText := true, laidKinds := [.data, .pinned], laidTests := true, laidLooks := .later }
def RebuildAppliesCardSaid : Prop := Claim7.holds Tryd.pinned (.plain (OpenSpec.ofChange rebuildAppliesSpec)) rebuildAppliesCard

/-- THE TIED CARD OF 'dioramalaw23.RebuildKeeps'. -/
def rebuildKeepsCard : Claim7 := { stood := { row := rebuildKeepsRow, standIns := [], harness := (true, "d9096c8d86ec02858f6829e4145980d481af2c3bac41f782ac1e7c2d8c679a29"), looks := false }, kinds := [], alts := [], laidByText := true, laidKinds := [.data, .pinned], laidTests := true, laidLooks := .later }
def RebuildKeepsCardSaid : Prop := Claim7.holds Tryd.pinned (.plain (OpenSpec.ofChange rebuildKeepsSpec)) rebuildKeepsCard

/-- THE TIED CARD OF 'dioramalaw23.RebuildSame'. -/
def rebuildSameCard : Claim7 := { stood := { row := rebuildSameRow, standIns := [], harness := (true, "d9096c8d86ec02858f6829e4145980d481af2c3bac41f782ac1e7c2d8c679a29"), looks := false }, kinds := [], alts := [], laidByText := true, laidKinds := [.data, .pinned], laidTests := true, laidLooks := .later }
def RebuildSameCardSaid : Prop := Claim7.holds Tryd.pinned (.plain (OpenSpec.ofChange rebuildSameSpec)) rebuildSameCard

/-- THE TIED CARD OF 'dioramalaw18.UpgradeKeeps'. -/
def upgradeKeepsCard : Claim7 := { stood := { row := upgradeKeepsRow, standIns := [], harness := (true, "d9096c8d86ec02858f6829e4145980d481af2c3bac41f782ac1e7c2d8c679a29"), looks := false }, kinds := [], alts := [], laidByText := true, laidKinds := [.data, .pinned], laidTests := true, laidLooks := .later }
def UpgradeKeepsCardSaid : Prop := Claim7.holds Tryd.pinned (.plain (OpenSpec.ofChange upgradeKeepsSpec)) upgradeKeepsCard

/-- THE TIED CARD OF 'dioramalaw23.RebuildValid'. -/
def rebuildValidCard : Claim7 := { stood := { row := rebuildValidRow, standIns := [], harness := (true, "d9096c8d86ec02858f6829e4145980d481af2c3bac41f782ac1e7c2d8c679a29"), looks := false }, kinds := [], alts := [], laidByText := true, laidKinds := [.data, .pinned], laidTests := true, laidLooks := .later }
def RebuildValidCardSaid : Prop := Claim7.holds Tryd.pinned (.plain (OpenSpec.ofChange rebuildValidSpec)) rebuildValidCard

/-- THE SECOND FORM's CARD OF 'dioramalaw18.UpgradeNodes'. -/
def upgradeNodesUptoCard : Claim7 := { stood := { row := upgradeNodesUptoRow, standIns := [], harness := (true, "d9096c8d86ec02858f6829e4145980d481af2c3bac41f782ac1e7c2d8c679a29"), looks := false }, kinds := [], alts := [], laidByText := true, laidKinds := [.data, .pinned], laidTests := true, laidLooks := .later }
def UpgradeNodesUptoCardSaid : Prop := Claim7.holds Tryd.pinned (.plain (OpenSpec.upto upgradeNodesSpec)) upgradeNodesUptoCard

/-- THE SECOND FORM's CARD OF 'dioramalaw18.UpgradeUps'. -/
def upgradeUpsUptoCard : Claim7 := { stood := { row := upgradeUpsUptoRow, standIns := [], harness := (true, "d9096c8d86ec02858f6829e4145980d481af2c3bac41f782ac1e7c2d8c679a29"), looks := false }, kinds := [], alts := [], laidByText := true, laidKinds := [.data, .pinned], laidTests := true, laidLooks := .later }
def UpgradeUpsUptoCardSaid : Prop := Claim7.holds Tryd.pinned (.plain (OpenSpec.upto upgradeUpsSpec)) upgradeUpsUptoCard

/-- THE SECOND FORM's CARD OF 'dioramalaw18.UpgradeMeasure'. -/
def upgradeMeasureUptoCard : Claim7 := { stood := { row := upgradeMeasureUptoRow, standIns := [], harness := (true, "d9096c8d86ec02858f6829e4145980d481af2c3bac41f782ac1e7c2d8c679a29"), looks := false }, kinds := [], alts := [], laidByText := true, laidKinds := [.data, .pinned], laidTests := true, laidLooks := .later }
def UpgradeMeasureUptoCardSaid : Prop := Claim7.holds Tryd.pinned (.plain (OpenSpec.upto upgradeMeasureSpec)) upgradeMeasureUptoCard

/-- THE SECOND FORM's CARD OF 'dioramalaw23.RebuildApplies'. -/
def rebuildAppliesUptoCard : Claim7 := { stood := { row := rebuildAppliesUptoRow, standIns := [], harness := (true, "d9096c8d86ec02858f6829e4145980d481af2c3bac41f782ac1e7c2d8c679a29"), looks := false }, kinds := [], alts := [], laidByText := true, laidKinds := [.data, .pinned], laidTests := true, laidLooks := .later }
def RebuildAppliesUptoCardSaid : Prop := Claim7.holds Tryd.pinned (.plain (OpenSpec.upto rebuildAppliesSpec)) rebuildAppliesUptoCard

/-- THE SECOND FORM's CARD OF 'dioramalaw23.RebuildKeeps'. -/
def rebuildKeepsUptoCard : Claim7 := { stood := { row := rebuildKeepsUptoRow, standIns := [], harness := (true, "d9096c8d86ec02858f6829e4145980d481af2c3bac41f782ac1e7c2d8c679a29"), looks := false }, kinds := [], alts := [], laidByText := true, laidKinds := [.data, .pinned], laidTests := true, laidLooks := .later }
def RebuildKeepsUptoCardSaid : Prop := Claim7.holds Tryd.pinned (.plain (OpenSpec.upto rebuildKeepsSpec)) rebuildKeepsUptoCard

/-- THE SECOND FORM's CARD OF 'dioramalaw23.RebuildSame'. -/
def rebuildSameUptoCard : Claim7 := { stood := { row := rebuildSameUptoRow, standIns := [], harness := (true, "d9096c8d86ec02858f6829e4145980d481af2c3bac41f782ac1e7c2d8c679a29"), looks := false }, kinds := [], alts := [], laidByText := true, laidKinds := [.data, .pinned], laidTests := true, laidLooks := .later }
def RebuildSameUptoCardSaid : Prop := Claim7.holds Tryd.pinned (.plain (OpenSpec.upto rebuildSameSpec)) rebuildSameUptoCard

/-- THE SECOND FORM's CARD OF 'dioramalaw18.UpgradeKeeps'. -/
def upgradeKeepsUptoCard : Claim7 := { stood := { row := upgradeKeepsUptoRow, standIns := [], harness := (true, "d9096c8d86ec02858f6829e4145980d481af2c3bac41f782ac1e7c2d8c679a29"), looks := false }, kinds := [], alts := [], laidByText := true, laidKinds := [.data, .pinned], laidTests := true, laidLooks := .later }
def UpgradeKeepsUptoCardSaid : Prop := Claim7.holds Tryd.pinned (.plain (OpenSpec.upto upgradeKeepsSpec)) upgradeKeepsUptoCard

/-- THE SECOND FORM's CARD OF 'dioramalaw23.RebuildValid'. -/
def rebuildValidUptoCard : Claim7 := { stood := { row := rebuildValidUptoRow, standIns := [], harness := (true, "d9096c8d86ec02858f6829e4145980d481af2c3bac41f782ac1e7c2d8c679a29"), looks := false }, kinds := [], alts := [], laidByText := true, laidKinds := [.data, .pinned], laidTests := true, laidLooks := .later }
def RebuildValidUptoCardSaid : Prop := Claim7.holds Tryd.pinned (.plain (OpenSpec.upto rebuildValidSpec)) rebuildValidUptoCard
end Rows
end Go.Proofs.YtglfebpgdghlfaaDoor
