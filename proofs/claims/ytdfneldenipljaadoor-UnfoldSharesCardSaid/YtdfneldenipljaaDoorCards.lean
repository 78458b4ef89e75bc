/-
  DERIVED. GIVEN WITH THE SEED: THE CARDS: each row of YtdfneldenipljaaDoorRows.lean that lists a variable, with what it lists TIED to the program's text (the seventh form; the later family's looks); each row that meets fmt, with fmt's text TOLD by the authors' own Lean function (tested against real Go, not proved from fmt's source: count such statements apart). THE CARD IS WHAT COUNTS. Prove the row's statement (the work); the ties are given (YtdfneldenipljaaDoorTie.lean); close each card by the builder's one call (the guide's Derived/Test/ToyasCard.lean, 'card_holds'). Laid BY PROGRAM, IN A SANDBOX (cutbox-door.mjs). By AI agents, Wed Nov 11 2026. No macro, syntax, notation, axiom, sorry.
-/
import Derived.Test.YtdfneldenipljaaDoorRows
import GoSem.ClaimSeven
namespace Go.Proofs.YtdfneldenipljaaDoor
namespace Rows

/-- THE TIED CARD OF 'dioramalaw19.ClassNumbers'. -/
def classNumbersCard : Claim7 := { stood := { row := classNumbersRow, standIns := [], harness := (true, "6733ca2e7fb67cc65005b080e6ff8756d91017a8676886b3aaa4db3429368ce6"), looks := false }, kinds := [], alts := [], laidByText := true, laidKinds := [.data, .data, .data, .data, .pinned, .pinned, .pinned, .pinned, .pinned, .pinned], laidTests := true, laidLooks := .later }
def ClassNumbersCardSaid : Prop := Claim7.holds Tryd.pinned (.plain (OpenSpec.ofChange classNumbersSpec)) classNumbersCard

/-- THE TIED CARD OF 'dioramalaw19.ClassOwn'. -/
def classOwnCard : Claim7 := { stood := { row := classOwnRow, standIns := [], harness := (true, "6733ca2e7fb67cc65005b080e6ff8756d91017a8676886b3aaa4db3429368ce6"), looks := false }, kinds := [], alts := [], laidByText := true, laidKinds := [.data, .data, .data, .data, .pinned, .pinned, .pinned, .pinned, .pinned, .pinned], laidTests := true, laidLooks := .later }
def ClassOwnCardSaid : Prop := Claim7.holds Tryd.pinned (.plain (OpenSpec.ofChange classOwnSpec)) classOwnCard

/-- THE TIED CARD OF 'dioramalaw19.ClassParts'. -/
def classPartsCard : Claim7 := { stood := { row := classPartsRow, standIns := [], harness := (true, "6733ca2e7fb67cc65005b080e6ff8756d91017a8676886b3aaa4db3429368ce6"), looks := false }, kinds := [], alts := [], laidByText := true, laidKinds := [.data, .data, .data, .data, .pinned, .pinned, .pinned, .pinned, .pinned, .pinned], laidTests := true, laidLooks := .later }
def ClassPartsCardSaid : Prop := Claim7.holds Tryd.pinned (.plain (OpenSpec.ofChange classPartsSpec)) classPartsCard

/-- THE TIED CARD OF 'dioramalaw19.ClassShared'. -/
def classSharedCard : Claim7 := { stood := { row := classSharedRow, standIns := [], harness := (true, "6733ca2e7fb67cc65005b080e6ff8756d91017a8676886b3aaa4db3429368ce6"), looks := false }, kinds := [], alts := [], laidByText := true, laidKinds := [.data, .data, .data, .data, .pinned, .pinned, .pinned, .pinned, .pinned, .pinned], laidTests := true, laidLooks := .later }
def ClassSharedCardSaid : Prop := Claim7.holds Tryd.pinned (.plain (OpenSpec.ofChange classSharedSpec)) classSharedCard

/-- THE TIED CARD OF 'dioramalaw19.ClassRise'. -/
def classRiseCard : Claim7 := { stood := { row := classRiseRow, standIns := [], harness := (true, "6733ca2e7fb67cc65005b080e6ff8756d91017a8676886b3aaa4db3429368ce6"), looks := false }, kinds := [], alts := [], laidByText := true, laidKinds := [.data, .data, .data, .data, .pinned, .pinned, .pinned, .pinned, .pinned, .pinned], laidTests := true, laidLooks := .later }
def ClassRiseCardSaid : Prop := Claim7.holds Tryd.pinned (.plain (OpenSpec.ofChange classRiseSpec)) classRiseCard

/-- THE TIED CARD OF 'dioramalaw11.UnfoldEqual'. -/
def unfoldEqualCard : Claim7 := { stood := { row := unfoldEqualRow, standIns := [], harness := (true, "6733ca2e7fb67cc65005b080e6ff8756d91017a8676886b3aaa4db3429368ce6"), looks := false }, kinds := [], alts := [], laidByText := true, laidKinds := [.data, .data, .data, .data, .pinned, .pinned, .pinned, .pinned, .pinned, .pinned], laidTests := true, laidLooks := .later }
def UnfoldEqualCardSaid : Prop := Claim7.holds Tryd.pinned (.plain (OpenSpec.ofChange unfoldEqualSpec)) unfoldEqualCard

/-- THE TIED CARD OF 'dioramalaw11.UnfoldSizes'. -/
def unfoldSizesCard : Claim7 := { stood := { row := unfoldSizesRow, standIns := [], harness := (true, "6733ca2e7fb67cc65005b080e6ff8756d91017a8676886b3aaa4db3429368ce6"), looks := false }, kinds := [], alts := [], laidByText := true, laidKinds := [.data, .data, .data, .data, .pinned, .pinned, .pinned, .pinned, .pinned, .pinned], laidTests := true, laidLooks := .later }
def UnfoldSizesCardSaid : Prop := Claim7.holds Tryd.pinned (.plain (OpenSpec.ofChange unfoldSizesSpec)) unfoldSizesCard

/-- THE TIED CARD OF 'dioramalaw11.UnfoldDiffers'. -/
def unfoldDiffersCard : Claim7 := { stood := { row := unfoldDiffersRow, standIns := [], harness := (true, "6733ca2e7fb67cc65005b080e6ff8756d91017a8676886b3aaa4db3429368ce6"), looks := false }, kinds := [], alts := [], laidByText := true, laidKinds := [.data, .data, .data, .data, .pinned, .pinned, .pinned, .pinned, .pinned, .pinned], laidTests := true, laidLooks := .later }
def UnfoldDiffersCardSaid : Prop := Claim7.holds Tryd.pinned (.plain (OpenSpec.ofChange unfoldDiffersSpec)) unfoldDiffersCard

/-- THE TIED CARD OF 'dioramalaw11.UnfoldFields'. -/
def unfoldFieldsCard : Claim7 := { stood := { row := unfoldFieldsRow, standIns := [], harness := (true, "6733ca2e7fb67cc65005b080e6ff8756d91017a8676886b3aaa4db3429368ce6"), looks := false }, kinds := [], alts := [], laidByText := true, laidKinds := [.data, .data, .data, .data, .pinned, .pinned, .pinned, .pinned, .pinned, .pinned], laidTests := true, laidLooks := .later }
def UnfoldFieldsCardSaid : Prop := Claim7.holds Tryd.pinned (.plain (OpenSpec.ofChange unfoldFieldsSpec)) unfoldFieldsCard

/-- THE TIED CARD OF 'dioramalaw11.UnfoldShares'. -/
def unfoldSharesCard : Claim7 := { stood := { row := unfoldSharesRow, standIns := [], harness := (true, "6733ca2e7fb67cc65005b080e6ff8756d91017a8676886b3aaa4db3429368ce6"), looks := false }, kinds := [], alts := [], laidByText := true, laidKinds := [.data, .data, .data, .data, .pinned, .pinned, .pinned, .pinned, .pinned, .pinned], laidTests := true, laidLooks := .later }
def UnfoldSharesCardSaid : Prop := Claim7.holds Tryd.pinned (.plain (OpenSpec.ofChange unfoldSharesSpec)) unfoldSharesCard

/-- THE SECOND FORM's CARD OF 'dioramalaw19.ClassNumbers'. -/
def classNumbersUptoCard : Claim7 := { stood := { row := classNumbersUptoRow, standIns := [], harness := (true, "6733ca2e7fb67cc65005b080e6ff8756d91017a8676886b3aaa4db3429368ce6"), looks := false }, kinds := [], alts := [], laidByText := true, laidKinds := [.data, .data, .data, .data, .pinned, .pinned, .pinned, .pinned, .pinned, .pinned], laidTests := true, laidLooks := .later }
def ClassNumbersUptoCardSaid : Prop := Claim7.holds Tryd.pinned (.plain (OpenSpec.upto classNumbersSpec)) classNumbersUptoCard

/-- THE SECOND FORM's CARD OF 'dioramalaw19.ClassOwn'. -/
def classOwnUptoCard : Claim7 := { stood := { row := classOwnUptoRow, standIns := [], harness := (true, "6733ca2e7fb67cc65005b080e6ff8756d91017a8676886b3aaa4db3429368ce6"), looks := false }, kinds := [], alts := [], laidByText := true, laidKinds := [.data, .data, .data, .data, .pinned, .pinned, .pinned, .pinned, .pinned, .pinned], laidTests := true, laidLooks := .later }
def ClassOwnUptoCardSaid : Prop := Claim7.holds Tryd.pinned (.plain (OpenSpec.upto classOwnSpec)) classOwnUptoCard

/-- THE SECOND FORM's CARD OF 'dioramalaw19.ClassParts'. -/
def classPartsUptoCard : Claim7 := { stood := { row := classPartsUptoRow, standIns := [], harness := (true, "6733ca2e7fb67cc65005b080e6ff8756d91017a8676886b3aaa4db3429368ce6"), looks := false }, kinds := [], alts := [], laidByText := true, laidKinds := [.data, .data, .data, .data, .pinned, .pinned, .pinned, .pinned, .pinned, .pinned], laidTests := true, laidLooks := .later }
def ClassPartsUptoCardSaid : Prop := Claim7.holds Tryd.pinned (.plain (OpenSpec.upto classPartsSpec)) classPartsUptoCard

/-- THE SECOND FORM's CARD OF 'dioramalaw19.ClassShared'. -/
def classSharedUptoCard : Claim7 := { stood := { row := classSharedUptoRow, standIns := [], harness := (true, "6733ca2e7fb67cc65005b080e6ff8756d91017a8676886b3aaa4db3429368ce6"), looks := false }, kinds := [], alts := [], laidByText := true, laidKinds := [.data, .data, .data, .data, .pinned, .pinned, .pinned, .pinned, .pinned, .pinned], laidTests := true, laidLooks := .later }
def ClassSharedUptoCardSaid : Prop := Claim7.holds Tryd.pinned (.plain (OpenSpec.upto classSharedSpec)) classSharedUptoCard

/-- THE SECOND FORM's CARD OF 'dioramalaw19.ClassRise'. -/
def classRiseUptoCard : Claim7 := { stood := { row := classRiseUptoRow, standIns := [], harness := (true, "6733ca2e7fb67cc65005b080e6ff8756d91017a8676886b3aaa4db3429368ce6"), looks := false }, kinds := [], alts := [], laidByText := true, laidKinds := [.data, .data, .data, .data, .pinned, .pinned, .pinned, .pinned, .pinned, .pinned], laidTests := true, laidLooks := .later }
def ClassRiseUptoCardSaid : Prop := Claim7.holds Tryd.pinned (.plain (OpenSpec.upto classRiseSpec)) classRiseUptoCard

/-- THE SECOND FORM's CARD OF 'dioramalaw11.UnfoldEqual'. -/
def unfoldEqualUptoCard : Claim7 := { stood := { row := unfoldEqualUptoRow, standIns := [], harness := (true, "6733ca2e7fb67cc65005b080e6ff8756d91017a8676886b3aaa4db3429368ce6"), looks := false }, kinds := [], alts := [], laidByText := true, laidKinds := [.data, .data, .data, .data, .pinned, .pinned, .pinned, .pinned, .pinned, .pinned], laidTests := true, laidLooks := .later }
def UnfoldEqualUptoCardSaid : Prop := Claim7.holds Tryd.pinned (.plain (OpenSpec.upto unfoldEqualSpec)) unfoldEqualUptoCard

/-- THE SECOND FORM's CARD OF 'dioramalaw11.UnfoldSizes'. -/
def unfoldSizesUptoCard : Claim7 := { stood := { row := unfoldSizesUptoRow, standIns := [], harness := (true, "6733ca2e7fb67cc65005b080e6ff8756d91017a8676886b3aaa4db3429368ce6"), looks := false }, kinds := [], alts := [], laidByText := true, laidKinds := [.data, .data, .data, .data, .pinned, .pinned, .pinned, .pinned, .pinned, .pinned], laidTests := true, laidLooks := .later }
def UnfoldSizesUptoCardSaid : Prop := Claim7.holds Tryd.pinned (.plain (OpenSpec.upto unfoldSizesSpec)) unfoldSizesUptoCard

/-- THE SECOND FORM's CARD OF 'dioramalaw11.UnfoldDiffers'. -/
def unfoldDiffersUptoCard : Claim7 := { stood := { row := unfoldDiffersUptoRow, standIns := [], harness := (true, "6733ca2e7fb67cc65005b080e6ff8756d91017a8676886b3aaa4db3429368ce6"), looks := false }, kinds := [], alts := [], laidByText := true, laidKinds := [.data, .data, .data, .data, .pinned, .pinned, .pinned, .pinned, .pinned, .pinned], laidTests := true, laidLooks := .later }
def UnfoldDiffersUptoCardSaid : Prop := Claim7.holds Tryd.pinned (.plain (OpenSpec.upto unfoldDiffersSpec)) unfoldDiffersUptoCard

/-- THE SECOND FORM's CARD OF 'dioramalaw11.UnfoldFields'. -/
def unfoldFieldsUptoCard : Claim7 := { stood := { row := unfoldFieldsUptoRow, standIns := [], harness := (true, "6733ca2e7fb67cc65005b080e6ff8756d91017a8676886b3aaa4db3429368ce6"), looks := false }, kinds := [], alts := [], laidByText := true, laidKinds := [.data, .data, .data, .data, .pinned, .pinned, .pinned, .pinned, .pinned, .pinned], laidTests := true, laidLooks := .later }
def UnfoldFieldsUptoCardSaid : Prop := Claim7.holds Tryd.pinned (.plain (OpenSpec.upto unfoldFieldsSpec)) unfoldFieldsUptoCard

/-- THE SECOND FORM's CARD OF 'dioramalaw11.UnfoldShares'. -/
def unfoldSharesUptoCard : Claim7 := { stood := { row := unfoldSharesUptoRow, standIns := [], harness := (true, "6733ca2e7fb67cc65005b080e6ff8756d91017a8676886b3aaa4db3429368ce6"), looks := false }, kinds := [], alts := [], laidByText := true, laidKinds := [.data, .data, .data, .data, .pinned, .pinned, .pinned, .pinned, .pinned, .pinned], laidTests := true, laidLooks := .later }
def UnfoldSharesUptoCardSaid : Prop := Claim7.holds Tryd.pinned (.plain (OpenSpec.upto unfoldSharesSpec)) unfoldSharesUptoCard
end Rows
end Go.Proofs.YtdfneldenipljaaDoor
