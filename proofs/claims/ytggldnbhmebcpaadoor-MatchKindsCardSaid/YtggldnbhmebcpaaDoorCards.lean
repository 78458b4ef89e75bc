/-
  DERIVED. GIVEN WITH THE SEED: THE CARDS: each row of YtggldnbhmebcpaaDoorRows.lean that lists a variable, with what it lists TIED to the program's text (the seventh form; the later family's looks); each row that meets fmt, with fmt's text TOLD by the authors' own Lean function (tested against real Go, not proved from fmt's source: count such statements apart). THE CARD IS WHAT COUNTS. Prove the row's statement (the work); the ties are given (YtggldnbhmebcpaaDoorTie.lean); close each card by the builder's one call (the guide's Derived/Test/ToyasCard.lean, 'card_holds'). Laid BY PROGRAM, IN A SANDBOX (cutbox-door.mjs). By AI agents, Wed Nov 11 2026. No macro, syntax, notation, axiom, sorry.
-/
import Derived.Test.YtggldnbhmebcpaaDoorRows
import GoSem.ClaimSeven
namespace Go.Proofs.YtggldnbhmebcpaaDoor
namespace Rows

/-- THE TIED CARD OF 'dioramalaw21.MatchPairs'. -/
def matchPairsCard : Claim7 := { stood := { row := matchPairsRow, standIns := [], harness := (true, "62ce439ba889557fab806eaffdcfdf26d7b537d005658908607b03f6db238a4a"), looks := false }, kinds := [], alts := [], laidByText := true, laidKinds := [.data, .data, .data, .data, .pinned, .pinned, .pinned, .pinned, .pinned, .pinned], laidTests := true, laidLooks := .later }
def MatchPairsCardSaid : Prop := Claim7.holds Tryd.pinned (.plain (OpenSpec.ofChange matchPairsSpec)) matchPairsCard

/-- THE TIED CARD OF 'dioramalaw21.MatchOnce'. -/
def matchOnceCard : Claim7 := { stood := { row := matchOnceRow, standIns := [], harness := (true, "62ce439ba889557fab806eaffdcfdf26d7b537d005658908607b03f6db238a4a"), looks := false }, kinds := [], alts := [], laidByText := true, laidKinds := [.data, .data, .data, .data, .pinned, .pinned, .pinned, .pinned, .pinned, .pinned], laidTests := true, laidLooks := .later }
def MatchOnceCardSaid : Prop := Claim7.holds Tryd.pinned (.plain (OpenSpec.ofChange matchOnceSpec)) matchOnceCard

/-- THE TIED CARD OF 'dioramalaw21.MatchKinds'. -/
def matchKindsCard : Claim7 := { stood := { row := matchKindsRow, standIns := [], harness := (true, "62ce439ba889557fab806eaffdcfdf26d7b537d005658908607b03f6db238a4a"), looks := false }, kinds := [], alts := [], laidByText := true, laidKinds := [.data, .data, .data, .data, .pinned, .pinned, .pinned, .pinned, .pinned, .pinned], laidTests := true, laidLooks := .later }
def MatchKindsCardSaid : Prop := Claim7.holds Tryd.pinned (.plain (OpenSpec.ofChange matchKindsSpec)) matchKindsCard

/-- THE TIED CARD OF 'dioramalaw21.MatchSame'. -/
def matchSameCard : Claim7 := { stood := { row := matchSameRow, standIns := [], harness := (true, "62ce439ba889557fab806eaffdcfdf26d7b537d005658908607b03f6db238a4a"), looks := false }, kinds := [], alts := [], laidByText := true, laidKinds := [.data, .data, .data, .data, .pinned, .pinned, .pinned, .pinned, .pinned, .pinned], laidTests := true, laidLooks := .later }
def MatchSameCardSaid : Prop := Claim7.holds Tryd.pinned (.plain (OpenSpec.ofChange matchSameSpec)) matchSameCard

/-- THE TIED CARD OF 'dioramalaw21.MatchCount'. -/
def matchCountCard : Claim7 := { stood := { row := matchCountRow, standIns := [], harness := (true, "62ce439ba889557fab806eaffdcfdf26d7b537d005658908607b03f6db238a4a"), looks := false }, kinds := [], alts := [], laidByText := true, laidKinds := [.data, .data, .data, .data, .pinned, .pinned, .pinned, .pinned, .pinned, .pinned], laidTests := true, laidLooks := .later }
def MatchCountCardSaid : Prop := Claim7.holds Tryd.pinned (.plain (OpenSpec.ofChange matchCountSpec)) matchCountCard

/-- THE SECOND FORM's CARD OF 'dioramalaw21.MatchPairs'. -/
def matchPairsUptoCard : Claim7 := { stood := { row := matchPairsUptoRow, standIns := [], harness := (true, "62ce439ba889557fab806eaffdcfdf26d7b537d005658908607b03f6db238a4a"), looks := false }, kinds := [], alts := [], laidByText := true, laidKinds := [.data, .data, .data, .data, .pinned, .pinned, .pinned, .pinned, .pinned, .pinned], laidTests := true, laidLooks := .later }
def MatchPairsUptoCardSaid : Prop := Claim7.holds Tryd.pinned (.plain (OpenSpec.upto matchPairsSpec)) matchPairsUptoCard

/-- THE SECOND FORM's CARD OF 'dioramalaw21.MatchOnce'. -/
def matchOnceUptoCard : Claim7 := { stood := { row := matchOnceUptoRow, standIns := [], harness := (true, "62ce439ba889557fab806eaffdcfdf26d7b537d005658908607b03f6db238a4a"), looks := false }, kinds := [], alts := [], laidByText := true, laidKinds := [.data, .data, .data, .data, .pinned, .pinned, .pinned, .pinned, .pinned, .pinned], laidTests := true, laidLooks := .later }
def MatchOnceUptoCardSaid : Prop := Claim7.holds Tryd.pinned (.plain (OpenSpec.upto matchOnceSpec)) matchOnceUptoCard

/-- THE SECOND FORM's CARD OF 'dioramalaw21.MatchKinds'. -/
def matchKindsUptoCard : Claim7 := { stood := { row := matchKindsUptoRow, standIns := [], harness := (true, "62ce439ba889557fab806eaffdcfdf26d7b537d005658908607b03f6db238a4a"), looks := false }, kinds := [], alts := [], laidByText := true, laidKinds := [.data, .data, .data, .data, .pinned, .pinned, .pinned, .pinned, .pinned, .pinned], laidTests := true, laidLooks := .later }
def MatchKindsUptoCardSaid : Prop := Claim7.holds Tryd.pinned (.plain (OpenSpec.upto matchKindsSpec)) matchKindsUptoCard

/-- THE SECOND FORM's CARD OF 'dioramalaw21.MatchSame'. -/
def matchSameUptoCard : Claim7 := { stood := { row := matchSameUptoRow, standIns := [], harness := (true, "62ce439ba889557fab806eaffdcfdf26d7b537d005658908607b03f6db238a4a"), looks := false }, kinds := [], alts := [], laidByText := true, laidKinds := [.data, .data, .data, .data, .pinned, .pinned, .pinned, .pinned, .pinned, .pinned], laidTests := true, laidLooks := .later }
def MatchSameUptoCardSaid : Prop := Claim7.holds Tryd.pinned (.plain (OpenSpec.upto matchSameSpec)) matchSameUptoCard

/-- THE SECOND FORM's CARD OF 'dioramalaw21.MatchCount'. -/
def matchCountUptoCard : Claim7 := { stood := { row := matchCountUptoRow, standIns := [], harness := (true, "62ce439ba889557fab806eaffdcfdf26d7b537d005658908607b03f6db238a4a"), looks := false }, kinds := [], alts := [], laidByText := true, laidKinds := [.data, .data, .data, .data, .pinned, .pinned, .pinned, .pinned, .pinned, .pinned], laidTests := true, laidLooks := .later }
def MatchCountUptoCardSaid : Prop := Claim7.holds Tryd.pinned (.plain (OpenSpec.upto matchCountSpec)) matchCountUptoCard
end Rows
end Go.Proofs.YtggldnbhmebcpaaDoor
