/-
  NARROWER THAN 'FOR EVERY INPUT', by the rows' own cells (each row's printed sentence says how): UpgradeNodes: laid · UpgradeUps: laid · UpgradeMeasure: laid · RebuildApplies: laid · RebuildKeeps: laid · RebuildSame: laid · UpgradeKeeps: laid · RebuildValid: laid.
  DERIVED. THE GIVEN ROWS OF THIS SEAT. 8 by the template 'for every input the law returns true; each argument reads behind the call as it read before'; 0 by the template 'total and deterministic' (their statements: YtglfebpgdghlfaaDoorTotals.lean).
  GIVEN WITH THE SEED: the statements are not yours to turn. If you find one false, say at which input.
  Laid BY PROGRAM, IN A SANDBOX (cutbox-rows.mjs): the forced cells as the released guide's own fill.sh prints them over the translation 649eb4f5a03d4135… (all of the seat's roots in one cut). By AI agents, Wed Nov 11 2026. No macro, syntax, notation, axiom, sorry.
-/
import Derived.Test.YtglfebpgdghlfaaDoorChecked
import GoSem.PinnedTables
import GoSem.Claim
import GoSem.ClaimJoined
import GoSem.ClaimMapViews
import Derived.JoinedTies
import Derived.KernelRfl
namespace Go.Proofs.YtglfebpgdghlfaaDoor
/- THE CELL 'sum', in the pinned program and in every row, IS THE sha256 OF THE DUMP (.gsa) THAT YtglfebpgdghlfaaDoorProg.lean LOADS. Nothing in Lean hashes anything: it is a label: what it is worth is what the hold of that sum in a sandbox is worth. -/
noncomputable def Tryd.pinned : Pinned := { name := "ytglfebpgdghlfaadoor", sum := "649eb4f5a03d4135da329bf067a795f4b49fcce7d68e026dbcc69565ccd339f5", checked := Tryd.checked }
namespace Rows
def none {H : Type} : Left H := { results := [], args := [] }

/- WHAT THE LISTED PACKAGE-LEVEL VARIABLES READ AS WHEN THE CALL BEGINS. Each datum BY PROGRAM (the guide's laid-datum.mjs) off the statement by which the dump's own 'gosem.cut.vars' lays the variable. In a bare row this is a premise. The card (YtglfebpgdghlfaaDoorCards.lean) ties it to the program's text. -/
def laid_unicode_utf8_acceptRanges {H : Type} : DataW H := .agg [.agg [.lit (.int .u8 128), .lit (.int .u8 191)], .agg [.lit (.int .u8 160), .lit (.int .u8 191)], .agg [.lit (.int .u8 128), .lit (.int .u8 159)], .agg [.lit (.int .u8 144), .lit (.int .u8 191)], .agg [.lit (.int .u8 128), .lit (.int .u8 143)], .agg [.lit (.int .u8 0), .lit (.int .u8 0)], .agg [.lit (.int .u8 0), .lit (.int .u8 0)], .agg [.lit (.int .u8 0), .lit (.int .u8 0)], .agg [.lit (.int .u8 0), .lit (.int .u8 0)], .agg [.lit (.int .u8 0), .lit (.int .u8 0)], .agg [.lit (.int .u8 0), .lit (.int .u8 0)], .agg [.lit (.int .u8 0), .lit (.int .u8 0)], .agg [.lit (.int .u8 0), .lit (.int .u8 0)], .agg [.lit (.int .u8 0), .lit (.int .u8 0)], .agg [.lit (.int .u8 0), .lit (.int .u8 0)], .agg [.lit (.int .u8 0), .lit (.int .u8 0)]]
/-- One of Go's own tables, pinned by name: the form's constant. -/
def laid_unicode_utf8_first : DataW Unit := Go.Pinned.utf8First

/-- 'dioramalaw18.UpgradeNodes': WHATEVER THE INPUT: true; the input reads as it did. -/
def upgradeNodesSpec : ChangeSpec := { name := "upgradeNodes", fn := fun _ => fun
  | [d] => { results := [.lit (.bool true)], args := [d] }
  | _ => none }
def upgradeNodesRow : OpenClaim := { program := "ytglfebpgdghlfaadoor", sum := "649eb4f5a03d4135da329bf067a795f4b49fcce7d68e026dbcc69565ccd339f5", func := "diorama/dioramalaw18.UpgradeNodes", spec := "upgradeNodes", unfollowed := true, recurses := true, named := ["unicode/utf8.first", "unicode/utf8.acceptRanges"], apart := false, laid := [("unicode/utf8.acceptRanges", laid_unicode_utf8_acceptRanges), ("unicode/utf8.first", laid_unicode_utf8_first)] }
def UpgradeNodesSaid : Prop := upgradeNodesRow.holds Tryd.pinned (OpenSpec.ofChange upgradeNodesSpec)

/-- ITS FALSE NEIGHBOUR: 'it returns false'. Refute it at one input. -/
def upgradeNodesWrong : ChangeSpec := { name := "upgradeNodes", fn := fun _ => fun
  | [d] => { results := [.lit (.bool false)], args := [d] }
  | _ => none }
def UpgradeNodesWrongFalsely : Prop := upgradeNodesRow.holds Tryd.pinned (OpenSpec.ofChange upgradeNodesWrong)

/-- 'dioramalaw18.UpgradeUps': WHATEVER THE INPUT: true; the input reads as it did. -/
def upgradeUpsSpec : ChangeSpec := { name := "upgradeUps", fn := fun _ => fun
  | [d] => { results := [.lit (.bool true)], args := [d] }
  | _ => none }
def upgradeUpsRow : OpenClaim := { program := "ytglfebpgdghlfaadoor", sum := "649eb4f5a03d4135da329bf067a795f4b49fcce7d68e026dbcc69565ccd339f5", func := "diorama/dioramalaw18.UpgradeUps", spec := "upgradeUps", unfollowed := true, recurses := true, named := ["unicode/utf8.first", "unicode/utf8.acceptRanges"], apart := false, laid := [("unicode/utf8.acceptRanges", laid_unicode_utf8_acceptRanges), ("unicode/utf8.first", laid_unicode_utf8_first)] }
def UpgradeUpsSaid : Prop := upgradeUpsRow.holds Tryd.pinned (OpenSpec.ofChange upgradeUpsSpec)

/-- ITS FALSE NEIGHBOUR: 'it returns false'. Refute it at one input. -/
def upgradeUpsWrong : ChangeSpec := { name := "upgradeUps", fn := fun _ => fun
  | [d] => { results := [.lit (.bool false)], args := [d] }
  | _ => none }
def UpgradeUpsWrongFalsely : Prop := upgradeUpsRow.holds Tryd.pinned (OpenSpec.ofChange upgradeUpsWrong)

/-- 'dioramalaw18.UpgradeMeasure': WHATEVER THE INPUT: true; the input reads as it did. -/
def upgradeMeasureSpec : ChangeSpec := { name := "upgradeMeasure", fn := fun _ => fun
  | [d] => { results := [.lit (.bool true)], args := [d] }
  | _ => none }
def upgradeMeasureRow : OpenClaim := { program := "ytglfebpgdghlfaadoor", sum := "649eb4f5a03d4135da329bf067a795f4b49fcce7d68e026dbcc69565ccd339f5", func := "diorama/dioramalaw18.UpgradeMeasure", spec := "upgradeMeasure", unfollowed := true, recurses := true, named := ["unicode/utf8.first", "unicode/utf8.acceptRanges"], apart := false, laid := [("unicode/utf8.acceptRanges", laid_unicode_utf8_acceptRanges), ("unicode/utf8.first", laid_unicode_utf8_first)] }
def UpgradeMeasureSaid : Prop := upgradeMeasureRow.holds Tryd.pinned (OpenSpec.ofChange upgradeMeasureSpec)

/-- ITS FALSE NEIGHBOUR: 'it returns false'. Refute it at one input. -/
def upgradeMeasureWrong : ChangeSpec := { name := "upgradeMeasure", fn := fun _ => fun
  | [d] => { results := [.lit (.bool false)], args := [d] }
  | _ => none }
def UpgradeMeasureWrongFalsely : Prop := upgradeMeasureRow.holds Tryd.pinned (OpenSpec.ofChange upgradeMeasureWrong)

/-- 'dioramalaw23.RebuildApplies': WHATEVER THE INPUT: true; the input reads as it did. -/
def rebuildAppliesSpec : ChangeSpec := { name := "rebuildApplies", fn := fun _ => fun
  | [d1, d2] => { results := [.lit (.bool true)], args := [d1, d2] }
  | _ => none }
def rebuildAppliesRow : OpenClaim := { program := "ytglfebpgdghlfaadoor", sum := "649eb4f5a03d4135da329bf067a795f4b49fcce7d68e026dbcc69565ccd339f5", func := "diorama/dioramalaw23.RebuildApplies", spec := "rebuildApplies", unfollowed := true, recurses := true, named := ["unicode/utf8.first", "unicode/utf8.acceptRanges"], apart := false, laid := [("unicode/utf8.acceptRanges", laid_unicode_utf8_acceptRanges), ("unicode/utf8.first", laid_unicode_utf8_first)] }
def RebuildAppliesSaid : Prop := rebuildAppliesRow.holds Tryd.pinned (OpenSpec.ofChange rebuildAppliesSpec)

/-- ITS FALSE NEIGHBOUR: 'it returns false'. Refute it at one input. -/
def rebuildAppliesWrong : ChangeSpec := { name := "rebuildApplies", fn := fun _ => fun
  | [d1, d2] => { results := [.lit (.bool false)], args := [d1, d2] }
  | _ => none }
def RebuildAppliesWrongFalsely : Prop := rebuildAppliesRow.holds Tryd.pinned (OpenSpec.ofChange rebuildAppliesWrong)

/-- 'dioramalaw23.RebuildKeeps': WHATEVER THE INPUT: true; the input reads as it did. -/
def rebuildKeepsSpec : ChangeSpec := { name := "rebuildKeeps", fn := fun _ => fun
  | [d1, d2] => { results := [.lit (.bool true)], args := [d1, d2] }
  | _ => none }
def rebuildKeepsRow : OpenClaim := { program := "ytglfebpgdghlfaadoor", sum := "649eb4f5a03d4135da329bf067a795f4b49fcce7d68e026dbcc69565ccd339f5", func := "diorama/dioramalaw23.RebuildKeeps", spec := "rebuildKeeps", unfollowed := true, recurses := true, named := ["unicode/utf8.first", "unicode/utf8.acceptRanges"], apart := false, laid := [("unicode/utf8.acceptRanges", laid_unicode_utf8_acceptRanges), ("unicode/utf8.first", laid_unicode_utf8_first)] }
def RebuildKeepsSaid : Prop := rebuildKeepsRow.holds Tryd.pinned (OpenSpec.ofChange rebuildKeepsSpec)

/-- ITS FALSE NEIGHBOUR: 'it returns false'. Refute it at one input. -/
def rebuildKeepsWrong : ChangeSpec := { name := "rebuildKeeps", fn := fun _ => fun
  | [d1, d2] => { results := [.lit (.bool false)], args := [d1, d2] }
  | _ => none }
def RebuildKeepsWrongFalsely : Prop := rebuildKeepsRow.holds Tryd.pinned (OpenSpec.ofChange rebuildKeepsWrong)

/-- 'dioramalaw23.RebuildSame': WHATEVER THE INPUT: true; the input reads as it did. -/
def rebuildSameSpec : ChangeSpec := { name := "rebuildSame", fn := fun _ => fun
  | [d1, d2] => { results := [.lit (.bool true)], args := [d1, d2] }
  | _ => none }
def rebuildSameRow : OpenClaim := { program := "ytglfebpgdghlfaadoor", sum := "649eb4f5a03d4135da329bf067a795f4b49fcce7d68e026dbcc69565ccd339f5", func := "diorama/dioramalaw23.RebuildSame", spec := "rebuildSame", unfollowed := true, recurses := true, named := ["unicode/utf8.first", "unicode/utf8.acceptRanges"], apart := false, laid := [("unicode/utf8.acceptRanges", laid_unicode_utf8_acceptRanges), ("unicode/utf8.first", laid_unicode_utf8_first)] }
def RebuildSameSaid : Prop := rebuildSameRow.holds Tryd.pinned (OpenSpec.ofChange rebuildSameSpec)

/-- ITS FALSE NEIGHBOUR: 'it returns false'. Refute it at one input. -/
def rebuildSameWrong : ChangeSpec := { name := "rebuildSame", fn := fun _ => fun
  | [d1, d2] => { results := [.lit (.bool false)], args := [d1, d2] }
  | _ => none }
def RebuildSameWrongFalsely : Prop := rebuildSameRow.holds Tryd.pinned (OpenSpec.ofChange rebuildSameWrong)

/-- 'dioramalaw18.UpgradeKeeps': WHATEVER THE INPUT: true; the input reads as it did. -/
def upgradeKeepsSpec : ChangeSpec := { name := "upgradeKeeps", fn := fun _ => fun
  | [d] => { results := [.lit (.bool true)], args := [d] }
  | _ => none }
def upgradeKeepsRow : OpenClaim := { program := "ytglfebpgdghlfaadoor", sum := "649eb4f5a03d4135da329bf067a795f4b49fcce7d68e026dbcc69565ccd339f5", func := "diorama/dioramalaw18.UpgradeKeeps", spec := "upgradeKeeps", unfollowed := true, recurses := true, named := ["unicode/utf8.first", "unicode/utf8.acceptRanges"], apart := false, laid := [("unicode/utf8.acceptRanges", laid_unicode_utf8_acceptRanges), ("unicode/utf8.first", laid_unicode_utf8_first)] }
def UpgradeKeepsSaid : Prop := upgradeKeepsRow.holds Tryd.pinned (OpenSpec.ofChange upgradeKeepsSpec)

/-- ITS FALSE NEIGHBOUR: 'it returns false'. Refute it at one input. -/
def upgradeKeepsWrong : ChangeSpec := { name := "upgradeKeeps", fn := fun _ => fun
  | [d] => { results := [.lit (.bool false)], args := [d] }
  | _ => none }
def UpgradeKeepsWrongFalsely : Prop := upgradeKeepsRow.holds Tryd.pinned (OpenSpec.ofChange upgradeKeepsWrong)

/-- 'dioramalaw23.RebuildValid': WHATEVER THE INPUT: true; the input reads as it did. -/
def rebuildValidSpec : ChangeSpec := { name := "rebuildValid", fn := fun _ => fun
  | [d1, d2] => { results := [.lit (.bool true)], args := [d1, d2] }
  | _ => none }
def rebuildValidRow : OpenClaim := { program := "ytglfebpgdghlfaadoor", sum := "649eb4f5a03d4135da329bf067a795f4b49fcce7d68e026dbcc69565ccd339f5", func := "diorama/dioramalaw23.RebuildValid", spec := "rebuildValid", unfollowed := true, recurses := true, named := ["unicode/utf8.first", "unicode/utf8.acceptRanges"], apart := false, laid := [("unicode/utf8.acceptRanges", laid_unicode_utf8_acceptRanges), ("unicode/utf8.first", laid_unicode_utf8_first)] }
def RebuildValidSaid : Prop := rebuildValidRow.holds Tryd.pinned (OpenSpec.ofChange rebuildValidSpec)

/-- ITS FALSE NEIGHBOUR: 'it returns false'. Refute it at one input. -/
def rebuildValidWrong : ChangeSpec := { name := "rebuildValid", fn := fun _ => fun
  | [d1, d2] => { results := [.lit (.bool false)], args := [d1, d2] }
  | _ => none }
def RebuildValidWrongFalsely : Prop := rebuildValidRow.holds Tryd.pinned (OpenSpec.ofChange rebuildValidWrong)

/- THE SECOND FORM. 'bulk': how many values and letters a reading holds, each counted each time it is reached (what is shared counts as often as it is met; a slice's spare places count too). A statement '..UptoSaid' is the law's where the arguments, and the package variables that the reading takes, are together of bulk at most 1048576: NARROWER than '..Said'. Prove '..Said' where nothing that the law and all that it calls make is longer than what came in: it says more and counts as full. Else prove '..UptoSaid'. A law counts once. -/
mutual
def uptoBulk {H : Type} : DataW H → Nat
  | .lit (.string bytes) => bytes.length + 1
  | .lit _ => 1
  | .nil => 1
  | .ptr d => uptoBulk d + 1
  | .slice elems spare => uptoBulkAll elems + uptoBulkAll spare + 1
  | .agg parts => uptoBulkAll parts + 1
  | .iface _ d => uptoBulk d + 1
  | .map entries => uptoBulkEntries entries + 1
  | .held _ => 1
def uptoBulkAll {H : Type} : List (DataW H) → Nat
  | [] => 0
  | d :: r => uptoBulk d + uptoBulkAll r
def uptoBulkEntries {H : Type} : List (Lit × DataW H) → Nat
  | [] => 0
  | x :: r => uptoBulkEntry x + uptoBulkEntries r
def uptoBulkEntry {H : Type} : Lit × DataW H → Nat
  | (.string bytes, d) => bytes.length + uptoBulk d + 1
  | (_, d) => uptoBulk d + 1
 end
def uptoSmall : (H : Type) → List (DataW H) → Bool := fun _ ds => decide (uptoBulkAll ds ≤ 1048576)
def OpenSpec.upto (s : _root_.Go.ChangeSpec) : _root_.Go.OpenSpec := { _root_.Go.OpenSpec.ofChange s with cond := some uptoSmall }

/-- 'dioramalaw18.UpgradeNodes', WHERE WHAT IT READS IS OF BULK AT MOST 1048576: true; the input reads as it did. -/
def upgradeNodesUptoRow : OpenClaim := { program := "ytglfebpgdghlfaadoor", sum := "649eb4f5a03d4135da329bf067a795f4b49fcce7d68e026dbcc69565ccd339f5", func := "diorama/dioramalaw18.UpgradeNodes", spec := "upgradeNodes", unfollowed := true, recurses := true, named := ["unicode/utf8.first", "unicode/utf8.acceptRanges"], apart := false, laid := [("unicode/utf8.acceptRanges", laid_unicode_utf8_acceptRanges), ("unicode/utf8.first", laid_unicode_utf8_first)], narrowed := true }
def UpgradeNodesUptoSaid : Prop := upgradeNodesUptoRow.holds Tryd.pinned (OpenSpec.upto upgradeNodesSpec)

/-- 'dioramalaw18.UpgradeUps', WHERE WHAT IT READS IS OF BULK AT MOST 1048576: true; the input reads as it did. -/
def upgradeUpsUptoRow : OpenClaim := { program := "ytglfebpgdghlfaadoor", sum := "649eb4f5a03d4135da329bf067a795f4b49fcce7d68e026dbcc69565ccd339f5", func := "diorama/dioramalaw18.UpgradeUps", spec := "upgradeUps", unfollowed := true, recurses := true, named := ["unicode/utf8.first", "unicode/utf8.acceptRanges"], apart := false, laid := [("unicode/utf8.acceptRanges", laid_unicode_utf8_acceptRanges), ("unicode/utf8.first", laid_unicode_utf8_first)], narrowed := true }
def UpgradeUpsUptoSaid : Prop := upgradeUpsUptoRow.holds Tryd.pinned (OpenSpec.upto upgradeUpsSpec)

/-- 'dioramalaw18.UpgradeMeasure', WHERE WHAT IT READS IS OF BULK AT MOST 1048576: true; the input reads as it did. -/
def upgradeMeasureUptoRow : OpenClaim := { program := "ytglfebpgdghlfaadoor", sum := "649eb4f5a03d4135da329bf067a795f4b49fcce7d68e026dbcc69565ccd339f5", func := "diorama/dioramalaw18.UpgradeMeasure", spec := "upgradeMeasure", unfollowed := true, recurses := true, named := ["unicode/utf8.first", "unicode/utf8.acceptRanges"], apart := false, laid := [("unicode/utf8.acceptRanges", laid_unicode_utf8_acceptRanges), ("unicode/utf8.first", laid_unicode_utf8_first)], narrowed := true }
def UpgradeMeasureUptoSaid : Prop := upgradeMeasureUptoRow.holds Tryd.pinned (OpenSpec.upto upgradeMeasureSpec)

/-- 'dioramalaw23.RebuildApplies', WHERE WHAT IT READS IS OF BULK AT MOST 1048576: true; the input reads as it did. -/
def rebuildAppliesUptoRow : OpenClaim := { program := "ytglfebpgdghlfaadoor", sum := "649eb4f5a03d4135da329bf067a795f4b49fcce7d68e026dbcc69565ccd339f5", func := "diorama/dioramalaw23.RebuildApplies", spec := "rebuildApplies", unfollowed := true, recurses := true, named := ["unicode/utf8.first", "unicode/utf8.acceptRanges"], apart := false, laid := [("unicode/utf8.acceptRanges", laid_unicode_utf8_acceptRanges), ("unicode/utf8.first", laid_unicode_utf8_first)], narrowed := true }
def RebuildAppliesUptoSaid : Prop := rebuildAppliesUptoRow.holds Tryd.pinned (OpenSpec.upto rebuildAppliesSpec)

/-- 'dioramalaw23.RebuildKeeps', WHERE WHAT IT READS IS OF BULK AT MOST 1048576: true; the input reads as it did. -/
def rebuildKeepsUptoRow : OpenClaim := { program := "ytglfebpgdghlfaadoor", sum := "649eb4f5a03d4135da329bf067a795f4b49fcce7d68e026dbcc69565ccd339f5", func := "diorama/dioramalaw23.RebuildKeeps", spec := "rebuildKeeps", unfollowed := true, recurses := true, named := ["unicode/utf8.first", "unicode/utf8.acceptRanges"], apart := false, laid := [("unicode/utf8.acceptRanges", laid_unicode_utf8_acceptRanges), ("unicode/utf8.first", laid_unicode_utf8_first)], narrowed := true }
def RebuildKeepsUptoSaid : Prop := rebuildKeepsUptoRow.holds Tryd.pinned (OpenSpec.upto rebuildKeepsSpec)

/-- 'dioramalaw23.RebuildSame', WHERE WHAT IT READS IS OF BULK AT MOST 1048576: true; the input reads as it did. -/
def rebuildSameUptoRow : OpenClaim := { program := "ytglfebpgdghlfaadoor", sum := "649eb4f5a03d4135da329bf067a795f4b49fcce7d68e026dbcc69565ccd339f5", func := "diorama/dioramalaw23.RebuildSame", spec := "rebuildSame", unfollowed := true, recurses := true, named := ["unicode/utf8.first", "unicode/utf8.acceptRanges"], apart := false, laid := [("unicode/utf8.acceptRanges", laid_unicode_utf8_acceptRanges), ("unicode/utf8.first", laid_unicode_utf8_first)], narrowed := true }
def RebuildSameUptoSaid : Prop := rebuildSameUptoRow.holds Tryd.pinned (OpenSpec.upto rebuildSameSpec)

/-- 'dioramalaw18.UpgradeKeeps', WHERE WHAT IT READS IS OF BULK AT MOST 1048576: true; the input reads as it did. -/
def upgradeKeepsUptoRow : OpenClaim := { program := "ytglfebpgdghlfaadoor", sum := "649eb4f5a03d4135da329bf067a795f4b49fcce7d68e026dbcc69565ccd339f5", func := "diorama/dioramalaw18.UpgradeKeeps", spec := "upgradeKeeps", unfollowed := true, recurses := true, named := ["unicode/utf8.first", "unicode/utf8.acceptRanges"], apart := false, laid := [("unicode/utf8.acceptRanges", laid_unicode_utf8_acceptRanges), ("unicode/utf8.first", laid_unicode_utf8_first)], narrowed := true }
def UpgradeKeepsUptoSaid : Prop := upgradeKeepsUptoRow.holds Tryd.pinned (OpenSpec.upto upgradeKeepsSpec)

/-- 'dioramalaw23.RebuildValid', WHERE WHAT IT READS IS OF BULK AT MOST 1048576: true; the input reads as it did. -/
def rebuildValidUptoRow : OpenClaim := { program := "ytglfebpgdghlfaadoor", sum := "649eb4f5a03d4135da329bf067a795f4b49fcce7d68e026dbcc69565ccd339f5", func := "diorama/dioramalaw23.RebuildValid", spec := "rebuildValid", unfollowed := true, recurses := true, named := ["unicode/utf8.first", "unicode/utf8.acceptRanges"], apart := false, laid := [("unicode/utf8.acceptRanges", laid_unicode_utf8_acceptRanges), ("unicode/utf8.first", laid_unicode_utf8_first)], narrowed := true }
def RebuildValidUptoSaid : Prop := rebuildValidUptoRow.holds Tryd.pinned (OpenSpec.upto rebuildValidSpec)

end Rows
end Go.Proofs.YtglfebpgdghlfaaDoor
