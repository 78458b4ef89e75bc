/-
  No cell of these rows narrows 'for every input' (looked for: loops, veiled, ifaces, maps, wideKeys, modest, calm, conditions, laid).
  DERIVED. THE GIVEN ROWS OF THIS SEAT. 5 by the template 'for every input the law returns true; each argument reads behind the call as it read before'; 0 by the template 'total and deterministic' (their statements: YtapoajpmmfddmaaTotals.lean).
  GIVEN WITH THE SEED: the statements are not yours to turn. If you find one false, say at which input.
  Laid BY PROGRAM, IN A SANDBOX (cutbox-rows.mjs): the forced cells as the released guide's own fill.sh prints them over the translation 2b11f103a95287c0… (all of the seat's roots in one cut). By AI agents, Wed Nov 11 2026. No macro, syntax, notation, axiom, sorry.
-/
import Derived.Test.YtapoajpmmfddmaaChecked
import GoSem.Claim
import GoSem.ClaimJoined
import GoSem.ClaimMapViews
import Derived.JoinedTies
import Derived.KernelRfl
namespace Go.Proofs.Ytapoajpmmfddmaa
/- THE CELL 'sum', in the pinned program and in every row, IS THE sha256 OF THE DUMP (.gsa) THAT YtapoajpmmfddmaaProg.lean LOADS. Nothing in Lean hashes anything: it is a label: what it is worth is what the hold of that sum in a sandbox is worth. -/
noncomputable def Try.pinned : Pinned := { name := "ytapoajpmmfddmaa", sum := "2b11f103a95287c091de35012bc53a0e4b8c4e3da634276280a259c1b6e0e715", checked := Try.checked }
namespace Rows
def none {H : Type} : Left H := { results := [], args := [] }

/-- 'dioramalaw20.ScriptApplies': WHATEVER THE INPUT: true; the input reads as it did. -/
def scriptAppliesSpec : ChangeSpec := { name := "scriptApplies", fn := fun _ => fun
  | [d1, d2] => { results := [.lit (.bool true)], args := [d1, d2] }
  | _ => none }
def scriptAppliesRow : OpenClaim := { program := "ytapoajpmmfddmaa", sum := "2b11f103a95287c091de35012bc53a0e4b8c4e3da634276280a259c1b6e0e715", func := "diorama/dioramalaw20.ScriptApplies", spec := "scriptApplies", apart := false }
def ScriptAppliesSaid : Prop := scriptAppliesRow.holds Try.pinned (OpenSpec.ofChange scriptAppliesSpec)

/-- ITS FALSE NEIGHBOUR: 'it returns false'. Refute it at one input. -/
def scriptAppliesWrong : ChangeSpec := { name := "scriptApplies", fn := fun _ => fun
  | [d1, d2] => { results := [.lit (.bool false)], args := [d1, d2] }
  | _ => none }
def ScriptAppliesWrongFalsely : Prop := scriptAppliesRow.holds Try.pinned (OpenSpec.ofChange scriptAppliesWrong)

/-- 'dioramalaw20.ScriptMakes': WHATEVER THE INPUT: true; the input reads as it did. -/
def scriptMakesSpec : ChangeSpec := { name := "scriptMakes", fn := fun _ => fun
  | [d1, d2] => { results := [.lit (.bool true)], args := [d1, d2] }
  | _ => none }
def scriptMakesRow : OpenClaim := { program := "ytapoajpmmfddmaa", sum := "2b11f103a95287c091de35012bc53a0e4b8c4e3da634276280a259c1b6e0e715", func := "diorama/dioramalaw20.ScriptMakes", spec := "scriptMakes", apart := false }
def ScriptMakesSaid : Prop := scriptMakesRow.holds Try.pinned (OpenSpec.ofChange scriptMakesSpec)

/-- ITS FALSE NEIGHBOUR: 'it returns false'. Refute it at one input. -/
def scriptMakesWrong : ChangeSpec := { name := "scriptMakes", fn := fun _ => fun
  | [d1, d2] => { results := [.lit (.bool false)], args := [d1, d2] }
  | _ => none }
def ScriptMakesWrongFalsely : Prop := scriptMakesRow.holds Try.pinned (OpenSpec.ofChange scriptMakesWrong)

/-- 'dioramalaw20.ScriptLeast': WHATEVER THE INPUT: true; the input reads as it did. -/
def scriptLeastSpec : ChangeSpec := { name := "scriptLeast", fn := fun _ => fun
  | [d1, d2] => { results := [.lit (.bool true)], args := [d1, d2] }
  | _ => none }
def scriptLeastRow : OpenClaim := { program := "ytapoajpmmfddmaa", sum := "2b11f103a95287c091de35012bc53a0e4b8c4e3da634276280a259c1b6e0e715", func := "diorama/dioramalaw20.ScriptLeast", spec := "scriptLeast", apart := false }
def ScriptLeastSaid : Prop := scriptLeastRow.holds Try.pinned (OpenSpec.ofChange scriptLeastSpec)

/-- ITS FALSE NEIGHBOUR: 'it returns false'. Refute it at one input. -/
def scriptLeastWrong : ChangeSpec := { name := "scriptLeast", fn := fun _ => fun
  | [d1, d2] => { results := [.lit (.bool false)], args := [d1, d2] }
  | _ => none }
def ScriptLeastWrongFalsely : Prop := scriptLeastRow.holds Try.pinned (OpenSpec.ofChange scriptLeastWrong)

/-- 'dioramalaw20.ScriptSame': WHATEVER THE INPUT: true; the input reads as it did. -/
def scriptSameSpec : ChangeSpec := { name := "scriptSame", fn := fun _ => fun
  | [d] => { results := [.lit (.bool true)], args := [d] }
  | _ => none }
def scriptSameRow : OpenClaim := { program := "ytapoajpmmfddmaa", sum := "2b11f103a95287c091de35012bc53a0e4b8c4e3da634276280a259c1b6e0e715", func := "diorama/dioramalaw20.ScriptSame", spec := "scriptSame", apart := false }
def ScriptSameSaid : Prop := scriptSameRow.holds Try.pinned (OpenSpec.ofChange scriptSameSpec)

/-- ITS FALSE NEIGHBOUR: 'it returns false'. Refute it at one input. -/
def scriptSameWrong : ChangeSpec := { name := "scriptSame", fn := fun _ => fun
  | [d] => { results := [.lit (.bool false)], args := [d] }
  | _ => none }
def ScriptSameWrongFalsely : Prop := scriptSameRow.holds Try.pinned (OpenSpec.ofChange scriptSameWrong)

/-- 'dioramalaw20.ScriptBack': WHATEVER THE INPUT: true; the input reads as it did. -/
def scriptBackSpec : ChangeSpec := { name := "scriptBack", fn := fun _ => fun
  | [d1, d2, d3] => { results := [.lit (.bool true)], args := [d1, d2, d3] }
  | _ => none }
def scriptBackRow : OpenClaim := { program := "ytapoajpmmfddmaa", sum := "2b11f103a95287c091de35012bc53a0e4b8c4e3da634276280a259c1b6e0e715", func := "diorama/dioramalaw20.ScriptBack", spec := "scriptBack", apart := false }
def ScriptBackSaid : Prop := scriptBackRow.holds Try.pinned (OpenSpec.ofChange scriptBackSpec)

/-- ITS FALSE NEIGHBOUR: 'it returns false'. Refute it at one input. -/
def scriptBackWrong : ChangeSpec := { name := "scriptBack", fn := fun _ => fun
  | [d1, d2, d3] => { results := [.lit (.bool false)], args := [d1, d2, d3] }
  | _ => none }
def ScriptBackWrongFalsely : Prop := scriptBackRow.holds Try.pinned (OpenSpec.ofChange scriptBackWrong)

/- THE SECOND FORM. 'bulk': how many values and letters a reading holds, each counted each time it is reached (what is shared counts as often as it is met; a slice's spare places count too). A statement '..UptoSaid' is the law's where the arguments, and the package variables that the reading takes, are together of bulk at most 1048576: NARROWER than '..Said'. Prove '..Said' where nothing that the law and all that it calls make is longer than what came in: it says more and counts as full. Else prove '..UptoSaid'. A law counts once. -/
mutual
def uptoBulk {H : Type} : DataW H → Nat
  | .lit (.string bytes) => bytes.length + 1
  | .lit _ => 1
  | .nil => 1
  | .ptr d => uptoBulk d + 1
  | .slice elems spare => uptoBulkAll elems + uptoBulkAll spare + 1
  | .agg parts => uptoBulkAll parts + 1
  | .iface _ d => uptoBulk d + 1
  | .map entries => uptoBulkEntries entries + 1
  | .held _ => 1
def uptoBulkAll {H : Type} : List (DataW H) → Nat
  | [] => 0
  | d :: r => uptoBulk d + uptoBulkAll r
def uptoBulkEntries {H : Type} : List (Lit × DataW H) → Nat
  | [] => 0
  | x :: r => uptoBulkEntry x + uptoBulkEntries r
def uptoBulkEntry {H : Type} : Lit × DataW H → Nat
  | (.string bytes, d) => bytes.length + uptoBulk d + 1
  | (_, d) => uptoBulk d + 1
 end
def uptoSmall : (H : Type) → List (DataW H) → Bool := fun _ ds => decide (uptoBulkAll ds ≤ 1048576)
def OpenSpec.upto (s : _root_.Go.ChangeSpec) : _root_.Go.OpenSpec := { _root_.Go.OpenSpec.ofChange s with cond := some uptoSmall }

/-- 'dioramalaw20.ScriptApplies', WHERE WHAT IT READS IS OF BULK AT MOST 1048576: true; the input reads as it did. -/
def scriptAppliesUptoRow : OpenClaim := { program := "ytapoajpmmfddmaa", sum := "2b11f103a95287c091de35012bc53a0e4b8c4e3da634276280a259c1b6e0e715", func := "diorama/dioramalaw20.ScriptApplies", spec := "scriptApplies", apart := false, narrowed := true }
def ScriptAppliesUptoSaid : Prop := scriptAppliesUptoRow.holds Try.pinned (OpenSpec.upto scriptAppliesSpec)

/-- 'dioramalaw20.ScriptMakes', WHERE WHAT IT READS IS OF BULK AT MOST 1048576: true; the input reads as it did. -/
def scriptMakesUptoRow : OpenClaim := { program := "ytapoajpmmfddmaa", sum := "2b11f103a95287c091de35012bc53a0e4b8c4e3da634276280a259c1b6e0e715", func := "diorama/dioramalaw20.ScriptMakes", spec := "scriptMakes", apart := false, narrowed := true }
def ScriptMakesUptoSaid : Prop := scriptMakesUptoRow.holds Try.pinned (OpenSpec.upto scriptMakesSpec)

/-- 'dioramalaw20.ScriptLeast', WHERE WHAT IT READS IS OF BULK AT MOST 1048576: true; the input reads as it did. -/
def scriptLeastUptoRow : OpenClaim := { program := "ytapoajpmmfddmaa", sum := "2b11f103a95287c091de35012bc53a0e4b8c4e3da634276280a259c1b6e0e715", func := "diorama/dioramalaw20.ScriptLeast", spec := "scriptLeast", apart := false, narrowed := true }
def ScriptLeastUptoSaid : Prop := scriptLeastUptoRow.holds Try.pinned (OpenSpec.upto scriptLeastSpec)

/-- 'dioramalaw20.ScriptSame', WHERE WHAT IT READS IS OF BULK AT MOST 1048576: true; the input reads as it did. -/
def scriptSameUptoRow : OpenClaim := { program := "ytapoajpmmfddmaa", sum := "2b11f103a95287c091de35012bc53a0e4b8c4e3da634276280a259c1b6e0e715", func := "diorama/dioramalaw20.ScriptSame", spec := "scriptSame", apart := false, narrowed := true }
def ScriptSameUptoSaid : Prop := scriptSameUptoRow.holds Try.pinned (OpenSpec.upto scriptSameSpec)

/-- 'dioramalaw20.ScriptBack', WHERE WHAT IT READS IS OF BULK AT MOST 1048576: true; the input reads as it did. -/
def scriptBackUptoRow : OpenClaim := { program := "ytapoajpmmfddmaa", sum := "2b11f103a95287c091de35012bc53a0e4b8c4e3da634276280a259c1b6e0e715", func := "diorama/dioramalaw20.ScriptBack", spec := "scriptBack", apart := false, narrowed := true }
def ScriptBackUptoSaid : Prop := scriptBackUptoRow.holds Try.pinned (OpenSpec.upto scriptBackSpec)

end Rows
end Go.Proofs.Ytapoajpmmfddmaa
