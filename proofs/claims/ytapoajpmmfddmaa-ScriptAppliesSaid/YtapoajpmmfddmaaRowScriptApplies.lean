/- Any edits make of any list of numbers what the reference says, or can't, and keep as many places as it says; conditions: none (every list and every list of edits). -/
import Derived.Test.YtapoajpmmfddmaaRows
import Derived.Test.YtapoajpmmfddmaaScF
import Derived.Test.YtapoajpmmfddmaaOpen
import Derived.WalkKit
import Derived.ProofKit
import Derived.OpenShut
import Derived.ChangeOld
import Derived.Below
import Derived.SizedLaws
namespace Go.Proofs.Ytapoajpmmfddmaa.scriptApplies
open Go.ChangeShapes Go.WideShapes Go.ChangeAt Go.RowKit Go.Proofs.YtapoajpmmfddmaaW.PrintWords
theorem own : ownKnob Try.prog.godebug = none := by kernel_rfl
theorem laidOut : laidOutB Try.prog = true := by kernel_rfl
theorem opens_ed : Sc.Opens Try.prog Sc.kEd 34 (fun _ => True) := by
  intro H enc w base spare held fuel cs x h
  obtain ⟨v, hv, _⟩ := Sc.opens_iso (f := fun x : Sc.Ed => (x.kind, x.n)) (fun v => ⟨⟨v.1, v.2⟩, rfl⟩) (Sc.opens_struct (k := Kd.pair (Kd.int .i64) (Kd.int .i64)) Try.underlying34 (by kernel_rfl) (Sc.opensL_cons rfl (by kernel_rfl) (Sc.opens_int Try.underlying3) (by decide) (Sc.opensL_one rfl (by kernel_rfl) (Sc.opens_int Try.underlying3)))) H enc w base spare held fuel cs x h
  exact ⟨v, hv, trivial⟩
set_option maxRecDepth 100000 in
theorem lifted (os : Os) (started : os.Started) (H : Type) (enc : TypeId × Value → H) :
    ReturnsInHanded {} Try.checked os 3 .any (Rows.scriptAppliesSpec.pre6 enc Try.prog Try.f3 Rows.scriptAppliesRow.domain false) (Rows.scriptAppliesSpec.post enc Try.prog Try.f3 false true false false) := by
  refine returnsInHanded_of_change_sized (C := Try.checked) own started (by kernel_rfl) Try.func3
    (ChangeSpec.witness6 (enc := enc) (C := Try.checked) false ⟨#[], #[.slice none 0 0, .slice none 0 0], []⟩ 8 (by kernel_rfl) (by kernel_rfl) (by kernel_rfl) (by kernel_rfl)) ?_
  intro W base args ds gs before hval0 hW hcnd hsz0 _
  have hval : ∀ (j : Nat) t v, Try.f3.params[j]? = some t → args[j]? = some v → Value.okWide Try.prog W .any base t v := hval0
  have hW' := hW
  obtain ⟨p, q, hA0, hV, rfl, hfz, hnd⟩ := hW
  have hA : DataW.TrodAll enc Try.prog W 0 (fun _ => true) true Try.f3.params.toList args.toList ds p := hA0
  rw [Try.params3] at hA hval
  obtain ⟨v0, vs0, d0, ds0, p0, q0, hargs, rfl, rfl, h0, r0⟩ := trodAll_cons hA
  obtain ⟨v1, vs1, d1, ds1, p1, q1, rfl, rfl, rfl, h1, r1⟩ := trodAll_cons r0
  obtain ⟨rfl, rfl, rfl⟩ := trodAll_nil r1
  obtain rfl : args = #[v0, v1] := by cases args; simp_all
  obtain ⟨rfl, rfl⟩ := trodVars_none hV
  have lt0 : ∀ x ∈ p0, x.block < W.heap.size := by obtain ⟨m, hm⟩ := h0; exact DataW.trod_lt m _ _ _ hm
  obtain ⟨a0, l0, c0, rfl, e0, k0, -⟩ := Sc.Opens.arg_slice Try.underlying22 (Sc.opens_slice (e' := 3) Try.underlying22 (by kernel_rfl) (Sc.opens_int Try.underlying3)) (hval 0 22 v0 rfl rfl) h0
  have lt1 : ∀ x ∈ p1, x.block < W.heap.size := by obtain ⟨m, hm⟩ := h1; exact DataW.trod_lt m _ _ _ hm
  obtain ⟨a1, l1, c1, rfl, e1, k1, -⟩ := Sc.Opens.arg_slice Try.underlying23 (Sc.opens_slice (e' := 34) Try.underlying23 (by kernel_rfl) opens_ed) (hval 1 23 v1 rfl rfl) h1
  clear hA0 hval0 hsz0
  refine (Sc.applies_law a0 c0 l0 a1 c1 l1 W k0 e0 k1).mono fun e W' ⟨he, bel⟩ => ?_
  subst he
  exact ⟨_, rfl, _, _, _, [], _, [], hW', trodAll_mk1 (shut_bool Try.underlying4 _), (trodAll_cons_mk (Below.trod laidOut (by kernel_rfl) (of_decide_eq_true (by kernel_rfl)) h0 bel lt0) (trodAll_cons_mk (Below.trod laidOut (by kernel_rfl) (of_decide_eq_true (by kernel_rfl)) h1 bel lt1) trodAll_mk0)), rfl, bel.frame _, fun h => by cases h⟩
theorem over : Rows.scriptAppliesRow.holds Try.pinned (OpenSpec.ofChange Rows.scriptAppliesSpec) :=
  OpenClaim.holds_of_wide 3 Try.f3 rfl rfl rfl rfl rfl rfl rfl ⟨rfl, rfl, rfl, rfl, rfl⟩ rfl rfl rfl rfl rfl (by kernel_rfl) Try.func3 (by kernel_rfl)
    (of_decide_eq_true (by kernel_rfl)) (by unfold Func.isWrapper; first | (rw [if_pos (by decide +kernel)]; kernel_rfl) | (rw [if_neg (by decide +kernel)]; exact ⟨rfl, rfl⟩))
    (fun os started H enc _ => lifted os started H enc)
end Go.Proofs.Ytapoajpmmfddmaa.scriptApplies
namespace Go.Proofs.Ytapoajpmmfddmaa
/-- The statement. -/
theorem scriptApplies_holds : Rows.ScriptAppliesSaid := scriptApplies.over
#print axioms scriptApplies_holds
end Go.Proofs.Ytapoajpmmfddmaa
