/- A scene becomes by upgrade.Up at least as deep a scene, and at most twice as deep; its texts are those that it had, the empty one, and sans; conditions: none (every scene; the two tables of unicode/utf8 read as the program's text lays them, and the card ties that). Conditions: those that each theorem states. -/
import Derived.Test.YtglfebpgdghlfaaDoorQme
import Derived.StringKeys
import Derived.Test.YtglfebpgdghlfaaDoorCards
import Derived.Test.YtglfebpgdghlfaaDoorTie
import Derived.OpenShut
import Derived.ChangeOld
import Derived.SizedLaws
import Derived.LaidMore
import Derived.Lay
import Derived.SevenTiedAt
import Derived.Stop.Joined
import Derived.Lib.LaidU8
set_option linter.unusedVariables false
set_option linter.unusedSimpArgs false
section
namespace Go.Proofs.YtglfebpgdghlfaaDoor.L
open Go.RowKit Go.ChangeShapes Go.WideShapes Go.Proofs.YtglfebpgdghlfaaDoorW.PrintWords Go.Proofs.YtglfebpgdghlfaaDoorW.PrintLast Go.Proofs.YtglfebpgdghlfaaDoorW.PrintMore
attribute [local go_sem] max2_int min2_int max_two min_two max_three min_three max_four min_four
open Go.Proofs.YtglfebpgdghlfaaDoor.PUpgradeUps
structure KidB (f : Int → Int) (n : Node) (v1 v2 v3 : Value) (j g : Nat) (W0 W : World) : Prop where
  below : Below W0.heap.size W0 W
  gb : W0.heap.size ≤ g
  box : W.heap[g]? = some (.cells #[.int .i64 n.kind, v1, v2, v3] 26 (0, 0))
  r1 : (Kd.int .i64).R 2 W W0.heap.size (fun _ => True) v1 n.ints
  r2 : Kd.string.R 9 W W0.heap.size (fun _ => True) v2 n.texts
  r3 : (Kd.int .i64).R 3 W W0.heap.size (fun _ => True) v3 (mapTake f n.kids j)
theorem KidB.drewN {f : Int → Int} {n : Node} {v1 v2 v3 : Value} {j g : Nat} {W0 W : World} (h : KidB f n v1 v2 v3 j g W0 W) (m : Nat) : KidB f n v1 v2 v3 j g W0 (W.drewN m) :=
  ⟨pw_below_drewN h.below m, h.gb, h.box, Kd.R_drewN h.r1 m, Kd.R_drewN h.r2 m, Kd.R_drewN h.r3 m⟩
theorem KidB.set {f : Int → Int} {n : Node} {v1 v2 : Value} {g' g c m : Nat} {j : Nat} {W0 W : World} (h : KidB f n v1 v2 (.slice (some ⟨g, 0, none⟩) m c) j g' W0 W) (hj : j < n.kids.length) :
    W.cell? ⟨g, j, none⟩ = some (.int .i64 (rd n.kids (j : Int))) ∧ W.frozen? ⟨g, j, none⟩ = false ∧ g ≠ g' ∧ KidB f n v1 v2 (.slice (some ⟨g, 0, none⟩) m c) (j + 1) g' W0 (W.setCell ⟨g, j, none⟩ (.int .i64 (f (rd n.kids (j : Int))))) := by
  have hm := (Kd.R_reads' h.r3).1
  rw [mapTake_len] at hm
  obtain ⟨c1, c2⟩ := ints_cell h.r3 j (by omega)
  obtain ⟨s1, s2, s3⟩ := ints_store h.r3 j (by omega) (f (rd n.kids (j : Int)))
  rw [mapTake_rd f _ _ hj] at c1
  rw [mapTake_set f _ _ hj] at s1
  obtain ⟨cells, hc⟩ := Kd.R_typed h.r3 g rfl
  have hne : g ≠ g' := fun e => by
    rw [e, h.box] at hc
    cases hc
  refine ⟨c1, c2, hne, below_set h.below s3, h.gb, blk_grown h.box s2 (fun e => ?_), Kd.R_grown1 h.r1 rfl s2 (Kd.R_ne h.r1 hc (by decide)), Kd.R_grown1 h.r2 rfl s2 (Kd.R_ne h.r2 hc (by decide)), s1⟩
  injection e with e
  exact hne e.symm
theorem R_apart {α β : Type} {d : Kd α} {d' : Kd β} {e e' : Nat} {w : World} {b b' : Nat} {ok ok' : Nat → Prop} {v v' : Value} {xs : List α} {ys : List β} (h : d.R e w b ok v xs) (h' : d'.R e' w b' ok' v' ys) (hT : e ≠ e') (k : Nat) (hk : some k = v.ownBlock) : some k ≠ v'.ownBlock := fun hk' => by
  obtain ⟨c1, e1⟩ := Kd.R_typed h k hk.symm
  obtain ⟨c2, e2⟩ := Kd.R_typed h' k hk'.symm
  rw [e1] at e2
  injection e2 with e2
  injection e2 with _ e2
  exact hT e2
theorem KidB.drew {f : Int → Int} {n : Node} {v1 v2 v3 : Value} {j g : Nat} {W0 W : World} (h : KidB f n v1 v2 v3 j g W0 W) : KidB f n v1 v2 v3 j g W0 W.drew := h.drewN 1
structure CnRel (w1 : World) (root : Int) (xs : List Node) (v4 : Value) (W : World) : Prop where
  below : Below w1.heap.size w1 W
  out : W.heap[w1.heap.size]? = some (.cells #[v4, .int .i64 root] 39 (0, 0))
  row : kNode.R 26 W w1.heap.size (fun _ => True) v4 xs
theorem CnRel.start (w1 : World) (root : Int) : CnRel w1 root [] (.slice none 0 0) (w1.alloc (.cells #[.slice none 0 0, .int .i64 root] 39)) :=
  ⟨below_alloc (Below.refl _ _) _, by simpa using heap_alloc_new w1 _, Kd.R_nil _ _ _ _ _⟩
theorem CnRel.later {w1 : World} {root : Int} {xs : List Node} {v4 : Value} {W W1 : World} (h : CnRel w1 root xs v4 W) (hb : Below W.heap.size W W1) : CnRel w1 root xs v4 W1 :=
  ⟨below_step h.below hb, (hb.block _ (blk_lt h.out)).trans h.out, Kd.R_below h.row hb⟩
theorem CnRel.drewN {w1 : World} {root : Int} {xs : List Node} {v4 : Value} {W : World} (h : CnRel w1 root xs v4 W) (m : Nat) : CnRel w1 root xs v4 (W.drewN m) := h.later (pw_below_drewN (Below.refl _ _) m)
theorem CnRel.put {w1 : World} {root : Int} {xs : List Node} {v4 v5 : Value} {ys : List Node} {W w2 : World} (h : CnRel w1 root xs v4 W) (hR : kNode.R 26 w2 w1.heap.size (fun _ => True) v5 ys) (hB : Below w1.heap.size w1 w2) (hg : W.grownBy w2 v4.ownBlock) :
    w2.heap[w1.heap.size]? = some (.cells #[v4, .int .i64 root] 39 (0, 0)) ∧ CnRel w1 root ys v5 (w2.setCell ⟨w1.heap.size, 0, none⟩ v5) := by
  have hb := blk_grown h.out hg (Kd.R_ne h.row h.out (by decide))
  refine ⟨hb, below_set hB (Nat.le_refl _), ?_, R_type hR hb (by decide) v5 0⟩
  have := blk_set hb 0 v5
  simpa using this
end Go.Proofs.YtglfebpgdghlfaaDoor.L
end
section
namespace Go.Proofs.YtglfebpgdghlfaaDoor.L
open Go.RowKit Go.ChangeShapes Go.WideShapes Go.Proofs.YtglfebpgdghlfaaDoorW.PrintWords Go.Proofs.YtglfebpgdghlfaaDoorW.PrintLast Go.Proofs.YtglfebpgdghlfaaDoorW.PrintMore
attribute [local go_sem] max2_int min2_int max_two min_two max_three min_three max_four min_four
open Go.Proofs.YtglfebpgdghlfaaDoor.PUpgradeUps
structure LedInv (ns : List Node) (K : List Int) (met : List Bool) (vs work : List Int) : Prop where
  len : met.length = ns.length
  tell : ∀ i : Nat, i < ns.length → rdOf false met (i : Int) = decide ((i : Int) ∈ vs)
  vpl : ∀ x ∈ vs, 0 ≤ x ∧ x < (ns.length : Int)
  wpl : ∀ x ∈ work, 0 ≤ x ∧ x < (ns.length : Int)
  vin : ∀ x ∈ vs, Rch ns K x
  win : ∀ x ∈ work, Rch ns K x
  k0 : ∀ k ∈ K, k ∈ vs ∨ k ∈ work
  clo : ∀ x ∈ vs, ∀ k ∈ kids ns x, k ∈ vs ∨ k ∈ work
theorem LedInv.done {ns : List Node} {K : List Int} {met : List Bool} {vs : List Int} (h : LedInv ns K met vs []) (x : Int) : Rch ns K x ↔ x ∈ vs := by
  refine ⟨fun hr => ?_, h.vin x⟩
  induction hr with
  | base hk => exact (h.k0 _ hk).resolve_right (by simp)
  | step _ hk ih => exact (h.clo _ ih _ hk).resolve_right (by simp)
theorem LedInv.skip {ns : List Node} {K : List Int} {met : List Bool} {vs work : List Int} {x : Int} (h : LedInv ns K met vs (x :: work)) (hx : x ∈ vs) : LedInv ns K met vs work :=
  ⟨h.len, h.tell, h.vpl, fun y hy => h.wpl y (by simp [hy]), h.vin, fun y hy => h.win y (by simp [hy]),
    fun k hk => (h.k0 k hk).elim .inl (fun hm => by
      rcases List.mem_cons.1 hm with rfl | hm
      · exact .inl hx
      · exact .inr hm),
    fun y hy k hk => (h.clo y hy k hk).elim .inl (fun hm => by
      rcases List.mem_cons.1 hm with rfl | hm
      · exact .inl hx
      · exact .inr hm)⟩
theorem LedInv.meet {ns : List Node} {K : List Int} {met : List Bool} {vs work : List Int} {x : Int} (hP : Places ns) (h : LedInv ns K met vs (x :: work)) (hx : ¬ x ∈ vs) : LedInv ns K (met.set x.toNat true) (x :: vs) (work ++ kids ns x) := by
  have hxp := h.wpl x (by simp)
  obtain ⟨q, rfl⟩ : ∃ q : Nat, x = (q : Int) := ⟨x.toNat, by omega⟩
  have hkp : ∀ k ∈ kids ns q, 0 ≤ k ∧ k < (ns.length : Int) := fun k hk => hP q (by omega) k hk
  refine ⟨by rw [List.length_set]; exact h.len, fun i hi => ?_, fun y hy => ?_, fun y hy => ?_, fun y hy => ?_, fun y hy => ?_, fun k hk => ?_, fun y hy k hk => ?_⟩
  · have ht := h.tell i hi
    unfold rdOf at ht ⊢
    rw [Int.toNat_natCast] at ht ⊢
    rw [Int.toNat_natCast, List.getD_eq_getElem?_getD, List.getElem?_set]
    rw [List.getD_eq_getElem?_getD] at ht
    by_cases e : q = i
    · subst e
      rw [if_pos rfl, if_pos (by rw [h.len]; exact hi)]
      simp
    · rw [if_neg e, ht]
      have : ((i : Int) ∈ (q : Int) :: vs) ↔ (i : Int) ∈ vs := by
        rw [List.mem_cons]
        exact ⟨fun h => h.resolve_left (fun e' => e (by omega)), .inr⟩
      exact decide_eq_decide.2 this.symm
  · rcases List.mem_cons.1 hy with rfl | hy
    · exact hxp
    · exact h.vpl y hy
  · rcases List.mem_append.1 hy with hy | hy
    · exact h.wpl y (by simp [hy])
    · exact hkp y hy
  · rcases List.mem_cons.1 hy with rfl | hy
    · exact h.win _ (by simp)
    · exact h.vin y hy
  · rcases List.mem_append.1 hy with hy | hy
    · exact h.win y (by simp [hy])
    · exact .step (h.win _ (List.mem_cons_self)) hy
  · rcases h.k0 k hk with hm | hm
    · exact .inl (by simp [hm])
    · rcases List.mem_cons.1 hm with rfl | hm
      · exact .inl (by simp)
      · exact .inr (by simp [hm])
  · rcases List.mem_cons.1 hy with rfl | hy
    · exact .inr (by simp [hk])
    · rcases h.clo y hy k hk with hm | hm
      · exact .inl (by simp [hm])
      · rcases List.mem_cons.1 hm with rfl | hm
        · exact .inl (by simp)
        · exact .inr (by simp [hm])
def Tells (ns : List Node) (K : List Int) (r : List Bool) : Prop := r.length = ns.length ∧ ∀ i : Nat, i < ns.length → (rdOf false r (i : Int) = true ↔ Rch ns K (i : Int))
theorem led_l0 {ns : List Node} (hP : Places ns) (K : List Int) (root : Int) (hM : rows ns ≤ 1000000) : ∀ (m : Nat) (met : List Bool) (vs work : List Int), LedInv ns K met vs work → left ns vs + work.length < m → work.length ≤ 3000000 →
    (work.length + left ns vs ≤ 3000000) → ∃ r, dioramaref09_Led.l0 m met work (ns.map toS) root = some r ∧ Tells ns K r
  | 0, _, _, _, _, h, _, _ => by omega
  | m + 1, met, vs, [], h, _, _, _ => by
    rw [dioramaref09_Led.l0, if_neg (by simp)]
    refine ⟨_, rfl, h.len, fun i hi => ?_⟩
    rw [h.tell i hi, decide_eq_true_iff]
    exact (h.done _).symm
  | m + 1, met, vs, x :: work, h, hl, hw, hs => by
    have hxp := h.wpl x (by simp)
    have hrd : rd (x :: work) 0 = x := rfl
    have hlen : (((x :: work).length : Nat) : Int) = (work.length : Int) + 1 := by simp
    rw [dioramaref09_Led.l0, if_pos (by rw [hlen]; omega), if_pos (by rw [hlen]; omega), if_pos (by rw [hlen]; omega), Option.bind_some, hrd, if_pos hxp.1, if_pos (by rw [h.len]; exact hxp.2)]
    rw [show (x :: work).drop (1 : Int).toNat = work from rfl]
    have hlen' : (x :: work).length = work.length + 1 := rfl
    obtain ⟨q, rfl⟩ : ∃ q : Nat, x = (q : Int) := ⟨x.toNat, by omega⟩
    have ht := h.tell q (by omega)
    by_cases hx : (q : Int) ∈ vs
    · rw [if_pos (by rw [ht]; exact decide_eq_true hx)]
      exact led_l0 hP K root hM m met vs work (h.skip hx) (by omega) (by omega) (by omega)
    · rw [if_neg (by rw [ht, decide_eq_false hx]; decide), Option.bind_some, if_pos (by simp; omega), Option.bind_some, if_pos (by rw [List.length_map]; exact hxp.2)]
      have hk := kids_to ns (q : Int)
      have hlc := left_cons (ns := ns) (vs := vs) (x := q) (by omega) hx
      have hwt : wt ns q = (kids ns (q : Int)).length + 1 := rfl
      rw [hk, if_pos (by simp; omega), List.nil_append]
      exact led_l0 hP K root hM m _ _ _ (h.meet hP hx) (by rw [List.length_append]; omega) (by rw [List.length_append]; omega) (by rw [List.length_append]; omega)
theorem wt_le {ns : List Node} {p : Nat} (hp : p < ns.length) : wt ns p ≤ rows ns := by
  have := left_cons (ns := ns) (vs := []) (x := p) hp (by simp)
  rw [left_nil] at this
  omega
theorem led_f {ns : List Node} (hP : Places ns) (root : Int) (hM : rows ns ≤ 1000000) (p : Nat) (hp : p < ns.length) (k : Nat) (hk : 2 * rows ns < k) :
    ∃ r, dioramaref09_Led.f k (ns.map toS) root (p : Int) = some r ∧ Tells ns (kids ns (p : Int)) r := by
  unfold dioramaref09_Led.f
  have hlr := len_rows ns
  have hl : (((ns.map toS).length : Nat) : Int) = (ns.length : Int) := by rw [List.length_map]
  have hwt : wt ns p = (kids ns (p : Int)).length + 1 := rfl
  have hle := wt_le hp
  rw [hl, if_pos (by omega), if_pos (by rw [Int.toNat_natCast]; omega), Option.bind_some, if_pos (by omega), if_pos (by omega), kids_to, if_pos (by simp; omega), List.nil_append, Int.toNat_natCast]
  refine led_l0 hP (kids ns (p : Int)) root hM k _ [] _ ⟨by simp, fun i hi => ?_, by simp, fun x hx => hP p hp x hx, by simp, fun x hx => .base hx, fun k hk => .inr hk, by simp⟩ ?_ (by omega) ?_
  · unfold rdOf
    rw [Int.toNat_natCast, List.getD_eq_getElem?_getD, List.getElem?_replicate, if_pos hi]
    simp
  · rw [left_nil]; omega
  · rw [left_nil]; omega
theorem rch_root {ns : List Node} {r x : Int} : Rch ns [r] x ↔ x = r ∨ Rch ns (kids ns r) x := by
  refine ⟨fun h => ?_, fun h => ?_⟩
  · induction h with
    | base hk => exact .inl (List.mem_singleton.1 hk)
    | step _ hk ih =>
      rcases ih with rfl | ih
      · exact .inr (.base hk)
      · exact .inr (.step ih hk)
  · rcases h with rfl | h
    · exact .base (by simp)
    · exact h.under
theorem chk_l1 (s : Scene) (led : List Bool) (hn : s.nodes.length ≤ 1000000) (hT : Tells s.nodes (kids s.nodes s.root) led) : ∀ (m i K : Nat), s.nodes.length ≤ i + m → i ≤ s.nodes.length → (∀ j : Nat, j < i → Rch s.nodes [s.root] (j : Int)) →
    dioramaref09_Check.l1 (K + 1 + m) led (i : Int) (s.nodes.map toS) s.root = some (if 0 ≤ looseAt s then (15, looseAt s) else (0, 0))
  | 0, i, K, h1, h2, h3 => by
    rw [show K + 1 + 0 = K + 1 by omega, dioramaref09_Check.l1, if_neg (by rw [List.length_map]; omega)]
    have : looseAt s = -1 := firstP_no _ 0 (fun j hj h => h (by rw [Nat.zero_add]; exact h3 j (by omega)))
    rw [this]; rfl
  | m + 1, i, K, h1, h2, h3 => by
    by_cases hi : i < s.nodes.length
    · rw [show K + 1 + (m + 1) = (K + 1 + m) + 1 by omega, dioramaref09_Check.l1, if_pos (by rw [List.length_map]; omega), wrap64_in ((i : Int) + 1) (by omega), show (i : Int) + 1 = ((i + 1 : Nat) : Int) from rfl]
      have next : Rch s.nodes [s.root] (i : Int) → dioramaref09_Check.l1 (K + 1 + m) led ((i + 1 : Nat) : Int) (s.nodes.map toS) s.root = some (if 0 ≤ looseAt s then (15, looseAt s) else (0, 0)) := fun hr =>
        chk_l1 s led hn hT m (i + 1) K (by omega) (by omega) (ext_lt (P := fun j : Nat => Rch s.nodes [s.root] (j : Int)) h3 hr)
      by_cases hr : (i : Int) = s.root
      · rw [if_pos hr]
        exact next (rch_root.2 (.inl hr))
      · rw [if_neg hr, if_pos (Int.natCast_nonneg i), if_pos (by rw [hT.1]; omega)]
        have ht := hT.2 i hi
        by_cases hl : rdOf false led (i : Int) = true
        · rw [if_pos hl]
          exact next (rch_root.2 (.inr (ht.1 hl)))
        · rw [if_neg hl]
          have : looseAt s = (i : Int) := by
            have := firstP_at (p := fun i => ¬ Rch s.nodes [s.root] (i : Int)) s.nodes.length 0 i hi (fun j hj h => h (by rw [Nat.zero_add]; exact h3 j hj)) (by rw [Nat.zero_add]; exact fun h => hl (ht.2 ((rch_root.1 h).resolve_left hr)))
            rw [Nat.zero_add] at this
            exact this
          rw [this, if_pos (Int.natCast_nonneg i)]
    · have := chk_l1 s led hn hT m i (K + 1) (by omega) h2 h3
      rw [show K + 1 + 1 + m = K + 1 + (m + 1) by omega] at this
      exact this
theorem chk_l0 (s : Scene) (hM : rows s.nodes ≤ 1000000) (hP : Places s.nodes) (h0 : 0 ≤ s.root) (h1 : s.root < s.nodes.length) : ∀ (m i K : Nat), s.nodes.length ≤ i + m → i ≤ s.nodes.length → (∀ j : Nat, j < i → ¬ Cyc s.nodes (j : Int)) →
    dioramaref09_Check.l0 (K + 2 * rows s.nodes + s.nodes.length + 3 + m) (i : Int) (s.nodes.map toS) s.root = some (if 0 ≤ cycAt s.nodes then (14, cycAt s.nodes) else if 0 ≤ looseAt s then (15, looseAt s) else (0, 0))
  | 0, i, K, k1, k2, k3 => by
    have hlr := len_rows s.nodes
    rw [show K + 2 * rows s.nodes + s.nodes.length + 3 + 0 = (K + 2 * rows s.nodes + s.nodes.length + 2) + 1 by omega, dioramaref09_Check.l0, if_neg (by rw [List.length_map]; omega)]
    obtain ⟨q, hq⟩ : ∃ q : Nat, s.root = (q : Int) := ⟨s.root.toNat, by omega⟩
    obtain ⟨r, hr, hT⟩ := led_f hP s.root hM q (by omega) (K + 2 * rows s.nodes + s.nodes.length + 2) (by omega)
    rw [← hq] at hr hT
    rw [hr, Option.bind_some]
    have hc : cycAt s.nodes = -1 := firstP_no _ 0 (fun j hj h => k3 j (by omega) (by rwa [Nat.zero_add] at h))
    rw [hc, if_neg (by decide)]
    have := chk_l1 s r (by omega) hT s.nodes.length 0 (K + 2 * rows s.nodes + 1) (by omega) (by omega) (fun j hj => by omega)
    rw [show K + 2 * rows s.nodes + 1 + 1 + s.nodes.length = K + 2 * rows s.nodes + s.nodes.length + 2 by omega] at this
    exact this
  | m + 1, i, K, k1, k2, k3 => by
    by_cases hi : i < s.nodes.length
    · have hlr := len_rows s.nodes
      rw [show K + 2 * rows s.nodes + s.nodes.length + 3 + (m + 1) = (K + 2 * rows s.nodes + s.nodes.length + 3 + m) + 1 by omega, dioramaref09_Check.l0, if_pos (by rw [List.length_map]; omega)]
      obtain ⟨r, hr, hT⟩ := led_f hP s.root hM i hi (K + 2 * rows s.nodes + s.nodes.length + 3 + m) (by omega)
      rw [hr, Option.bind_some, if_pos (Int.natCast_nonneg i), if_pos (by rw [hT.1]; omega), wrap64_in ((i : Int) + 1) (by omega), show (i : Int) + 1 = ((i + 1 : Nat) : Int) from rfl]
      have ht := hT.2 i hi
      by_cases hl : rdOf false r (i : Int) = true
      · rw [if_pos hl]
        have : cycAt s.nodes = (i : Int) := by
          have := firstP_at (p := fun i => Cyc s.nodes (i : Int)) s.nodes.length 0 i hi (fun j hj h => k3 j hj (by rwa [Nat.zero_add] at h)) (by rw [Nat.zero_add]; exact ht.1 hl)
          rw [Nat.zero_add] at this
          exact this
        rw [this, if_pos (Int.natCast_nonneg i)]
      · rw [if_neg hl]
        exact chk_l0 s hM hP h0 h1 m (i + 1) K (by omega) (by omega) (ext_lt (P := fun j : Nat => ¬ Cyc s.nodes (j : Int)) k3 (fun h => hl (ht.2 h)))
    · have := chk_l0 s hM hP h0 h1 m i (K + 1) (by omega) k2 k3
      rw [show K + 1 + 2 * rows s.nodes + s.nodes.length + 3 + m = K + 2 * rows s.nodes + s.nodes.length + 3 + (m + 1) by omega] at this
      exact this
theorem chk_f (s : Scene) (hM : rows s.nodes ≤ 1000000) : dioramaref09_Check.f (2 * rows s.nodes + 2 * s.nodes.length + 3) (s.nodes.map toS) s.root = some (gcheck s) := by
  unfold dioramaref09_Check.f dioramaref09_Place.f dioramaref09_Refs.f
  rw [Option.bind_some, List.length_map, Option.bind_some, map_of_to]
  by_cases h0 : s.root < 0 ∨ (s.nodes.length : Int) ≤ s.root
  · have : isPl s.nodes.length s.root = false := by unfold isPl; exact decide_eq_false (by omega)
    rw [this, if_neg (by decide), gcheck_root h0]
  · have : isPl s.nodes.length s.root = true := by unfold isPl; exact decide_eq_true (by omega)
    rw [this, if_pos rfl]
    by_cases h : 0 ≤ refsAt s.nodes
    · rw [if_pos h, gcheck_refs h0 h]
    · rw [if_neg h]
      have hP : Places s.nodes := Places.of_refs ((refsAt_lt _).resolve_right h)
      have := chk_l0 s hM hP (by omega) (by omega) s.nodes.length 0 0 (by omega) (by omega) (fun j hj => by omega)
      rw [show 0 + 2 * rows s.nodes + s.nodes.length + 3 + s.nodes.length = 2 * rows s.nodes + 2 * s.nodes.length + 3 by omega] at this
      refine this.trans ?_
      unfold gcheck
      rw [if_neg h0, if_neg h]
theorem rchk_any (A : Option Addr) (c : Nat) (s : Scene) (w : World) (h : kNode.C w A s.nodes.length s.nodes) (hc : s.nodes.length ≤ c) (hM : rows s.nodes ≤ 1000000) :
    Calls Tryd.prog 22 #[.agg #[.slice A s.nodes.length c, .int .i64 s.root]] w fun e w' => e = .returned (.tuple #[.int .i64 (gcheck s).1, .int .i64 (gcheck s).2]) ∧ Below w.heap.size w w' := by
  have hl : (s.nodes.map toS).length = s.nodes.length := List.length_map ..
  have := dioramaref09_Check.calls (2 * rows s.nodes + 2 * s.nodes.length + 3) A c (s.nodes.map toS) s.root (gcheck s).1 (gcheck s).2 w (by rw [hl]; exact C_to h) (by rw [hl]; exact hc) (chk_f s hM)
  rw [hl] at this
  exact this
end Go.Proofs.YtglfebpgdghlfaaDoor.L
end
section
namespace Go.Proofs.YtglfebpgdghlfaaDoor.L
open Go.RowKit Go.ChangeShapes Go.WideShapes Go.Proofs.YtglfebpgdghlfaaDoorW.PrintWords Go.Proofs.YtglfebpgdghlfaaDoorW.PrintLast Go.Proofs.YtglfebpgdghlfaaDoorW.PrintMore
attribute [local go_sem] max2_int min2_int max_two min_two max_three min_three max_four min_four
open Go.Proofs.YtglfebpgdghlfaaDoor.PUpgradeUps
structure Iso (ns ms : List Node) (f : Int → Int) : Prop where
  len : ns.length = ms.length
  pl : ∀ x, Pl ms x → Pl ns (f x)
  inj : ∀ x y, Pl ms x → Pl ms y → f x = f y → x = y
  nd : ∀ x, Pl ms x → nd ns (f x).toNat = ⟨(nd ms x.toNat).kind, (nd ms x.toNat).ints, (nd ms x.toNat).texts, (kids ms x).map f⟩
theorem Iso.kids {ns ms : List Node} {f : Int → Int} (h : Iso ns ms f) {x : Int} (hx : Pl ms x) : L.kids ns (f x) = (L.kids ms x).map f := by
  show (L.nd ns (f x).toNat).kids = _
  rw [h.nd x hx]
theorem Iso.mem {ns ms : List Node} {f : Int → Int} (h : Iso ns ms f) {x : Int} (hx : Pl ms x) {l : List Int} (hl : ∀ y ∈ l, Pl ms y) : f x ∈ l.map f ↔ x ∈ l := by
  refine ⟨fun hm => ?_, fun hm => List.mem_map_of_mem hm⟩
  obtain ⟨y, hy, e⟩ := List.mem_map.1 hm
  rw [h.inj x y hx (hl y hy) e.symm]; exact hy
theorem kids_pl {ms : List Node} (hP : Places ms) {x : Int} (hx : Pl ms x) : ∀ k ∈ kids ms x, Pl ms k := fun k hk => hP x.toNat (by have := hx.1; have := hx.2; omega) k hk
theorem Iso.meet {ns ms : List Node} {f : Int → Int} (h : Iso ns ms f) (hP : Places ms) : ∀ (m : Nat) (a : Int) (met : List Int), Pl ms a → (∀ x ∈ met, Pl ms x) →
    L.meet ns m (f a) (met.map f) = (L.meet ms m a met).map f ∧ ∀ x ∈ L.meet ms m a met, Pl ms x
  | 0, a, met, _, hm => ⟨rfl, hm⟩
  | m + 1, a, met, ha, hm => by
    unfold L.meet
    by_cases hin : a ∈ met
    · rw [if_pos hin, if_pos ((h.mem ha hm).2 hin)]
      exact ⟨rfl, hm⟩
    · rw [if_neg hin, if_neg (fun e => hin ((h.mem ha hm).1 e)), h.kids ha, List.foldl_map]
      have key : ∀ (l met : List Int), (∀ k ∈ l, Pl ms k) → (∀ x ∈ met, Pl ms x) →
          l.foldl (fun v k => L.meet ns m (f k) v) (met.map f) = (l.foldl (fun v k => L.meet ms m k v) met).map f ∧ ∀ x ∈ l.foldl (fun v k => L.meet ms m k v) met, Pl ms x := by
        intro l
        induction l with
        | nil => intro met _ hm; exact ⟨rfl, hm⟩
        | cons k l ih =>
          intro met hl hm
          obtain ⟨e1, e2⟩ := Iso.meet h hP m k met (hl k (by simp)) hm
          rw [List.foldl_cons, List.foldl_cons, e1]
          exact ih _ (fun y hy => hl y (by simp [hy])) e2
      obtain ⟨e1, e2⟩ := key (L.kids ms a) met (kids_pl hP ha) hm
      refine ⟨?_, fun x hx => ?_⟩
      · rw [List.map_append, ← e1]; rfl
      · rcases List.mem_append.1 hx with hx | hx
        · exact e2 x hx
        · rw [List.mem_singleton.1 hx]; exact ha
theorem Iso.rch {ns ms : List Node} {f : Int → Int} (h : Iso ns ms f) (hP : Places ms) {l : List Int} (hl : ∀ k ∈ l, Pl ms k) {x : Int} (hr : Rch ms l x) : Rch ns (l.map f) (f x) ∧ Pl ms x := by
  induction hr with
  | base hk => exact ⟨.base (List.mem_map_of_mem hk), hl _ hk⟩
  | step _ hk ih => exact ⟨.step ih.1 (by rw [h.kids ih.2]; exact List.mem_map_of_mem hk), kids_pl hP ih.2 _ hk⟩
theorem Iso.dag {ns ms : List Node} {f : Int → Int} (h : Iso ns ms f) (hP : Places ms) (hc : ∀ p : Nat, p < ns.length → ¬ Cyc ns p) : Dag ms := by
  refine ⟨hP, fun p hp hcy => ?_⟩
  have hx : Pl ms (p : Int) := ⟨by omega, by omega⟩
  have h1 := (h.rch hP (kids_pl hP hx) hcy).1
  rw [← h.kids hx] at h1
  have hpl := h.pl _ hx
  obtain ⟨q, hq⟩ : ∃ q : Nat, f (p : Int) = (q : Int) := ⟨(f p).toNat, by have := hpl.1; omega⟩
  rw [hq] at h1 hpl
  exact hc q (by have := hpl.2; omega) h1
theorem idxOf_map {f : Int → Int} {P : Int → Prop} (hf : ∀ x y, P x → P y → f x = f y → x = y) {k : Int} (hk : P k) : ∀ l : List Int, (∀ y ∈ l, P y) → (l.map f).idxOf (f k) = l.idxOf k
  | [], _ => rfl
  | y :: l, h => by
    rw [List.map_cons, List.idxOf_cons, List.idxOf_cons, idxOf_map hf hk l (fun z hz => h z (by simp [hz]))]
    by_cases e : y = k
    · rw [e]; simp
    · have : ¬ f y = f k := fun e' => e (hf y k (h y (by simp)) hk e')
      rw [beq_eq_false_iff_ne.2 e, beq_eq_false_iff_ne.2 this]
theorem Iso.ord {s t : Scene} {f : Int → Int} (h : Iso s.nodes t.nodes f) (hP : Places t.nodes) (hr : Pl t.nodes t.root) (he : s.root = f t.root) : L.ord s = (L.ord t).map f ∧ ∀ x ∈ L.ord t, Pl t.nodes x := by
  unfold L.ord M
  rw [he, h.len]
  exact h.meet hP _ _ [] hr (fun x hx => by simp at hx)
theorem Iso.canonL {s t : Scene} {f : Int → Int} (h : Iso s.nodes t.nodes f) (hP : Places t.nodes) (hr : Pl t.nodes t.root) (he : s.root = f t.root) : L.canonL s = L.canonL t := by
  obtain ⟨ho, hop⟩ := h.ord hP hr he
  unfold L.canonL
  rw [ho, List.map_map]
  refine List.map_congr_left (fun a ha => ?_)
  have hap := hop a ha
  show relab s (L.nd s.nodes (f a).toNat) = relab t (L.nd t.nodes a.toNat)
  unfold relab
  rw [h.nd a hap]
  show Node.mk _ _ _ _ = Node.mk _ _ _ _
  congr 1
  rw [List.map_map]
  refine List.map_congr_left (fun k hk => ?_)
  show ((idx s (f k) : Nat) : Int) = (idx t k : Int)
  unfold idx
  rw [ho, idxOf_map (P := Pl t.nodes) h.inj (kids_pl hP hap k hk) _ hop]
theorem Shut.len {ns : List Node} {m : List Int} (h : Shut ns m) : m.length ≤ ns.length := nodup_len h.nd h.pl
theorem ord_met' {s : Scene} (hd : Dag s.nodes) (hr : Pl s.nodes s.root) : Met s.nodes s.root [] (ord s) := M_met hd _ _ _ (Nat.lt_succ_self _) hr (Shut.nil _) (fun x hx => by simp at hx)
end Go.Proofs.YtglfebpgdghlfaaDoor.L
end
section
namespace Go.Proofs.YtglfebpgdghlfaaDoor.L
open Go.RowKit Go.ChangeShapes Go.WideShapes Go.Proofs.YtglfebpgdghlfaaDoorW.PrintWords Go.Proofs.YtglfebpgdghlfaaDoorW.PrintLast Go.Proofs.YtglfebpgdghlfaaDoorW.PrintMore
attribute [local go_sem] max2_int min2_int max_two min_two max_three min_three max_four min_four
open Go.Proofs.YtglfebpgdghlfaaDoor.PUpgradeUps
def isTr (n : Node) : Bool := decide (n.kind = 2)
def lows (ns : List Node) (n : Nat) : List Nat := (List.range n).filter (fun p => isTr (nd ns p))
def cnt (ns : List Node) (n : Nat) : Nat := (lows ns n).length
theorem lows_succ (ns : List Node) (n : Nat) : lows ns (n + 1) = if isTr (nd ns n) then lows ns n ++ [n] else lows ns n := by
 unfold lows
 rw [List.range_succ, List.filter_append]
 by_cases h : isTr (nd ns n) = true
 ·rw [if_pos h]; simp [h]
 ·rw [if_neg h]; simp [h]
theorem cnt_succ (ns : List Node) (n : Nat) : cnt ns (n + 1) = cnt ns n + if isTr (nd ns n) then 1 else 0 := by
 unfold cnt
 rw [lows_succ]
 split <;> simp
theorem pos_cnt (ns : List Node) (n : Nat) : pos ns n = n + cnt ns n := by
 induction n with
 | zero => rfl
 | succ n ih =>
  rw [pos_succ, cnt_succ, ih]
  unfold upLen isTr
  by_cases h : (nd ns n).kind = 2
  ·rw [if_pos h, decide_eq_true h]; simp; omega
  ·rw [if_neg h, decide_eq_false h]; simp; omega
theorem lows_at (ns : List Node) : ∀ (n p : Nat), p < n → isTr (nd ns p) = true → (lows ns n)[cnt ns p]? = some p
 | 0, _, h, _ => by omega
 | n + 1, p, h, ht => by
  by_cases e : p = n
  ·subst e
   rw [lows_succ, if_pos ht, show cnt ns p = (lows ns p).length from rfl, List.getElem?_append_right (Nat.le_refl _), Nat.sub_self]; rfl
  ·have ih := lows_at ns n p (by omega) ht
   have hl : cnt ns p < (lows ns n).length := (List.getElem?_eq_some_iff.1 ih).1
   rw [lows_succ]
   split
   ·rw [List.getElem?_append_left hl]; exact ih
   ·exact ih
theorem lows_inv (ns : List Node) : ∀ (n c : Nat), c < (lows ns n).length → ∃ p, p < n ∧ isTr (nd ns p) = true ∧ cnt ns p = c ∧ (lows ns n)[c]? = some p
 | 0, c, h => by simp [lows] at h
 | n + 1, c, h => by
  by_cases hc : c < (lows ns n).length
  ·obtain ⟨p, h1, h2, h3, h4⟩ := lows_inv ns n c hc
   refine ⟨p, by omega, h2, h3, ?_⟩
   rw [lows_succ]
   split
   ·rw [List.getElem?_append_left hc]; exact h4
   ·exact h4
  ·rw [lows_succ] at h ⊢
   by_cases ht : isTr (nd ns n) = true
   ·rw [if_pos ht] at h ⊢
    rw [List.length_append] at h
    have hcn : c = (lows ns n).length := by simp at h; omega
    exact ⟨n, by omega, ht, hcn.symm, by rw [hcn, List.getElem?_append_right (Nat.le_refl _), Nat.sub_self]; rfl⟩
   ·rw [if_neg ht] at h
    exact absurd h hc
theorem tr_len {n : Node} (h : isTr n = true) : upLen n = 2 := by unfold upLen; rw [if_pos (of_decide_eq_true h)]
theorem tr_not {n : Node} (h : ¬ isTr n = true) : upLen n = 1 := by unfold upLen; rw [if_neg (fun e => h (decide_eq_true e))]
theorem pos_inj (ns : List Node) {p j q k : Nat} (hj : j < upLen (nd ns p)) (hk : k < upLen (nd ns q)) (h : pos ns p + j = pos ns q + k) : p = q ∧ j = k := by
 have h1 := pos_succ ns p
 have h2 := pos_succ ns q
 by_cases hlt : p < q
 ·have := pos_mono ns (show p + 1 ≤ q from hlt); omega
 ·by_cases hgt : q < p
  ·have := pos_mono ns (show q + 1 ≤ p from hgt); omega
  ·obtain rfl : p = q := by omega
   exact ⟨rfl, by omega⟩
theorem pos_find (ns : List Node) : ∀ (n x : Nat), x < pos ns n → ∃ p j, p < n ∧ j < upLen (nd ns p) ∧ x = pos ns p + j
 | 0, x, h => by simp [pos] at h
 | n + 1, x, h => by
  by_cases hx : x < pos ns n
  ·obtain ⟨p, j, h1, h2, h3⟩ := pos_find ns n x hx
   exact ⟨p, j, by omega, h2, h3⟩
  ·rw [pos_succ] at h
   exact ⟨n, x - pos ns n, by omega, by omega, by omega⟩
theorem nd_mix (ns : List Node) (m : Nat) : ∀ (n p j : Nat), p < n → n ≤ m → j < upLen (nd ns p) → nd (mix ns n m) (pos ns p + j) = nd (upK (nd ns p) ((pos ns p : Int) + 1) (mapK ns (nd ns p).kids)) j
 | 0, _, _, h, _, _ => by omega
 | n + 1, p, j, h, hm, hj => by
  rw [mix_succ]
  by_cases e : p = n
  ·subst e
   have hl := mix_len ns p m
   rw [if_pos (by omega), ← hl]
   rw [nd_append_right, hl]
  ·have hl := mix_len ns n m
   have h1 := pos_mono ns (show p + 1 ≤ n by omega)
   have h2 := pos_succ ns p
   rw [nd_append_left (by omega)]
   exact nd_mix ns m n p j (by omega) (by omega) hj
theorem upK_tr {n : Node} (h : isTr n = true) (b : Int) (q : List Int) : upK n b q = [⟨2, n.ints.take 3, [], [b]⟩, ⟨8, [rd n.ints 3, rd n.ints 3, rd n.ints 3], [], q⟩] := by
 have hk := of_decide_eq_true h
 unfold upK
 rw [if_neg (by omega), if_pos hk]
theorem upK_ntr {n : Node} (h : ¬ isTr n = true) (b b' : Int) (q q' : List Int) : nd (upK n b q') 0 = withKids (nd (upK n b' q) 0) q' ∧ (nd (upK n b' q) 0).kids = q := by
 have hk : ¬ n.kind = 2 := fun e => h (decide_eq_true e)
 unfold upK
 by_cases h1 : n.kind = 1
 ·rw [if_pos h1, if_pos h1]; exact ⟨rfl, rfl⟩
 ·rw [if_neg h1, if_neg h1, if_neg hk, if_neg hk]
  by_cases h3 : n.kind = 3
  ·rw [if_pos h3, if_pos h3]; exact ⟨rfl, rfl⟩
  ·rw [if_neg h3, if_neg h3]
   by_cases h4 : n.kind = 4
   ·rw [if_pos h4, if_pos h4]; exact ⟨rfl, rfl⟩
   ·rw [if_neg h4, if_neg h4]
    by_cases h5 : n.kind = 5
    ·rw [if_pos h5, if_pos h5]; exact ⟨rfl, rfl⟩
    ·rw [if_neg h5, if_neg h5]; exact ⟨rfl, rfl⟩
theorem kidsU (ns : List Node) {p j : Nat} (hp : p < ns.length) (hj : j < upLen (nd ns p)) :
  kids (mix ns ns.length ns.length) ((pos ns p + j : Nat) : Int) = if isTr (nd ns p) = true ∧ j = 0 then [((pos ns p + 1 : Nat) : Int)] else mapK ns (nd ns p).kids := by
 unfold kids
 rw [Int.toNat_natCast, nd_mix ns ns.length ns.length p j hp (Nat.le_refl _) hj]
 by_cases ht : isTr (nd ns p) = true
 ·rw [upK_tr ht]
  have := tr_len ht
  by_cases h0 : j = 0
  ·subst h0; rw [if_pos ⟨ht, rfl⟩]; rfl
  ·obtain rfl : j = 1 := by omega
   rw [if_neg (fun h => h0 h.2)]; rfl
 ·have := tr_not ht
  obtain rfl : j = 0 := by omega
  rw [if_neg (fun h => ht h.1)]
  exact (upK_ntr ht 0 _ (mapK ns (nd ns p).kids) []).2
theorem U_len (ns : List Node) : (mix ns ns.length ns.length).length = pos ns ns.length := mix_len ns _ _
theorem mem_mapK {ns : List Node} (hP : Places ns) {p : Nat} (hp : p < ns.length) {x : Int} (hx : x ∈ mapK ns (nd ns p).kids) : ∃ k : Nat, k < ns.length ∧ (k : Int) ∈ kids ns (p : Int) ∧ x = ((pos ns k + 0 : Nat) : Int) := by
 obtain ⟨k, hk, rfl⟩ := List.mem_map.1 hx
 have := hP p hp k hk
 exact ⟨k.toNat, by omega, by show ((k.toNat : Nat) : Int) ∈ (nd ns (p : Int).toNat).kids; rw [Int.toNat_natCast, Int.toNat_of_nonneg this.1]; exact hk, rfl⟩
theorem up_pos_lt (ns : List Node) {p j : Nat} (hp : p < ns.length) (hj : j < upLen (nd ns p)) : pos ns p + j < pos ns ns.length := by
 have h1 := pos_succ ns p
 have h2 := pos_mono ns (show p + 1 ≤ ns.length from hp)
 omega
theorem U_rch {ns : List Node} (hP : Places ns) {p j : Nat} (hp : p < ns.length) (hj : j < upLen (nd ns p)) {x : Int} (hr : Rch (mix ns ns.length ns.length) (kids (mix ns ns.length ns.length) ((pos ns p + j : Nat) : Int)) x) :
  ∃ q k, q < ns.length ∧ k < upLen (nd ns q) ∧ x = ((pos ns q + k : Nat) : Int) ∧ (Rch ns (kids ns (p : Int)) (q : Int) ∨ (q = p ∧ j < k)) := by
 induction hr with
 | base hk =>
  rw [kidsU ns hp hj] at hk
  by_cases hc : isTr (nd ns p) = true ∧ j = 0
  ·rw [if_pos hc] at hk
   have := tr_len hc.1
   exact ⟨p, 1, hp, by omega, List.mem_singleton.1 hk, .inr ⟨rfl, by omega⟩⟩
  ·rw [if_neg hc] at hk
   obtain ⟨k, h1, h2, h3⟩ := mem_mapK hP hp hk
   exact ⟨k, 0, h1, upLen_pos _, h3, .inl (.base h2)⟩
 | step _ hk ih =>
  obtain ⟨q, k, hq, hkl, rfl, ho⟩ := ih
  rw [kidsU ns hq hkl] at hk
  by_cases hc : isTr (nd ns q) = true ∧ k = 0
  ·rw [if_pos hc] at hk
   have := tr_len hc.1
   refine ⟨q, 1, hq, by omega, List.mem_singleton.1 hk, ?_⟩
   rcases ho with ho | ⟨_, ho⟩
   ·exact .inl ho
   ·omega
  ·rw [if_neg hc] at hk
   obtain ⟨k', h1, h2, h3⟩ := mem_mapK hP hq hk
   refine ⟨k', 0, h1, upLen_pos _, h3, .inl ?_⟩
   rcases ho with ho | ⟨rfl, _⟩
   ·exact .step ho h2
   ·exact .base h2
theorem upS_right {s : Scene} (h : Right s) : Right (upS s) := by
 have hU : (upS s).nodes = mix s.nodes s.nodes.length s.nodes.length := rfl
 have hlen : (upS s).nodes.length = pos s.nodes s.nodes.length := U_len _
 have h0 := h.r0
 have h1 := h.r1
 obtain ⟨r, hr⟩ : ∃ r : Nat, s.root = (r : Int) := ⟨s.root.toNat, by omega⟩
 have hroot : (upS s).root = ((pos s.nodes r + 0 : Nat) : Int) := by
  show ((pos s.nodes s.root.toNat : Nat) : Int) = _
  rw [hr]; rfl
 have hup : ∀ q : Int, Rch s.nodes [s.root] q → ∃ p : Nat, q = (p : Int) ∧ p < s.nodes.length ∧ Rch (upS s).nodes [(upS s).root] ((pos s.nodes p + 0 : Nat) : Int) := fun q hq => by
  induction hq with
  | base hk =>
   rw [List.mem_singleton.1 hk]
   exact ⟨r, hr, by omega, by rw [hroot]; exact .base (by simp)⟩
  | step _ hk ih =>
   rename_i i k _
   obtain ⟨p, rfl, hp, hrc⟩ := ih
   have hkp := kids_pl h.pl ⟨by omega, by omega⟩ k hk
   obtain ⟨k', rfl⟩ : ∃ k' : Nat, k = (k' : Int) := ⟨k.toNat, by have := hkp.1; omega⟩
   have hm : ((pos s.nodes k' + 0 : Nat) : Int) ∈ mapK s.nodes (nd s.nodes p).kids := List.mem_map.2 ⟨(k' : Int), by have := hk; unfold kids at this; rwa [Int.toNat_natCast] at this, rfl⟩
   refine ⟨k', rfl, by have := hkp.2; omega, ?_⟩
   by_cases ht : isTr (nd s.nodes p) = true
   ·have h2 := tr_len ht
    have l1 : Rch (upS s).nodes [(upS s).root] ((pos s.nodes p + 1 : Nat) : Int) := .step hrc (by rw [hU, kidsU s.nodes hp (by omega), if_pos ⟨ht, rfl⟩]; simp)
    exact .step l1 (by rw [hU, kidsU s.nodes hp (by omega), if_neg (fun h => by have := h.2; omega)]; exact hm)
   ·exact .step hrc (by rw [hU, kidsU s.nodes hp (upLen_pos _), if_neg (fun h => ht h.1)]; exact hm)
 refine ⟨by rw [hroot]; omega, ?_, fun x hx k hk => ?_, fun x hx hc => ?_, fun x hx => ?_⟩
 ·rw [hroot, hlen]
  have := up_pos_lt s.nodes (p := r) (j := 0) (by omega) (upLen_pos _)
  omega
 ·rw [hlen] at hx ⊢
  obtain ⟨p, j, hp, hj, rfl⟩ := pos_find s.nodes _ x hx
  have hk' : k ∈ kids (mix s.nodes s.nodes.length s.nodes.length) ((pos s.nodes p + j : Nat) : Int) := by unfold kids; rw [Int.toNat_natCast]; exact hk
  obtain ⟨q, i, hq, hi, rfl, _⟩ := U_rch h.pl hp hj (.base hk')
  have := up_pos_lt s.nodes hq hi
  omega
 ·rw [hlen] at hx
  obtain ⟨p, j, hp, hj, rfl⟩ := pos_find s.nodes _ x hx
  obtain ⟨q, i, hq, hi, he, ho⟩ := U_rch h.pl hp hj hc
  obtain ⟨rfl, rfl⟩ := pos_inj s.nodes hj hi (by omega)
  rcases ho with ho | ⟨_, ho⟩
  ·exact h.cyc p hp ho
  ·omega
 ·rw [hlen] at hx
  obtain ⟨p, j, hp, hj, rfl⟩ := pos_find s.nodes _ x hx
  obtain ⟨q, hq, _, hrc⟩ := hup _ (h.all p hp)
  obtain rfl : q = p := by omega
  by_cases h0 : j = 0
  ·subst h0; exact hrc
  ·have ht : isTr (nd s.nodes q) = true := Classical.byContradiction fun hn => by have := tr_not hn; omega
   have := tr_len ht
   obtain rfl : j = 1 := by omega
   exact .step hrc (by rw [hU, kidsU s.nodes hp (by omega), if_pos ⟨ht, rfl⟩]; simp)
def hd0 (ns : List Node) (p : Nat) : Node := nd (upN (nd ns p)) 0
def lo1 (ns : List Node) (p : Nat) : Node := nd (upN (nd ns p)) 1
def r18 (ns : List Node) (i : Nat) : List Node :=
 (List.range ns.length).map (fun p => if p < i ∧ isTr (nd ns p) = true then withKids (hd0 ns p) [((ns.length + cnt ns p : Nat) : Int)] else hd0 ns p) ++ (lows ns i).map (lo1 ns)
def r18S (s : Scene) : Scene := ⟨r18 s.nodes s.nodes.length, s.root⟩
theorem r18_len (ns : List Node) (i : Nat) : (r18 ns i).length = ns.length + cnt ns i := by unfold r18 cnt; simp
theorem r18_hd (ns : List Node) (i : Nat) {p : Nat} (hp : p < ns.length) : nd (r18 ns i) p = if p < i ∧ isTr (nd ns p) = true then withKids (hd0 ns p) [((ns.length + cnt ns p : Nat) : Int)] else hd0 ns p := by
 unfold r18
 rw [nd_append_left (by simpa using hp)]
 unfold nd
 rw [List.getD_eq_getElem?_getD, List.getElem?_map, List.getElem?_range hp]
 rfl
theorem r18_lo (ns : List Node) (i : Nat) {c p : Nat} (h : (lows ns i)[c]? = some p) : nd (r18 ns i) (ns.length + c) = lo1 ns p := by
 unfold r18
 have : ((List.range ns.length).map (fun p => if p < i ∧ isTr (nd ns p) = true then withKids (hd0 ns p) [((ns.length + cnt ns p : Nat) : Int)] else hd0 ns p)).length = ns.length := by simp
 rw [show ns.length + c = ((List.range ns.length).map (fun p => if p < i ∧ isTr (nd ns p) = true then withKids (hd0 ns p) [((ns.length + cnt ns p : Nat) : Int)] else hd0 ns p)).length + c by rw [this], nd_append_right]
 unfold nd
 rw [List.getD_eq_getElem?_getD, List.getElem?_map, h]
 rfl
def phi (ns : List Node) (x : Int) : Int := if x < (ns.length : Int) then (pos ns x.toNat : Int) else ((pos ns ((lows ns ns.length).getD (x - ns.length).toNat 0) + 1 : Nat) : Int)
def rpos (ns : List Node) (p j : Nat) : Nat := if j = 0 then p else ns.length + cnt ns p
theorem r_find (ns : List Node) {x : Nat} (hx : x < ns.length + cnt ns ns.length) : ∃ p j, p < ns.length ∧ j < upLen (nd ns p) ∧ x = rpos ns p j := by
 by_cases h : x < ns.length
 ·exact ⟨x, 0, h, upLen_pos _, rfl⟩
 ·obtain ⟨p, h1, h2, h3, h4⟩ := lows_inv ns ns.length (x - ns.length) (by unfold cnt at hx; omega)
  have := tr_len h2
  exact ⟨p, 1, h1, by omega, by unfold rpos; rw [if_neg (by decide)]; omega⟩
theorem one_tr {ns : List Node} {p j : Nat} (hj : j < upLen (nd ns p)) (h0 : ¬ j = 0) : isTr (nd ns p) = true ∧ j = 1 := by
 have ht : isTr (nd ns p) = true := Classical.byContradiction fun hn => by have := tr_not hn; omega
 have := tr_len ht
 exact ⟨ht, by omega⟩
theorem phi_rpos (ns : List Node) {p j : Nat} (hp : p < ns.length) (hj : j < upLen (nd ns p)) : phi ns (rpos ns p j : Int) = ((pos ns p + j : Nat) : Int) := by
 unfold phi rpos
 by_cases h0 : j = 0
 ·subst h0
  rw [if_pos rfl, if_pos (by omega)]; rfl
 ·obtain ⟨ht, rfl⟩ := one_tr hj h0
  rw [if_neg h0, if_neg (by omega)]
  have e : ((ns.length + cnt ns p : Nat) : Int) - ns.length = (cnt ns p : Int) := by omega
  rw [e, Int.toNat_natCast, List.getD_eq_getElem?_getD, lows_at ns ns.length p hp ht]
  rfl
theorem cnt_lt (ns : List Node) {p n : Nat} (hp : p < n) (ht : isTr (nd ns p) = true) : cnt ns p < cnt ns n := (List.getElem?_eq_some_iff.1 (lows_at ns n p hp ht)).1
theorem nd_r18 (ns : List Node) {p j : Nat} (hp : p < ns.length) (hj : j < upLen (nd ns p)) :
  nd (r18 ns ns.length) (rpos ns p j) = if j = 0 then (if isTr (nd ns p) = true then withKids (hd0 ns p) [((ns.length + cnt ns p : Nat) : Int)] else hd0 ns p) else lo1 ns p := by
 unfold rpos
 by_cases h0 : j = 0
 ·rw [if_pos h0, if_pos h0, r18_hd ns _ hp]
  by_cases ht : isTr (nd ns p) = true
  ·rw [if_pos ⟨hp, ht⟩, if_pos ht]
  ·rw [if_neg (fun h => ht h.2), if_neg ht]
 ·obtain ⟨ht, rfl⟩ := one_tr hj h0
  rw [if_neg h0, if_neg h0, r18_lo ns _ (lows_at ns ns.length p hp ht)]
theorem r18_kids (ns : List Node) {p j : Nat} (hp : p < ns.length) (hj : j < upLen (nd ns p)) :
  kids (r18 ns ns.length) (rpos ns p j : Int) = if isTr (nd ns p) = true ∧ j = 0 then [((ns.length + cnt ns p : Nat) : Int)] else (nd ns p).kids := by
 unfold kids
 rw [Int.toNat_natCast, nd_r18 ns hp hj]
 by_cases h0 : j = 0
 ·rw [if_pos h0]
  by_cases ht : isTr (nd ns p) = true
  ·rw [if_pos ht, if_pos ⟨ht, h0⟩]; rfl
  ·rw [if_neg ht, if_neg (fun h => ht h.1)]
   unfold hd0
   rw [upN_eq]
   exact (upK_ntr ht 0 0 (nd ns p).kids []).2
 ·obtain ⟨ht, rfl⟩ := one_tr hj h0
  rw [if_neg h0, if_neg (fun h => h0 h.2)]
  unfold lo1
  rw [upN_eq, upK_tr ht]; rfl
theorem r18_places {ns : List Node} (hP : Places ns) : Places (r18 ns ns.length) := by
 intro x hx k hk
 rw [r18_len] at hx ⊢
 obtain ⟨p, j, hp, hj, rfl⟩ := r_find ns hx
 have hk' : k ∈ kids (r18 ns ns.length) (rpos ns p j : Int) := by unfold kids; rw [Int.toNat_natCast]; exact hk
 rw [r18_kids ns hp hj] at hk'
 by_cases hc : isTr (nd ns p) = true ∧ j = 0
 ·rw [if_pos hc] at hk'
  have := cnt_lt ns hp hc.1
  rw [List.mem_singleton.1 hk']
  omega
 ·rw [if_neg hc] at hk'
  have := hP p hp k hk'
  omega
theorem r18_iso {ns : List Node} (hP : Places ns) : Iso (mix ns ns.length ns.length) (r18 ns ns.length) (phi ns) := by
 have hl := r18_len ns ns.length
 have hul := U_len ns
 have hpc := pos_cnt ns ns.length
 have find : ∀ x, Pl (r18 ns ns.length) x → ∃ p j, p < ns.length ∧ j < upLen (nd ns p) ∧ x = (rpos ns p j : Int) := fun x hx => by
  obtain ⟨y, rfl⟩ : ∃ y : Nat, x = (y : Int) := ⟨x.toNat, by have := hx.1; omega⟩
  obtain ⟨p, j, h1, h2, h3⟩ := r_find ns (x := y) (by have := hx.2; omega)
  exact ⟨p, j, h1, h2, by rw [h3]⟩
 refine ⟨by omega, fun x hx => ?_, fun x y hx hy he => ?_, fun x hx => ?_⟩
 ·obtain ⟨p, j, hp, hj, rfl⟩ := find x hx
  rw [phi_rpos ns hp hj]
  have := up_pos_lt ns hp hj
  exact ⟨by omega, by omega⟩
 ·obtain ⟨p, j, hp, hj, rfl⟩ := find x hx
  obtain ⟨q, k, hq, hk, rfl⟩ := find y hy
  rw [phi_rpos ns hp hj, phi_rpos ns hq hk] at he
  obtain ⟨rfl, rfl⟩ := pos_inj ns hj hk (by omega)
  rfl
 ·obtain ⟨p, j, hp, hj, rfl⟩ := find x hx
  rw [phi_rpos ns hp hj, Int.toNat_natCast, Int.toNat_natCast, nd_mix ns ns.length ns.length p j hp (Nat.le_refl _) hj, nd_r18 ns hp hj, r18_kids ns hp hj]
  have hmk : mapK ns (nd ns p).kids = (nd ns p).kids.map (phi ns) := by
   unfold mapK
   refine List.map_congr_left (fun k hk => ?_)
   have := hP p hp k hk
   unfold phi
   rw [if_pos this.2]
  by_cases h0 : j = 0
  ·subst h0
   rw [if_pos rfl]
   by_cases ht : isTr (nd ns p) = true
   ·have h2 := tr_len ht
    rw [if_pos ht, if_pos ⟨ht, rfl⟩, upK_tr ht]
    unfold hd0
    rw [upN_eq, upK_tr ht, List.map_singleton]
    have := phi_rpos ns (j := 1) hp (by omega)
    unfold rpos at this
    rw [if_neg (by decide)] at this
    rw [this]
    rfl
   ·rw [if_neg ht, if_neg (fun h => ht h.1), (upK_ntr ht _ 0 (nd ns p).kids _).1, hmk]
    rfl
  ·obtain ⟨ht, rfl⟩ := one_tr hj h0
   rw [if_neg h0, if_neg (fun h => h0 h.2), upK_tr ht]
   unfold lo1
   rw [upN_eq, upK_tr ht, hmk]
   rfl
theorem r18_canon {s : Scene} (h : Right s) : canonL (upS s) = canonL (r18S s) ∧ Dag (r18S s).nodes ∧ Pl (r18S s).nodes (r18S s).root := by
 have hi := r18_iso h.pl
 have hP := r18_places h.pl
 have hr : Pl (r18S s).nodes (r18S s).root := ⟨h.r0, by
  show s.root < ((r18 s.nodes s.nodes.length).length : Int)
  rw [r18_len]
  have := h.r1
  omega⟩
 refine ⟨hi.canonL (s := upS s) (t := r18S s) hP hr ?_, hi.dag hP (upS_right h).cyc, hr⟩
 show ((pos s.nodes s.root.toNat : Nat) : Int) = phi s.nodes s.root
 unfold phi
 rw [if_pos h.r1]
end Go.Proofs.YtglfebpgdghlfaaDoor.L
end
section
namespace Go.Proofs.YtglfebpgdghlfaaDoor.L
open Go.RowKit Go.ChangeShapes Go.WideShapes Go.Proofs.YtglfebpgdghlfaaDoorW.PrintWords Go.Proofs.YtglfebpgdghlfaaDoorW.PrintLast Go.Proofs.YtglfebpgdghlfaaDoorW.PrintMore
attribute [local go_sem] max2_int min2_int max_two min_two max_three min_three max_four min_four
theorem findS_no (l : List Spec) (k : Int) (h : ∀ i : Nat, 1 ≤ i → i < l.length → k ≠ (i : Int)) : findS l k = none := by
  unfold findS
  rw [if_pos]
  rcases Int.lt_or_le k 1 with h1 | h1
  · exact .inl h1
  · refine .inr ?_
    rcases Int.lt_or_le k l.length with h2 | h2
    · exact absurd (Int.toNat_of_nonneg (show 0 ≤ k by omega)).symm (h k.toNat (by omega) (by omega))
    · exact h2
set_option maxRecDepth 100000 in
set_option maxHeartbeats 4000000 in
theorem rspec_1 (k : Int) (w : World) : Calls Tryd.prog 40 #[.int .i64 1, .int .i64 k] w (SpecPost (Past w.heap.size) (findS oldTab k) w) := by
  have HB := Aside0.mk (Below.refl w.heap.size w)
  have hu := Tryd.underlying66
  by_cases k1 : k = 1
  · subst k1
    have HE : Aside0 (findS oldTab 1 = some ⟨[], 0, 0, -1⟩) := ⟨rfl⟩
    go_enter Tryd.func40, Tryd.ntmps40
    go_wp2
    rw [HE.out]
    exact bodyPost_ret (v := .tuple #[.agg #[.slice none 0 0, .int .i64 0, .int .i64 0, .int .i64 (-1)], .bool true]) (by simp [results, Tryd.results40, go_sem]) rfl ⟨none, 0, rfl, ⟨Nat.le_refl _, C_nil _ _⟩, Past.none _, by repeat (first | with_reducible exact HB.out | with_reducible apply below_alloc | with_reducible apply pw_below_drewN | with_reducible apply below_drew1 | (with_reducible refine below_set ?_ (by first | omega | (simp; omega))))⟩
  by_cases k2 : k = 2
  · subst k2
    have HE : Aside0 (findS oldTab 2 = some ⟨[2, 2, 2, 2], 0, 1, 1⟩) := ⟨rfl⟩
    go_enter Tryd.func40, Tryd.ntmps40
    go_wp2
    rw [HE.out]
    exact bodyPost_ret (v := .tuple #[.agg #[.slice (some ⟨w.heap.size + 2, 0, none⟩) 4 4, .int .i64 0, .int .i64 1, .int .i64 (1)], .bool true]) (by simp [results, Tryd.results40, go_sem]) rfl ⟨(some ⟨w.heap.size + 2, 0, none⟩), 4, rfl, ⟨Nat.le_refl _, C_ints _ 3 _ (by simp) [2, 2, 2, 2] (by decide) rfl⟩, fun ad h => by cases h; simp, by repeat (first | with_reducible exact HB.out | with_reducible apply below_alloc | with_reducible apply pw_below_drewN | with_reducible apply below_drew1 | (with_reducible refine below_set ?_ (by first | omega | (simp; omega))))⟩
  by_cases k3 : k = 3
  · subst k3
    have HE : Aside0 (findS oldTab 3 = some ⟨[3], 1, 0, 0⟩) := ⟨rfl⟩
    go_enter Tryd.func40, Tryd.ntmps40
    go_wp2
    rw [HE.out]
    exact bodyPost_ret (v := .tuple #[.agg #[.slice (some ⟨w.heap.size + 2, 0, none⟩) 1 1, .int .i64 1, .int .i64 0, .int .i64 (0)], .bool true]) (by simp [results, Tryd.results40, go_sem]) rfl ⟨(some ⟨w.heap.size + 2, 0, none⟩), 1, rfl, ⟨Nat.le_refl _, C_ints _ 3 _ (by simp) [3] (by decide) rfl⟩, fun ad h => by cases h; simp, by repeat (first | with_reducible exact HB.out | with_reducible apply below_alloc | with_reducible apply pw_below_drewN | with_reducible apply below_drew1 | (with_reducible refine below_set ?_ (by first | omega | (simp; omega))))⟩
  by_cases k4 : k = 4
  · subst k4
    have HE : Aside0 (findS oldTab 4 = some ⟨[3], 1, 0, 0⟩) := ⟨rfl⟩
    go_enter Tryd.func40, Tryd.ntmps40
    go_wp2
    rw [HE.out]
    exact bodyPost_ret (v := .tuple #[.agg #[.slice (some ⟨w.heap.size + 2, 0, none⟩) 1 1, .int .i64 1, .int .i64 0, .int .i64 (0)], .bool true]) (by simp [results, Tryd.results40, go_sem]) rfl ⟨(some ⟨w.heap.size + 2, 0, none⟩), 1, rfl, ⟨Nat.le_refl _, C_ints _ 3 _ (by simp) [3] (by decide) rfl⟩, fun ad h => by cases h; simp, by repeat (first | with_reducible exact HB.out | with_reducible apply below_alloc | with_reducible apply pw_below_drewN | with_reducible apply below_drew1 | (with_reducible refine below_set ?_ (by first | omega | (simp; omega))))⟩
  by_cases k5 : k = 5
  · subst k5
    have HE : Aside0 (findS oldTab 5 = some ⟨[], 1, 0, 0⟩) := ⟨rfl⟩
    go_enter Tryd.func40, Tryd.ntmps40
    go_wp2
    rw [HE.out]
    exact bodyPost_ret (v := .tuple #[.agg #[.slice none 0 0, .int .i64 1, .int .i64 0, .int .i64 (0)], .bool true]) (by simp [results, Tryd.results40, go_sem]) rfl ⟨none, 0, rfl, ⟨Nat.le_refl _, C_nil _ _⟩, Past.none _, by repeat (first | with_reducible exact HB.out | with_reducible apply below_alloc | with_reducible apply pw_below_drewN | with_reducible apply below_drew1 | (with_reducible refine below_set ?_ (by first | omega | (simp; omega))))⟩
  by_cases k6 : k = 6
  · subst k6
    have HE : Aside0 (findS oldTab 6 = some ⟨[4], 0, 0, 0⟩) := ⟨rfl⟩
    go_enter Tryd.func40, Tryd.ntmps40
    go_wp2
    rw [HE.out]
    exact bodyPost_ret (v := .tuple #[.agg #[.slice (some ⟨w.heap.size + 2, 0, none⟩) 1 1, .int .i64 0, .int .i64 0, .int .i64 (0)], .bool true]) (by simp [results, Tryd.results40, go_sem]) rfl ⟨(some ⟨w.heap.size + 2, 0, none⟩), 1, rfl, ⟨Nat.le_refl _, C_ints _ 3 _ (by simp) [4] (by decide) rfl⟩, fun ad h => by cases h; simp, by repeat (first | with_reducible exact HB.out | with_reducible apply below_alloc | with_reducible apply pw_below_drewN | with_reducible apply below_drew1 | (with_reducible refine below_set ?_ (by first | omega | (simp; omega))))⟩
  have HE : Aside0 (findS oldTab k = none) := ⟨findS_no _ _ (fun i h1 h2 => by simp [oldTab] at h2; omega)⟩
  go_enter Tryd.func40, Tryd.ntmps40
  go_wp2
  rw [HE.out]
  exact bodyPost_ret (v := .tuple #[.agg #[.slice none 0 0, .int .i64 0, .int .i64 0, .int .i64 0], .bool false]) (by simp [results, Tryd.results40, go_sem]) rfl ⟨none, 0, rfl, ⟨Nat.le_refl _, C_nil _ _⟩, Past.none _, by repeat (first | with_reducible exact HB.out | with_reducible apply below_alloc | with_reducible apply pw_below_drewN | with_reducible apply below_drew1 | (with_reducible refine below_set ?_ (by first | omega | (simp; omega))))⟩
end Go.Proofs.YtglfebpgdghlfaaDoor.L
end
section
namespace Go.Proofs.YtglfebpgdghlfaaDoor.L
open Go.RowKit Go.ChangeShapes Go.WideShapes Go.Proofs.YtglfebpgdghlfaaDoorW.PrintWords Go.Proofs.YtglfebpgdghlfaaDoorW.PrintLast Go.Proofs.YtglfebpgdghlfaaDoorW.PrintMore
attribute [local go_sem] max2_int min2_int max_two min_two max_three min_three max_four min_four
theorem RowsPost.drew {l : List Node} {w W : World} {e : Ending} (h : RowsPost l w e W) : RowsPost l w e W.drew := by
  obtain ⟨g, c, he, hS, hB⟩ := h
  exact ⟨g, c, he, Kd.S_drew hS, below_drew hB⟩
end Go.Proofs.YtglfebpgdghlfaaDoor.L
end
section
namespace Go.Proofs.YtglfebpgdghlfaaDoor.L
open Go.RowKit Go.ChangeShapes Go.WideShapes Go.Proofs.YtglfebpgdghlfaaDoorW.PrintWords Go.Proofs.YtglfebpgdghlfaaDoorW.PrintLast Go.Proofs.YtglfebpgdghlfaaDoorW.PrintMore
attribute [local go_sem] max2_int min2_int max_two min_two max_three min_three max_four min_four
open Go.Proofs.YtglfebpgdghlfaaDoor.PUpgradeUps
theorem CnRel.kid {w1 : World} {root : Int} {xs : List Node} {g m c : Nat} {W : World} (h : CnRel w1 root xs (.slice (some ⟨g, 0, none⟩) m c) W) (i : Nat) (hi : i < m) {v : Value} {q : List Int} (hv : (Kd.int .i64).R 3 W w1.heap.size (fun _ => True) v q) :
    (∃ x, W.cell? ⟨g, i * 4 + 3, none⟩ = some x) ∧ W.frozen? ⟨g, i * 4 + 3, none⟩ = false ∧ CnRel w1 root (xs.set i (withKids (nd xs i) q)) (.slice (some ⟨g, 0, none⟩) m c) (W.setCell ⟨g, i * 4 + 3, none⟩ v) := by
  obtain ⟨cs, hcl, hM, hcc, hfr⟩ := R_elemN h.row nodez i hi
  obtain ⟨v1, v2, v3, rfl, h1, h2, h3⟩ := kNode_openM hM
  have hM' : kNode.M W w1.heap.size (fun k => True ∧ k ≠ g) (withKids (nd xs i) q) [.int .i64 (nd xs i).kind, v1, v2, v] :=
    kNode_mkM h1 h2 (Kd.R_mono (Kd.R_tight rfl hv) (fun k hk => ⟨trivial, fun e => R_apart hv h.row (by decide) k hk (by rw [e]; rfl)⟩))
  obtain ⟨hs, hg⟩ := R_segN h.row i hi (seg := [v]) (j := 3) hcl hcc (Nat.le_refl 4) (x' := withKids (nd xs i) q) (okp := fun k => True ∧ k ≠ g) hM' (fun k hk => hk)
  have e : W.setCells g (i * kNode.sz + 3) [v] = W.setCell ⟨g, i * 4 + 3, none⟩ v := rfl
  rw [e] at hs hg
  have hgw := Kd.R_base h.row g rfl
  refine ⟨⟨_, hcc 3 _ rfl⟩, hfr 3, below_set h.below hgw, blk_grown h.out hg (fun e => ?_), hs⟩
  exact (Kd.R_ne h.row h.out (by decide)) e
theorem S_elem {w : World} {base m c : Nat} {A : Option Addr} {xs : List Node} (h : Kd.S kNode 26 w base (fun _ => True) (.slice A m c) xs) (j : Nat) (hj : j < xs.length) :
    ∃ g A1 c1 A2 c2 A3 c3, A = some ⟨g, 0, none⟩ ∧ m = xs.length ∧ w.cell? ⟨g, j * 4, none⟩ = some (.int .i64 (nd xs j).kind) ∧ w.cell? ⟨g, j * 4 + 1, none⟩ = some (.slice A1 (nd xs j).ints.length c1) ∧ w.cell? ⟨g, j * 4 + 2, none⟩ = some (.slice A2 (nd xs j).texts.length c2) ∧ w.cell? ⟨g, j * 4 + 3, none⟩ = some (.slice A3 (nd xs j).kids.length c3) ∧
      (Kd.int .i64).R 2 w base (fun _ => True) (.slice A1 (nd xs j).ints.length c1) (nd xs j).ints ∧ Kd.string.R 9 w base (fun _ => True) (.slice A2 (nd xs j).texts.length c2) (nd xs j).texts ∧ (Kd.int .i64).R 3 w base (fun _ => True) (.slice A3 (nd xs j).kids.length c3) (nd xs j).kids := by
  have hR := Kd.S_R h
  have hm := (Kd.R_reads' hR).1
  obtain ⟨g, c', hv, -⟩ := Kd.R_form hR (by omega)
  injection hv with hA _ hc
  subst hA hc
  obtain ⟨cs, hcl, hM, hcc, hfr⟩ := R_elemN hR nodez j (by omega)
  obtain ⟨v1, v2, v3, rfl, h1, h2, h3⟩ := kNode_openM hM
  obtain ⟨A1, c1, rfl⟩ := Kd.R_slice h1
  obtain ⟨A2, c2, rfl⟩ := Kd.R_slice h2
  obtain ⟨A3, c3, rfl⟩ := Kd.R_slice h3
  exact ⟨g, A1, c1, A2, c2, A3, c3, rfl, hm, hcc 0 _ rfl, hcc 1 _ rfl, hcc 2 _ rfl, hcc 3 _ rfl, Kd.R_mono h1 (fun _ _ => trivial), Kd.R_mono h2 (fun _ _ => trivial), Kd.R_mono h3 (fun _ _ => trivial)⟩
theorem upN_len (n : Node) : (upN n).length = upLen n := by rw [upN_eq]; exact upK_len n 0 n.kids
end Go.Proofs.YtglfebpgdghlfaaDoor.L
end
section
namespace Go.Proofs.YtglfebpgdghlfaaDoor.L
open Go.RowKit Go.ChangeShapes Go.WideShapes Go.Proofs.YtglfebpgdghlfaaDoorW.PrintWords Go.Proofs.YtglfebpgdghlfaaDoorW.PrintLast Go.Proofs.YtglfebpgdghlfaaDoorW.PrintMore
attribute [local go_sem] max2_int min2_int max_two min_two max_three min_three max_four min_four
open Go.Proofs.YtglfebpgdghlfaaDoor.PUpgradeUps
def refRes (s : Scene) : Scene := ⟨canonL (r18S s), ((ord (r18S s)).length : Int) - 1⟩
end Go.Proofs.YtglfebpgdghlfaaDoor.L
end
section
namespace Go.Proofs.YtglfebpgdghlfaaDoor.L
open Go.RowKit Go.ChangeShapes Go.WideShapes Go.Proofs.YtglfebpgdghlfaaDoorW.PrintWords Go.Proofs.YtglfebpgdghlfaaDoorW.PrintLast Go.Proofs.YtglfebpgdghlfaaDoorW.PrintMore
attribute [local go_sem] max2_int min2_int max_two min_two max_three min_three max_four min_four
def aS : Scene := ⟨[⟨2, [1, 2, 3, 4], [], [1]⟩, ⟨6, [9], [], []⟩], 0⟩
def aT : Scene := ⟨[⟨7, [9, 9, 9, 1], [], []⟩, ⟨8, [4, 4, 4], [], [0]⟩, ⟨2, [1, 2, 3], [], [1]⟩], 2⟩
theorem aS_up : upS aS = ⟨[⟨2, [1, 2, 3], [], [1]⟩, ⟨8, [4, 4, 4], [], [2]⟩, ⟨7, [9, 9, 9, 1], [], []⟩], 0⟩ := by kernel_rfl
theorem aS_can : canonL (upS aS) = aT.nodes := by rw [aS_up]; kernel_rfl
theorem C_nums (T : TypeId) (W : World) (g : Nat) (hg : W.heap.size = g) (ps : List Int) (n : Nat) (hn : ps.length = n) (hm : ps.length ≤ 9223372036854775807) {cs : Array Value} (hcs : cs = (ps.flatMap fun x => [.int .i64 x]).toArray) : (Kd.int .i64).C (W.alloc (.cells cs T)) (some ⟨g, 0, none⟩) n ps := by
  subst hn
  exact (Kd.R_reads' (R_nums T W 0 g hg ps (by omega) hm hcs)).2.2
theorem K_node {W : World} (n : Node) {A1 A2 A3 : Option Addr} {l1 l2 l3 c1 c2 c3 : Nat} (e1 : l1 = n.ints.length) (e2 : l2 = n.texts.length) (e3 : l3 = n.kids.length) (h1 : n.ints.length ≤ c1) (h2 : n.texts.length ≤ c2) (h3 : n.kids.length ≤ c3)
    (hi : (Kd.int .i64).C W A1 n.ints.length n.ints) (ht : Kd.string.C W A2 n.texts.length n.texts) (hk : (Kd.int .i64).C W A3 n.kids.length n.kids) : kNode.K W n [.int .i64 n.kind, .slice A1 l1 c1, .slice A2 l2 c2, .slice A3 l3 c3] := by
  subst e1 e2 e3
  exact kNode_mk ⟨h1, h2, h3, hi, ht, hk⟩
def aW (w : World) : World := (((w.alloc (.cells #[.int .i64 1, .int .i64 2, .int .i64 3, .int .i64 4] 2)).alloc (.cells #[.int .i64 1] 3)).alloc (.cells #[.int .i64 9] 2))
theorem aS_C (w : World) : kNode.C ((aW w).alloc (.cells #[.int .i64 2, .slice (some ⟨w.heap.size, 0, none⟩) 4 4, .slice none 0 0, .slice (some ⟨w.heap.size + 1, 0, none⟩) 1 1, .int .i64 6, .slice (some ⟨w.heap.size + 1 + 1, 0, none⟩) 1 1, .slice none 0 0, .slice none 0 0] 26)) (some ⟨w.heap.size + 1 + 1 + 1, 0, none⟩) 2 aS.nodes := by
  refine C_lits kNode (aW w) 26 _ (by simp [aW]) aS.nodes [.int .i64 2, .slice (some ⟨w.heap.size, 0, none⟩) 4 4, .slice none 0 0, .slice (some ⟨w.heap.size + 1, 0, none⟩) 1 1, .int .i64 6, .slice (some ⟨w.heap.size + 1 + 1, 0, none⟩) 1 1, .slice none 0 0, .slice none 0 0] ?_ (by decide) rfl
  refine ⟨_, _, (show _ = [_, _, _, _] ++ [_, _, _, _] from rfl), K_node ⟨2, [1, 2, 3, 4], [], [1]⟩ rfl rfl rfl (by decide) (by decide) (by decide) ?_ (C_nil _ _) ?_, _, _, (show _ = [_, _, _, _] ++ [] from rfl), K_node ⟨6, [9], [], []⟩ rfl rfl rfl (by decide) (by decide) (by decide) ?_ (C_nil _ _) (C_nil _ _), rfl⟩
  · exact Kd.C_alloc (Kd.C_alloc (C_nums _ w _ rfl [1, 2, 3, 4] _ rfl (by decide) rfl) _) _
  · exact Kd.C_alloc (C_nums _ _ _ (by simp) [1] _ rfl (by decide) rfl) _
  · exact C_nums _ _ _ (by simp) [9] _ rfl (by decide) rfl
def bW (w : World) : World := (((((w.alloc (.cells #[.int .i64 9, .int .i64 9, .int .i64 9, .int .i64 1] 2)).alloc (.cells #[.int .i64 4, .int .i64 4, .int .i64 4] 2)).alloc (.cells #[.int .i64 0] 3)).alloc (.cells #[.int .i64 1, .int .i64 2, .int .i64 3] 2)).alloc (.cells #[.int .i64 1] 3))
theorem aT_C (w : World) (g : Nat) (hg : w.heap.size = g) : kNode.C ((bW w).alloc (.cells #[.int .i64 7, .slice (some ⟨g, 0, none⟩) 4 4, .slice none 0 0, .slice none 0 0, .int .i64 8, .slice (some ⟨g + 1, 0, none⟩) 3 3, .slice none 0 0, .slice (some ⟨g + 1 + 1, 0, none⟩) 1 1, .int .i64 2, .slice (some ⟨g + 1 + 1 + 1, 0, none⟩) 3 3, .slice none 0 0, .slice (some ⟨g + 1 + 1 + 1 + 1, 0, none⟩) 1 1] 26)) (some ⟨g + 1 + 1 + 1 + 1 + 1, 0, none⟩) 3 aT.nodes := by
  subst hg
  refine C_lits kNode (bW w) 26 _ (by simp [bW]) aT.nodes [.int .i64 7, .slice (some ⟨w.heap.size, 0, none⟩) 4 4, .slice none 0 0, .slice none 0 0, .int .i64 8, .slice (some ⟨w.heap.size + 1, 0, none⟩) 3 3, .slice none 0 0, .slice (some ⟨w.heap.size + 1 + 1, 0, none⟩) 1 1, .int .i64 2, .slice (some ⟨w.heap.size + 1 + 1 + 1, 0, none⟩) 3 3, .slice none 0 0, .slice (some ⟨w.heap.size + 1 + 1 + 1 + 1, 0, none⟩) 1 1] ?_ (by decide) rfl
  refine ⟨_, _, (show _ = [_, _, _, _] ++ [_, _, _, _, _, _, _, _] from rfl), K_node ⟨7, [9, 9, 9, 1], [], []⟩ rfl rfl rfl (by decide) (by decide) (by decide) ?_ (C_nil _ _) (C_nil _ _), _, _, (show _ = [_, _, _, _] ++ [_, _, _, _] from rfl), K_node ⟨8, [4, 4, 4], [], [0]⟩ rfl rfl rfl (by decide) (by decide) (by decide) ?_ (C_nil _ _) ?_,
    _, _, (show _ = [_, _, _, _] ++ [] from rfl), K_node ⟨2, [1, 2, 3], [], [1]⟩ rfl rfl rfl (by decide) (by decide) (by decide) ?_ (C_nil _ _) ?_, rfl⟩
  · exact Kd.C_alloc (Kd.C_alloc (Kd.C_alloc (Kd.C_alloc (C_nums _ w _ rfl [9, 9, 9, 1] _ rfl (by decide) rfl) _) _) _) _
  · exact Kd.C_alloc (Kd.C_alloc (Kd.C_alloc (C_nums _ _ _ (by simp) [4, 4, 4] _ rfl (by decide) rfl) _) _) _
  · exact Kd.C_alloc (Kd.C_alloc (C_nums _ _ _ (by simp) [0] _ rfl (by decide) rfl) _) _
  · exact Kd.C_alloc (C_nums _ _ _ (by simp) [1, 2, 3] _ rfl (by decide) rfl) _
  · exact C_nums _ _ _ (by simp) [1] _ rfl (by decide) rfl
theorem rise_rch {ns : List Node} (h : ∀ p : Nat, p < ns.length → ∀ k ∈ kids ns p, (p : Int) < k ∧ k < ns.length) {a : Nat} {l : List Int} (hl : ∀ k ∈ l, (a : Int) < k ∧ k < ns.length) {x : Int} (hr : Rch ns l x) : (a : Int) < x ∧ x < ns.length := by
  induction hr with
  | base hk => exact hl _ hk
  | step _ hk ih =>
    rename_i i k _
    obtain ⟨q, rfl⟩ : ∃ q : Nat, i = (q : Int) := ⟨i.toNat, by omega⟩
    have := h q (by omega) k hk
    omega
theorem rise_cyc {ns : List Node} (h : ∀ p : Nat, p < ns.length → ∀ k ∈ kids ns p, (p : Int) < k ∧ k < ns.length) (p : Nat) (hp : p < ns.length) : ¬ Cyc ns p := fun hc => by
  have := rise_rch h (h p hp) hc
  omega
theorem aS_right : Right aS := by
  have hk : ∀ p : Nat, p < aS.nodes.length → ∀ k ∈ kids aS.nodes p, (p : Int) < k ∧ k < aS.nodes.length := by decide
  refine ⟨by decide, by decide, fun p hp k hk' => ?_, rise_cyc hk, fun p hp => ?_⟩
  · have := hk p hp k hk'; omega
  · have h0 : Rch aS.nodes [aS.root] ((0 : Nat) : Int) := .base (by decide)
    match p, hp with
    | 0, _ => exact h0
    | 1, _ => exact .step h0 (by decide)
    | p + 2, h => exact absurd h (by show ¬ p + 2 < 2; omega)
theorem aU_right : Right (upS aS) := by
  rw [aS_up]
  have hk : ∀ p : Nat, p < 3 → ∀ k ∈ kids [⟨2, [1, 2, 3], [], [1]⟩, ⟨8, [4, 4, 4], [], [2]⟩, ⟨7, [9, 9, 9, 1], [], []⟩] p, (p : Int) < k ∧ k < 3 := by decide
  refine ⟨by decide, by decide, fun p hp k hk' => ?_, rise_cyc hk, fun p hp => ?_⟩
  · have := hk p hp k hk'; show 0 ≤ k ∧ k < 3; omega
  · have h0 : Rch [⟨2, [1, 2, 3], [], [1]⟩, ⟨8, [4, 4, 4], [], [2]⟩, ⟨7, [9, 9, 9, 1], [], []⟩] [0] ((0 : Nat) : Int) := .base (by decide)
    have h1 : Rch [⟨2, [1, 2, 3], [], [1]⟩, ⟨8, [4, 4, 4], [], [2]⟩, ⟨7, [9, 9, 9, 1], [], []⟩] [0] ((1 : Nat) : Int) := .step h0 (by decide)
    match p, hp with
    | 0, _ => exact h0
    | 1, _ => exact h1
    | 2, _ => exact .step h1 (by decide)
    | p + 3, h => exact absurd h (by show ¬ p + 3 < 3; omega)
theorem aS_typed : (typedS oldTab aS.nodes).1 = 0 := by kernel_rfl
theorem aS_err : upErr aS = 0 := by
  unfold upErr
  rw [if_pos aS_typed, if_pos (gcheck_right.2 aS_right)]
  exact gcheck_right.2 aU_right
theorem aS_res : upRes aS = aT := by
  unfold upRes canonR
  rw [if_pos aS_typed, if_pos (gcheck_right.2 aS_right), if_pos (gcheck_right.2 aU_right), aS_can]
  rw [aS_up]
  rfl
theorem a7_up : upR ⟨7, [], [], []⟩ = ([], 9) := by kernel_rfl
theorem aS_small : ∀ i : Nat, i < aS.nodes.length → Small (nd aS.nodes i) := fun i hi => by
  match i, hi with
  | 0, _ => exact ⟨by decide, by decide, by decide⟩
  | 1, _ => exact ⟨by decide, by decide, by decide⟩
  | i + 2, h => exact absurd h (by show ¬ i + 2 < 2; omega)
theorem aT_small : ∀ i : Nat, i < aT.nodes.length → Small (nd aT.nodes i) := fun i hi => by
  match i, hi with
  | 0, _ => exact ⟨by decide, by decide, by decide⟩
  | 1, _ => exact ⟨by decide, by decide, by decide⟩
  | 2, _ => exact ⟨by decide, by decide, by decide⟩
  | i + 3, h => exact absurd h (by show ¬ i + 3 < 3; omega)
theorem aS_texts : ∀ i : Nat, i < aS.nodes.length → TextsSmall (nd aS.nodes i) := fun i hi => by
  match i, hi with
  | 0, _ => exact fun j hj => absurd hj (by show ¬ j < 0; omega)
  | 1, _ => exact fun j hj => absurd hj (by show ¬ j < 0; omega)
  | i + 2, h => exact absurd h (by show ¬ i + 2 < 2; omega)
theorem aS_rows : rows aS.nodes ≤ 130000 := by decide
set_option maxRecDepth 100000 in
set_option maxHeartbeats 4000000 in
theorem awake_any (w : World) (hT : Tabs w) : Calls Tryd.prog 11 #[] w fun e w' => e = .returned (.bool true) ∧ Below w.heap.size w w' := by
  have HT := Aside0.mk hT
  have HS1 := Aside0.mk (aS_C w)
  have HBa : Aside0 (Below w.heap.size w (aW w)) := ⟨below_alloc (below_alloc (below_alloc (Below.refl _ _) _) _) _⟩
  have hua := Tryd.underlying39
  have hun := Tryd.underlying26
  clear hT
  go_enter Tryd.func11, Tryd.ntmps11
  go_wp2_with fail
  refine (up_any (some ⟨w.heap.size + 1 + 1 + 1, 0, none⟩) 2 aS _ (Kd.C_alloc HS1.out _) (HT.out.below (below_alloc (below_alloc HBa.out _) _)) aS_small aS_texts aS_rows).mono ?_
  rintro e w1 ⟨A1, c1, rfl, hR1, hB1⟩
  rw [aS_res] at hR1 ⊢
  rw [aS_err]
  have HB1 := Aside0.mk (below_step (below_alloc (below_alloc HBa.out _) _) hB1)
  have HC1 := Aside0.mk (Kd.R_reads' hR1).2.2
  have HX1 := Aside0.mk (show (w1.alloc (.cells #[.slice A1 3 c1, .int .i64 2] 39)).heap[w1.heap.size]? = some (.cells #[.slice A1 3 c1, .int .i64 2] 39 (0, 0)) from by simpa using heap_alloc_new w1 _)
  clear hR1 hB1
  have HS2 := Aside0.mk (aT_C (w1.alloc (.cells #[.slice A1 3 c1, .int .i64 2] 39)) (w1.heap.size + 1) (by simp))
  have HBb : Aside0 (Below (w1.alloc (.cells #[.slice A1 3 c1, .int .i64 2] 39)).heap.size (w1.alloc (.cells #[.slice A1 3 c1, .int .i64 2] 39)) (bW (w1.alloc (.cells #[.slice A1 3 c1, .int .i64 2] 39)))) := ⟨below_alloc (below_alloc (below_alloc (below_alloc (below_alloc (Below.refl _ _) _) _) _) _) _⟩
  go_wp2_with fail
  refine (upnode_any ⟨7, [], [], []⟩ none 0 none 0 none 0 _ ⟨by decide, by decide, by decide, C_nil _ _, C_nil _ _, C_nil _ _⟩ ⟨by decide, by decide, by decide⟩ (fun j hj => absurd hj (by show ¬ j < 0; omega)) ?_).mono ?_
  · exact HT.out.below (below_alloc (below_alloc (below_step (below_step HB1.out (below_alloc (Below.refl _ _) _)) HBb.out) _) _)
  rintro e w2 ⟨A2, c2, rfl, hR2, hB2⟩
  rw [a7_up]
  have HB2 := Aside0.mk (below_step (below_alloc (below_alloc (below_step (below_step HB1.out (below_alloc (Below.refl _ _) (.cells #[.slice A1 3 c1, .int .i64 2] 39))) HBb.out) (.cells #[.int .i64 7, .slice (some ⟨w1.heap.size + 1, 0, none⟩) 4 4, .slice none 0 0, .slice none 0 0, .int .i64 8, .slice (some ⟨w1.heap.size + 1 + 1, 0, none⟩) 3 3, .slice none 0 0, .slice (some ⟨w1.heap.size + 1 + 1 + 1, 0, none⟩) 1 1, .int .i64 2, .slice (some ⟨w1.heap.size + 1 + 1 + 1 + 1, 0, none⟩) 3 3, .slice none 0 0, .slice (some ⟨w1.heap.size + 1 + 1 + 1 + 1 + 1, 0, none⟩) 1 1] 26)) (.cells #[.slice (some ⟨w1.heap.size + 1 + 1 + 1 + 1 + 1 + 1, 0, none⟩) 3 3, .int .i64 2] 39)) hB2)
  have HBt : Aside0 (Below (w1.alloc (.cells #[.slice A1 3 c1, .int .i64 2] 39)).heap.size (w1.alloc (.cells #[.slice A1 3 c1, .int .i64 2] 39)) w2) := ⟨below_step (below_alloc (below_alloc HBb.out _) _) hB2⟩
  have x0 := pw_cell_below HBt.out (blk_cell HX1.out 0)
  have x1 := pw_cell_below HBt.out (blk_cell HX1.out 1)
  have HY : Aside0 (((((bW (w1.alloc (.cells #[.slice A1 3 c1, .int .i64 2] 39))).alloc (.cells #[.int .i64 7, .slice (some ⟨w1.heap.size + 1, 0, none⟩) 4 4, .slice none 0 0, .slice none 0 0, .int .i64 8, .slice (some ⟨w1.heap.size + 1 + 1, 0, none⟩) 3 3, .slice none 0 0, .slice (some ⟨w1.heap.size + 1 + 1 + 1, 0, none⟩) 1 1, .int .i64 2, .slice (some ⟨w1.heap.size + 1 + 1 + 1 + 1, 0, none⟩) 3 3, .slice none 0 0, .slice (some ⟨w1.heap.size + 1 + 1 + 1 + 1 + 1, 0, none⟩) 1 1] 26)).alloc (.cells #[.slice (some ⟨w1.heap.size + 1 + 1 + 1 + 1 + 1 + 1, 0, none⟩) 3 3, .int .i64 2] 39))).heap[w1.heap.size + 1 + 1 + 1 + 1 + 1 + 1 + 1]? = some (.cells #[.slice (some ⟨w1.heap.size + 1 + 1 + 1 + 1 + 1 + 1, 0, none⟩) 3 3, .int .i64 2] 39 (0, 0))) := ⟨by
    have := heap_alloc_new ((bW (w1.alloc (.cells #[.slice A1 3 c1, .int .i64 2] 39))).alloc (.cells #[.int .i64 7, .slice (some ⟨w1.heap.size + 1, 0, none⟩) 4 4, .slice none 0 0, .slice none 0 0, .int .i64 8, .slice (some ⟨w1.heap.size + 1 + 1, 0, none⟩) 3 3, .slice none 0 0, .slice (some ⟨w1.heap.size + 1 + 1 + 1, 0, none⟩) 1 1, .int .i64 2, .slice (some ⟨w1.heap.size + 1 + 1 + 1 + 1, 0, none⟩) 3 3, .slice none 0 0, .slice (some ⟨w1.heap.size + 1 + 1 + 1 + 1 + 1, 0, none⟩) 1 1] 26)) (.cells #[.slice (some ⟨w1.heap.size + 1 + 1 + 1 + 1 + 1 + 1, 0, none⟩) 3 3, .int .i64 2] 39)
    simpa [bW] using this⟩
  have y0 := pw_cell_below hB2 (blk_cell HY.out 0)
  have y1 := pw_cell_below hB2 (blk_cell HY.out 1)
  have HCt := Aside0.mk (Kd.C_below (Kd.C_alloc HC1.out (.cells #[.slice A1 3 c1, .int .i64 2] 39)) HBt.out)
  have HCw := Aside0.mk (Kd.C_below (Kd.C_alloc HS2.out (.cells #[.slice (some ⟨w1.heap.size + 1 + 1 + 1 + 1 + 1 + 1, 0, none⟩) 3 3, .int .i64 2] 39)) hB2)
  clear hR2 hB2
  go_wp2_with fail
  refine (sameS_any A1 c1 aT (some ⟨w1.heap.size + 1 + 1 + 1 + 1 + 1 + 1, 0, none⟩) 3 aT w2 HCt.out HCw.out aT_small).mono ?_
  rintro e w3 ⟨rfl, hB3⟩
  rw [sameS_yes rfl]
  have HB3 := Aside0.mk (below_step HB2.out hB3)
  clear hB3 x0 x1 y0 y1
  go_wp2
  go_ret
  exact ⟨rfl, HB3.out⟩
end Go.Proofs.YtglfebpgdghlfaaDoor.L
end
section
namespace Go.Proofs.YtglfebpgdghlfaaDoor.L
open Go.RowKit Go.ChangeShapes Go.WideShapes Go.Proofs.YtglfebpgdghlfaaDoorW.PrintWords Go.Proofs.YtglfebpgdghlfaaDoorW.PrintLast Go.Proofs.YtglfebpgdghlfaaDoorW.PrintMore
attribute [local go_sem] max2_int min2_int max_two min_two max_three min_three max_four min_four
theorem great_small {n : Node} (h : greatN n = false) : Small n ∧ TextsSmall n := by
  have h' := of_decide_eq_false h
  have h1 : ¬ 100 < n.ints.length := fun e => h' (.inl e)
  have h2 : ¬ 100 < n.texts.length := fun e => h' (.inr (.inl e))
  have h3 : ¬ 300 < n.kids.length := fun e => h' (.inr (.inr (.inl e)))
  refine ⟨⟨by omega, by omega, by omega⟩, fun j hj => ?_⟩
  have h4 : ¬ 500 < (str n.texts j).size := fun e => h' (.inr (.inr (.inr ⟨j, hj, e⟩)))
  omega
theorem upN_small {n : Node} (h : Small n) : ∀ x ∈ upN n, Small x := by
  obtain ⟨h1, h2, h3⟩ := h
  intro x hx
  unfold upN at hx
  by_cases k1 : n.kind = 1
  · rw [if_pos k1] at hx
    obtain rfl := List.mem_singleton.1 hx
    exact ⟨by simp, by simp, h3⟩
  · rw [if_neg k1] at hx
    by_cases k2 : n.kind = 2
    · rw [if_pos k2] at hx
      rcases List.mem_cons.1 hx with rfl | hx
      · exact ⟨by simp; omega, by simp, by simp⟩
      · obtain rfl := List.mem_singleton.1 hx
        exact ⟨by simp, by simp, h3⟩
    · rw [if_neg k2] at hx
      by_cases k3 : n.kind = 3
      · rw [if_pos k3] at hx
        obtain rfl := List.mem_singleton.1 hx
        exact ⟨by simp, h2, h3⟩
      · rw [if_neg k3] at hx
        by_cases k4 : n.kind = 4
        · rw [if_pos k4] at hx
          obtain rfl := List.mem_singleton.1 hx
          exact ⟨h1, h2, h3⟩
        · rw [if_neg k4] at hx
          by_cases k5 : n.kind = 5
          · rw [if_pos k5] at hx
            obtain rfl := List.mem_singleton.1 hx
            exact ⟨by simp, by simp, h3⟩
          · rw [if_neg k5] at hx
            obtain rfl := List.mem_singleton.1 hx
            exact ⟨by simp, by simp, h3⟩
end Go.Proofs.YtglfebpgdghlfaaDoor.L
end
section
namespace Go.Proofs.YtglfebpgdghlfaaDoor.L
open Go.RowKit Go.ChangeShapes Go.WideShapes Go.Proofs.YtglfebpgdghlfaaDoorW.PrintWords Go.Proofs.YtglfebpgdghlfaaDoorW.PrintLast Go.Proofs.YtglfebpgdghlfaaDoorW.PrintMore
attribute [local go_sem] max2_int min2_int max_two min_two max_three min_three max_four min_four
set_option maxRecDepth 100000 in
set_option maxHeartbeats 4000000 in
theorem rtyped_1 (A : Option Addr) (c : Nat) (s : Scene) (w : World) (h : kNode.C w A s.nodes.length s.nodes) (hS : ∀ i : Nat, i < s.nodes.length → Small (nd s.nodes i)) (hTS : ∀ i : Nat, i < s.nodes.length → TextsSmall (nd s.nodes i)) :
    Calls Tryd.prog 21 #[.agg #[.slice A s.nodes.length c, .int .i64 s.root], .int .i64 1] w fun e w' => e = .returned (.tuple #[.int .i64 (typedS oldTab s.nodes).1, .int .i64 (typedS oldTab s.nodes).2]) ∧ Below w.heap.size w w' := by
  have HR := Aside0.mk h
  have HS := Aside0.mk hS
  have HTS := Aside0.mk hTS
  have b0 := h.2.1
  have HB := Aside0.mk (below_alloc (Below.refl w.heap.size w) (.cells #[.slice A s.nodes.length c, .int .i64 s.root] 39))
  have k0 := box_cell w _ rfl #[.slice A s.nodes.length c, .int .i64 s.root] 39 0 (.slice A s.nodes.length c) rfl
  have HK := Aside0.mk k0
  have hu := Tryd.underlying39
  have hun := Tryd.underlying26
  have hus := Tryd.underlying66
  clear h hS hTS
  go_enter Tryd.func21, Tryd.ntmps21
  go_wp2
  clear k0
  go_loopw [6] (fun v6 W => ∃ i : Nat, i ≤ s.nodes.length ∧ v6 = .int .i64 i ∧ Aside0 (∀ j : Nat, j < i → nodeT oldTab (nd s.nodes j) = 0) ∧ Aside0 (Below w.heap.size w W) ∧ Aside0 (W.cell? ⟨w.heap.size, 0, none⟩ = some (.slice A s.nodes.length c))) (fun v6 _ => s.nodes.length - (intOf v6).toNat)
  case atStart => exact ⟨0, by omega, rfl, ⟨fun j h => by omega⟩, HB, HK⟩
  case round =>
    clear HK HB
    obtain ⟨i, hi, rfl, HA, HW, HK⟩ := hrel
    have k0 := HK.out
    by_cases hlt : i < s.nodes.length
    · obtain ⟨adn, A1, c1, A2, c2, A3, c3, rfl, x0, x1, x2, x3, hN⟩ := at_node HR.out i hlt
      replace x0 := pw_cell_below HW.out x0
      replace x1 := pw_cell_below HW.out x1
      replace x2 := pw_cell_below HW.out x2
      replace x3 := pw_cell_below HW.out x3
      have HN := Aside0.mk hN
      clear hN
      go_wp2_with fail
      refine (rspec_1 (nd s.nodes i).kind _).mono ?_
      rintro e w6 ⟨A4, c4, rfl, hS6, -, hB6⟩
      have HB6 := Aside0.mk (below_step HW.out hB6)
      replace k0 := pw_cell_below hB6 k0
      replace x0 := pw_cell_below hB6 x0
      replace x1 := pw_cell_below hB6 x1
      replace x2 := pw_cell_below hB6 x2
      replace x3 := pw_cell_below hB6 x3
      cases hf : findS oldTab (nd s.nodes i).kind with
      | none =>
        have HE := Aside0.mk (typedS_bad (tab := oldTab) hlt HA.out (by unfold nodeT; rw [hf]; exact (by decide : ¬ (9 : Int) = 0)))
        have HE2 := Aside0.mk (show nodeT oldTab (nd s.nodes i) = 9 from by unfold nodeT; rw [hf])
        clear hf hS6 hB6 x0 x1 x2 x3
        go_wp2
        go_ret2
        exact ⟨ret_pair (by rw [HE.out, HE2.out]), below_step HB6.out (below_alloc (Below.refl _ _) _)⟩
      | some sp =>
        have HE2 := Aside0.mk (show nodeT oldTab (nd s.nodes i) = nodeErr (nd s.nodes i) sp from by unfold nodeT; rw [hf])
        rw [hf] at hS6
        have hbs := below_alloc (Below.refl w6.heap.size w6) (.cells #[.slice A4 sp.ints.length c4, .int .i64 sp.texts, .int .i64 sp.least, .int .i64 sp.most] 66)
        have q0 := box_cell w6 _ rfl #[.slice A4 sp.ints.length c4, .int .i64 sp.texts, .int .i64 sp.least, .int .i64 sp.most] 66 0 (.slice A4 sp.ints.length c4) rfl
        have q1 := box_cell w6 _ rfl #[.slice A4 sp.ints.length c4, .int .i64 sp.texts, .int .i64 sp.least, .int .i64 sp.most] 66 1 (.int .i64 sp.texts) rfl
        have q2 := box_cell w6 _ rfl #[.slice A4 sp.ints.length c4, .int .i64 sp.texts, .int .i64 sp.least, .int .i64 sp.most] 66 2 (.int .i64 sp.least) rfl
        have q3 := box_cell w6 _ rfl #[.slice A4 sp.ints.length c4, .int .i64 sp.texts, .int .i64 sp.least, .int .i64 sp.most] 66 3 (.int .i64 sp.most) rfl
        have HS6 := Aside0.mk (SpecC.below hS6 hbs)
        have HB7 := Aside0.mk (below_step HB6.out hbs)
        replace k0 := pw_cell_below hbs k0
        replace x0 := pw_cell_below hbs x0
        replace x1 := pw_cell_below hbs x1
        replace x2 := pw_cell_below hbs x2
        replace x3 := pw_cell_below hbs x3
        clear hf hS6 hB6 hbs
        go_wp2
        go_region_held3 (fun W => W.cell? ⟨w.heap.size, 0, none⟩ = some (.slice (some adn) s.nodes.length c) ∧ W.cell? (adn.add (i * 4)) = some (.int .i64 (nd s.nodes i).kind) ∧ W.cell? ⟨(adn.add (i * 4)).block, (adn.add (i * 4)).off + 1, none⟩ = some (.slice A1 (nd s.nodes i).ints.length c1) ∧ W.cell? ⟨(adn.add (i * 4)).block, (adn.add (i * 4)).off + 2, none⟩ = some (.slice A2 (nd s.nodes i).texts.length c2) ∧ W.cell? ⟨(adn.add (i * 4)).block, (adn.add (i * 4)).off + 3, none⟩ = some (.slice A3 (nd s.nodes i).kids.length c3) ∧
            W.cell? ⟨w6.heap.size, 0, none⟩ = some (.slice A4 sp.ints.length c4) ∧ W.cell? ⟨w6.heap.size, 1, none⟩ = some (.int .i64 sp.texts) ∧ W.cell? ⟨w6.heap.size, 2, none⟩ = some (.int .i64 sp.least) ∧ W.cell? ⟨w6.heap.size, 3, none⟩ = some (.int .i64 sp.most))
          (first
            | (go_split_ands
               (repeat' apply And.intro)
               all_goals first
                 | with_reducible assumption
                 | with_reducible exact pw_cell_below hB (by assumption)
                 | (simp [*]; done)))
          (first
            | (go_at_call 41; refine (rcheck_any (nd s.nodes i) A1 c1 A2 c2 A3 c3 sp A4 c4 _ (HN.out.below (below_drew HB7.out)) (SpecC.below HS6.out (below_drew (Below.refl _ _))) (HTS.out i hlt) (HS.out i hlt)).mono ?_; rintro e w8 ⟨rfl, hB8⟩; have hB := hB8))
        have HB8 := Aside0.mk (below_step (below_drew HB7.out) hB)
        have HK8 := Aside0.mk (pw_cell_below hB (show (w6.alloc _).drew.cell? _ = _ from k0))
        clear hB x0 x1 x2 x3 q0 q1 q2 q3 k0
        by_cases hz : nodeErr (nd s.nodes i) sp = 0
        · have HA2 := Aside0.mk (ext_lt HA.out (HE2.out.trans hz))
          rw [hz]
          clear hz
          go_wp2
          go_roundw
          case rel => exact ⟨i + 1, by omega, by go_num, HA2, HB8, HK8⟩
          case measure => simp [intOf]; omega
        · have HE := Aside0.mk (typedS_bad (tab := oldTab) hlt HA.out (by rw [HE2.out]; exact hz))
          have dz : (nodeErr (nd s.nodes i) sp != 0) = true := by simpa using hz
          clear hz
          go_wp2
          go_ret2
          exact ⟨ret_pair (by rw [HE.out, HE2.out]), HB8.out⟩
    · obtain rfl : i = s.nodes.length := by omega
      have HE := Aside0.mk (typedS_ok (tab := oldTab) HA.out)
      go_wp2
      go_ret2
      exact ⟨ret_pair HE.out, HW.out⟩
end Go.Proofs.YtglfebpgdghlfaaDoor.L
end
section
namespace Go.Proofs.YtglfebpgdghlfaaDoor.L
open Go.RowKit Go.ChangeShapes Go.WideShapes Go.Proofs.YtglfebpgdghlfaaDoorW.PrintWords Go.Proofs.YtglfebpgdghlfaaDoorW.PrintLast Go.Proofs.YtglfebpgdghlfaaDoorW.PrintMore
attribute [local go_sem] max2_int min2_int max_two min_two max_three min_three max_four min_four
open Go.Proofs.YtglfebpgdghlfaaDoor.PUpgradeUps
theorem nd_mem (l : List Node) (k : Nat) (hk : k < l.length) : nd l k ∈ l := by
  unfold nd
  rw [List.getD_eq_getElem?_getD, List.getElem?_eq_getElem hk]
  exact List.getElem_mem hk
theorem greatS_small {s : Scene} (h : greatS s = false) : s.nodes.length ≤ 60 ∧ (∀ i : Nat, i < s.nodes.length → Small (nd s.nodes i)) ∧ (∀ i : Nat, i < s.nodes.length → TextsSmall (nd s.nodes i)) ∧ (∀ i : Nat, i < s.nodes.length → (nd s.nodes i).kids.length ≤ 300) := by
  have h' := of_decide_eq_false h
  have h1 : ¬ 60 < s.nodes.length := fun e => h' (.inl e)
  have hg : ∀ i : Nat, i < s.nodes.length → greatN (nd s.nodes i) = false := fun i hi => Bool.eq_false_iff.2 (fun e => h' (.inr (.inr ⟨i, hi, e⟩)))
  refine ⟨by omega, fun i hi => (great_small (hg i hi)).1, fun i hi => (great_small (hg i hi)).2, fun i hi => ?_⟩
  have h2 := of_decide_eq_false (hg i hi)
  have h3 : ¬ 300 < (nd s.nodes i).kids.length := fun e => h2 (.inr (.inr (.inl e)))
  omega
theorem sum_le_of {f : Nat → Nat} {b : Nat} : ∀ l : List Nat, (∀ x ∈ l, f x ≤ b) → (l.map f).sum ≤ l.length * b
  | [], _ => by simp
  | x :: l, h => by
    have := sum_le_of (f := f) (b := b) l (fun y hy => h y (by simp [hy]))
    have := h x (by simp)
    rw [List.map_cons, List.sum_cons, List.length_cons, Nat.succ_mul]
    omega
theorem rows_le {ns : List Node} {b : Nat} (h : ∀ i : Nat, i < ns.length → (nd ns i).kids.length ≤ b) : rows ns ≤ ns.length * (b + 1) := by
  unfold rows
  have := sum_le_of (f := wt ns) (b := b + 1) (List.range ns.length) (fun x hx => by
    have := h x (List.mem_range.1 hx)
    unfold wt
    omega)
  rwa [List.length_range] at this
theorem r18_small {s : Scene} (hr : Right s) (hS : ∀ i : Nat, i < s.nodes.length → Small (nd s.nodes i)) : ∀ i : Nat, i < (r18S s).nodes.length → Small (nd (r18S s).nodes i) := by
  intro x hx
  have hx' : x < s.nodes.length + cnt s.nodes s.nodes.length := by have : (r18S s).nodes.length = s.nodes.length + cnt s.nodes s.nodes.length := r18_len _ _; omega
  obtain ⟨p, j, hp, hj, rfl⟩ := r_find s.nodes hx'
  show Small (nd (r18 s.nodes s.nodes.length) (rpos s.nodes p j))
  rw [nd_r18 s.nodes hp hj]
  have hu := upN_small (hS p hp)
  have hlen := upN_len (nd s.nodes p)
  have hpos := upLen_pos (nd s.nodes p)
  have hmem : ∀ k, k < (upN (nd s.nodes p)).length → nd (upN (nd s.nodes p)) k ∈ upN (nd s.nodes p) := fun k hk => nd_mem _ k hk
  have h0 : Small (hd0 s.nodes p) := hu _ (hmem 0 (by omega))
  by_cases hj0 : j = 0
  · rw [if_pos hj0]
    split
    · exact ⟨h0.1, h0.2.1, by show ([_] : List Int).length ≤ 1000000; simp⟩
    · exact h0
  · rw [if_neg hj0]
    exact hu _ (hmem 1 (by omega))
theorem up_is_ref {s : Scene} (hty : (typedS oldTab s.nodes).1 = 0) (hr : Right s) : upErr s = 0 ∧ upRes s = refRes s := by
  have hu := upS_right hr
  have hz := gcheck_right.2 hu
  obtain ⟨hc, hd, hp⟩ := r18_canon hr
  refine ⟨by unfold upErr; rw [if_pos hty, if_pos (gcheck_right.2 hr)]; exact hz, ?_⟩
  unfold upRes canonR refRes
  rw [if_pos hty, if_pos (gcheck_right.2 hr), if_pos hz, hc]
  have hl : (ord (r18S s)).length = (upS s).nodes.length := by
    have h1 : (canonL (upS s)).length = (ord (upS s)).length := by simp [canonL]
    have h2 : (canonL (r18S s)).length = (ord (r18S s)).length := by simp [canonL]
    rw [← h2, ← hc, h1, ord_len hu]
  rw [hl]
theorem typedS_all {ns : List Node} (h : (typedS oldTab ns).1 = 0) : ∀ i : Nat, i < ns.length → nodeT oldTab (nd ns i) = 0 := by
  intro i hi
  refine Classical.byContradiction fun hn => ?_
  -- the first that is bad
  have key : ∀ m, m ≤ ns.length → (∀ j : Nat, j < m → nodeT oldTab (nd ns j) = 0) ∨ ∃ k, k < m ∧ (∀ j : Nat, j < k → nodeT oldTab (nd ns j) = 0) ∧ ¬ nodeT oldTab (nd ns k) = 0 := fun m => by
    induction m with
    | zero => exact fun _ => .inl (fun j hj => by omega)
    | succ m ih =>
      intro hm
      rcases ih (by omega) with h1 | ⟨k, h1, h2, h3⟩
      · by_cases hb : nodeT oldTab (nd ns m) = 0
        · exact .inl (ext_lt (P := fun j : Nat => nodeT oldTab (nd ns j) = 0) h1 hb)
        · exact .inr ⟨m, by omega, h1, hb⟩
      · exact .inr ⟨k, by omega, h2, h3⟩
  rcases key ns.length (Nat.le_refl _) with h1 | ⟨k, h1, h2, h3⟩
  · exact hn (h1 i hi)
  · have := typedS_bad (tab := oldTab) h1 h2 h3
    rw [this] at h
    exact h3 h
theorem refRes_small {s : Scene} (hr : Right s) (hS : ∀ i : Nat, i < s.nodes.length → Small (nd s.nodes i)) : ∀ i : Nat, i < (refRes s).nodes.length → Small (nd (refRes s).nodes i) := by
  intro i hi
  obtain ⟨_, hd, hp⟩ := r18_canon hr
  have hm : nd (refRes s).nodes i ∈ canonL (r18S s) := by
    unfold nd
    rw [List.getD_eq_getElem?_getD, List.getElem?_eq_getElem hi]
    exact List.getElem_mem hi
  generalize nd (refRes s).nodes i = x at hm
  obtain ⟨a, ha, rfl⟩ := List.mem_map.1 hm
  have hpl := (ord_met' hd hp).shut.pl a ha
  have h1 := r18_small hr hS a.toNat (by have := hpl.1; have := hpl.2; omega)
  exact ⟨h1.1, h1.2.1, by show ((nd (r18S s).nodes a.toNat).kids.map _).length ≤ 1000000; rw [List.length_map]; exact h1.2.2⟩
end Go.Proofs.YtglfebpgdghlfaaDoor.L
end
section
namespace Go.Proofs.YtglfebpgdghlfaaDoor.L
open Go.RowKit Go.ChangeShapes Go.WideShapes Go.Proofs.YtglfebpgdghlfaaDoorW.PrintWords Go.Proofs.YtglfebpgdghlfaaDoorW.PrintLast Go.Proofs.YtglfebpgdghlfaaDoorW.PrintMore
attribute [local go_sem] max2_int min2_int max_two min_two max_three min_three max_four min_four
def maxl (l : List Nat) : Nat := l.foldl max 0
theorem maxl_snoc (l : List Nat) (x : Nat) : maxl (l ++ [x]) = max (maxl l) x := by unfold maxl; rw [List.foldl_append]; rfl
theorem foldl_max_le {l : List Nat} {b x : Nat} (hb : b ≤ x) (h : ∀ y ∈ l, y ≤ x) : l.foldl max b ≤ x := by
  induction l generalizing b with
  | nil => exact hb
  | cons y l ih => exact ih (Nat.max_le.2 ⟨hb, h y (by simp)⟩) (fun z hz => h z (by simp [hz]))
theorem maxl_le {l : List Nat} {x : Nat} (h : ∀ y ∈ l, y ≤ x) : maxl l ≤ x := foldl_max_le (Nat.zero_le _) h
theorem foldl_max_ge {l : List Nat} {b : Nat} : b ≤ l.foldl max b ∧ ∀ y ∈ l, y ≤ l.foldl max b := by
  induction l generalizing b with
  | nil => exact ⟨Nat.le_refl _, fun y hy => by simp at hy⟩
  | cons z l ih =>
    obtain ⟨h1, h2⟩ := ih (b := max b z)
    refine ⟨Nat.le_trans (Nat.le_max_left _ _) h1, fun y hy => ?_⟩
    rcases List.mem_cons.1 hy with rfl | hy
    · exact Nat.le_trans (Nat.le_max_right _ _) h1
    · exact h2 y hy
theorem le_maxl {l : List Nat} {y : Nat} (h : y ∈ l) : y ≤ maxl l := foldl_max_ge.2 y h
def hgt (ns : List Node) : Nat → Int → Nat
  | 0, _ => 0
  | f + 1, a => maxl ((kids ns a).map (hgt ns f)) + 1
theorem hgt_fuel {ns : List Node} (h : Dag ns) : ∀ (f g : Nat) (a : Int), Pl ns a → reachN ns a < f → reachN ns a < g → hgt ns f a = hgt ns g a
  | 0, _, _, _, hf, _ => by omega
  | f + 1, 0, _, _, _, hg => by omega
  | f + 1, g + 1, a, ha, hf, hg => by
    unfold hgt
    congr 2
    exact List.map_congr_left (fun k hk => hgt_fuel h f g k (h.kid ha hk) (by have := h.lower ha hk; omega) (by have := h.lower ha hk; omega))
def H (ns : List Node) (a : Int) : Nat := hgt ns (ns.length + 1) a
theorem H_eq {ns : List Node} (h : Dag ns) {a : Int} (ha : Pl ns a) : H ns a = maxl ((kids ns a).map (H ns)) + 1 := by
  unfold H
  conv => lhs; unfold hgt
  congr 2
  refine List.map_congr_left (fun k hk => hgt_fuel h _ _ k (h.kid ha hk) ?_ ?_)
  · have := h.lower ha hk; have := reachN_le ns a; omega
  · have := reachN_le ns k; omega
theorem H_le {ns : List Node} (h : Dag ns) : ∀ (N : Nat) (a : Int), reachN ns a < N → Pl ns a → H ns a ≤ N
  | 0, _, hN, _ => by omega
  | N + 1, a, hN, ha => by
    rw [H_eq h ha]
    refine Nat.succ_le_succ (maxl_le (fun y hy => ?_))
    obtain ⟨k, hk, rfl⟩ := List.mem_map.1 hy
    exact H_le h N k (by have := h.lower ha hk; omega) (h.kid ha hk)
theorem H_bound {ns : List Node} (h : Dag ns) {a : Int} (ha : Pl ns a) : H ns a ≤ ns.length + 1 := H_le h _ a (Nat.lt_succ_of_le (reachN_le ns a)) ha
noncomputable def depthS (s : Scene) : Int := if (gcheck s).1 = 0 then (H s.nodes s.root : Int) else 0
structure DpInv (ns : List Node) (L : List Int) (i j : Nat) (deep : List Int) : Prop where
  len : deep.length = ns.length
  tell : ∀ p : Nat, p < ns.length → (p : Int) ∈ L.take i → rd deep (p : Int) = (H ns (p : Int) : Int)
  rest : ∀ p : Nat, p < ns.length → ¬ (p : Int) ∈ L.take i → rd deep (p : Int) = if rd L (i : Int) = (p : Int) ∧ i < L.length then (maxl (((kids ns (p : Int)).take j).map (H ns)) : Int) else 0
theorem rd_setN {l : List Int} {q p : Nat} {v : Int} (hq : q < l.length) : rd (l.set q v) (p : Int) = if p = q then v else rd l (p : Int) := by
  unfold rd
  rw [Int.toNat_natCast, List.getD_eq_getElem?_getD, List.getD_eq_getElem?_getD, List.getElem?_set]
  by_cases e : p = q
  · subst e; rw [if_pos rfl, if_pos rfl, if_pos hq]; rfl
  · rw [if_neg e, if_neg (fun h => e h.symm)]
theorem DpInv.start (ns : List Node) (L : List Int) : DpInv ns L 0 0 (List.replicate ns.length 0) := by
  have hz : ∀ p : Nat, rd (List.replicate ns.length 0) (p : Int) = 0 := fun p => by
    unfold rd
    rw [Int.toNat_natCast, List.getD_eq_getElem?_getD, List.getElem?_replicate]
    split <;> rfl
  refine ⟨by simp, fun p _ h => by simp at h, fun p _ _ => ?_⟩
  rw [hz]
  split
  · rw [List.take_zero]; rfl
  · rfl
theorem take_not {L : List Int} (hnd : L.Nodup) {i : Nat} (hi : i < L.length) : ¬ rd L (i : Int) ∈ L.take i := fun hm => by
  obtain ⟨m, hm', e⟩ := List.getElem_of_mem hm
  rw [List.length_take] at hm'
  rw [List.getElem_take, rd_eq hi] at e
  have := (List.getElem_inj hnd).1 e
  omega
theorem DpInv.kid {ns : List Node} {L : List Int} {i j q k : Nat} {deep : List Int} (hT : Topo ns L) (h : DpInv ns L i j deep) (hi : i < L.length) (hq : rd L (i : Int) = (q : Int)) (hqn : q < ns.length) (hj : j < (kids ns (q : Int)).length) (hk : rd (kids ns (q : Int)) (j : Int) = (k : Int)) (hkn : k < ns.length) :
    rd deep (q : Int) = (maxl (((kids ns (q : Int)).take j).map (H ns)) : Int) ∧ rd deep (k : Int) = (H ns (k : Int) : Int) ∧ DpInv ns L i (j + 1) (deep.set q ((max (maxl (((kids ns (q : Int)).take j).map (H ns))) (H ns (k : Int)) : Nat) : Int)) := by
  have hnq : ¬ (q : Int) ∈ L.take i := by rw [← hq]; exact take_not hT.nd hi
  have h1 := h.rest q hqn hnq
  rw [if_pos ⟨hq, hi⟩] at h1
  have hkm : (k : Int) ∈ L.take i := by
    refine hT.ahead i hi _ ?_
    rw [hq, ← hk]
    exact rd_mem hj
  refine ⟨h1, h.tell k hkn hkm, by rw [List.length_set]; exact h.len, fun p hp hm => ?_, fun p hp hm => ?_⟩
  · rw [rd_setN (by rw [h.len]; exact hqn), if_neg (fun e => hnq (by rw [← e]; exact hm))]
    exact h.tell p hp hm
  · rw [rd_setN (by rw [h.len]; exact hqn)]
    by_cases e : p = q
    · subst e
      rw [if_pos rfl, if_pos ⟨hq, hi⟩, take_succ_rd hj, List.map_append, hk]
      show _ = ((maxl (_ ++ [H ns (k : Int)]) : Nat) : Int)
      rw [maxl_snoc]
    · have h2 := h.rest p hp hm
      rw [if_neg (fun hh => e (by have := hh.1; rw [hq] at this; omega))] at h2
      rw [if_neg e, if_neg (fun hh => e (by have := hh.1; rw [hq] at this; omega))]
      exact h2
theorem DpInv.node {ns : List Node} {L : List Int} {i q : Nat} {deep : List Int} (hd : Dag ns) (hT : Topo ns L) (h : DpInv ns L i (kids ns (q : Int)).length deep) (hi : i < L.length) (hq : rd L (i : Int) = (q : Int)) (hqn : q < ns.length) :
    rd deep (q : Int) + 1 = (H ns (q : Int) : Int) ∧ DpInv ns L (i + 1) 0 (deep.set q (H ns (q : Int) : Int)) := by
  have hnq : ¬ (q : Int) ∈ L.take i := by rw [← hq]; exact take_not hT.nd hi
  have h1 := h.rest q hqn hnq
  rw [if_pos ⟨hq, hi⟩, List.take_length] at h1
  have hH := H_eq hd (a := (q : Int)) ⟨by omega, by omega⟩
  have htk : L.take (i + 1) = L.take i ++ [(q : Int)] := by rw [take_succ_rd hi, hq]
  refine ⟨by rw [h1, hH]; rfl, by rw [List.length_set]; exact h.len, fun p hp hm => ?_, fun p hp hm => ?_⟩
  · rw [rd_setN (by rw [h.len]; exact hqn)]
    by_cases e : p = q
    · subst e; rw [if_pos rfl]
    · rw [if_neg e]
      rw [htk] at hm
      rcases List.mem_append.1 hm with hm | hm
      · exact h.tell p hp hm
      · exact absurd (List.mem_singleton.1 hm) (fun e' => e (by omega))
  · rw [htk] at hm
    have e : ¬ p = q := fun e => hm (by rw [e]; simp)
    rw [rd_setN (by rw [h.len]; exact hqn), if_neg e, List.take_zero]
    have h2 := h.rest p hp (fun hh => hm (List.mem_append_left _ hh))
    rw [if_neg (fun hh => e (by have := hh.1; rw [hq] at this; omega))] at h2
    rw [h2]
    split <;> rfl
structure DpRel (s : Scene) (L : List Int) (w : World) (A : Option Addr) (c g cd : Nat) (Ao : Option Addr) (co i j : Nat) (deep : List Int) (W : World) : Prop where
  inv : DpInv s.nodes L i j deep
  row : (Kd.int .i64).R 3 W w.heap.size (fun _ => True) (.slice (some ⟨g, 0, none⟩) s.nodes.length cd) deep
  ord : (Kd.int .i64).R 3 W w.heap.size (fun k => k ≠ g) (.slice Ao L.length co) L
  box : W.heap[w.heap.size]? = some (.cells #[.slice A s.nodes.length c, .int .i64 s.root] 39 (0, 0))
  below : Below w.heap.size w W
theorem DpRel.drew {s : Scene} {L : List Int} {w : World} {A : Option Addr} {c g cd : Nat} {Ao : Option Addr} {co i j : Nat} {deep : List Int} {W : World} (h : DpRel s L w A c g cd Ao co i j deep W) : DpRel s L w A c g cd Ao co i j deep W.drew :=
  ⟨h.inv, Kd.R_drew h.row, Kd.R_drew h.ord, h.box, below_drew h.below⟩
theorem DpRel.put {s : Scene} {L : List Int} {w : World} {A : Option Addr} {c g cd : Nat} {Ao : Option Addr} {co i j i' j' q : Nat} {deep : List Int} {W : World} {v : Int} (h : DpRel s L w A c g cd Ao co i j deep W) (hq : q < s.nodes.length) (hi : DpInv s.nodes L i' j' (deep.set q v)) :
    DpRel s L w A c g cd Ao co i' j' (deep.set q v) (W.setCell ⟨g, q, none⟩ (.int .i64 v)) := by
  obtain ⟨s1, s2, s3⟩ := ints_store h.row q hq v
  exact ⟨hi, s1, Kd.R_far (p := ⟨g, q, none⟩) h.ord (fun k hk => hk) _, blk_grown h.box s2 (Kd.R_ne h.row h.box (by decide)), below_set h.below s3⟩
set_option maxRecDepth 100000 in
set_option maxHeartbeats 8000000 in
theorem depth_any (A : Option Addr) (c : Nat) (s : Scene) (w : World) (h : kNode.C w A s.nodes.length s.nodes) (hM : rows s.nodes ≤ 400000) :
    Calls Tryd.prog 52 #[.agg #[.slice A s.nodes.length c, .int .i64 s.root]] w fun e w' => e = .returned (.int .i64 (depthS s)) ∧ Below w.heap.size w w' := by
  have HR := Aside0.mk h
  have HM := Aside0.mk hM
  have b0 := h.2.1
  have HB := Aside0.mk (below_alloc (Below.refl w.heap.size w) (.cells #[.slice A s.nodes.length c, .int .i64 s.root] 39))
  have HX := Aside0.mk (show (w.alloc (.cells #[.slice A s.nodes.length c, .int .i64 s.root] 39)).heap[w.heap.size]? = some (.cells #[.slice A s.nodes.length c, .int .i64 s.root] 39 (0, 0)) from by simpa using heap_alloc_new w _)
  have k0 := box_cell w _ rfl #[.slice A s.nodes.length c, .int .i64 s.root] 39 0 (.slice A s.nodes.length c) rfl
  have k1 := box_cell w _ rfl #[.slice A s.nodes.length c, .int .i64 s.root] 39 1 (.int .i64 s.root) rfl
  have hu := Tryd.underlying39
  have hun := Tryd.underlying26
  clear h hM
  go_enter Tryd.func52, Tryd.ntmps52
  go_wp2_with fail
  refine (gcheck_any A c s _ (Kd.C_below HR.out HB.out) HM.out).mono ?_
  rintro e w1 ⟨rfl, hB1⟩
  have HB1 := Aside0.mk (below_step HB.out hB1)
  have HX1 := Aside0.mk ((hB1.block _ (blk_lt HX.out)).trans HX.out)
  replace k0 := pw_cell_below hB1 k0
  replace k1 := pw_cell_below hB1 k1
  clear hB1 HX
  by_cases hz : (gcheck s).1 = 0
  · have HRt := Aside0.mk (gcheck_right.1 hz)
    have HE : Aside0 (depthS s = (H s.nodes s.root : Int)) := ⟨by unfold depthS; rw [if_pos hz]⟩
    have hnM : s.nodes.length ≤ 400000 := Nat.le_trans (len_rows _) HM.out
    have hn0 : 0 < s.nodes.length := by have := HRt.out.r0; have := HRt.out.r1; omega
    rw [hz]
    clear hz
    go_wp2_with (first
      | (refine Kd.R_make (Kd.int .i64) (w0 := w) w.heap.size 3 rfl (N := 20) rfl 24 _ _ rfl (s.nodes.length : Int) rfl rfl Tryd.underlying24 (.int .i64 0) 8 info_int rfl (by decide) (by omega) 0 (ok := fun _ => True) (okp := fun _ => True) rfl (fun _ hk => hk) trivial (by omega) (by omega) HB1.out HB1.out.size ?_; intro v2 w2 ho2 hb2 hg2 hn2; rw [Int.toNat_natCast] at ho2; obtain ⟨go, co, hv2, -, hgo, -⟩ := Kd.R_form ho2 (by rw [List.length_replicate]; exact hn0); rw [List.length_replicate] at hv2; subst hv2; have HO := Aside0.mk ho2; have HB2 := Aside0.mk hb2; have HX2 := Aside0.mk (blk_grown HX1.out hg2 (by simp)); have q0 := cell_grown hg2 k0 (by simp); have q1 := cell_grown hg2 k1 (by simp); clear ho2 hb2 hg2 hn2))
    clear k0 k1
    refine (order_any A c s w2 (Kd.C_below HR.out HB2.out) HRt.out.pl hn0 (by have := HM.out; omega)).mono ?_
    rintro e w3 ⟨L, A3, c3, rfl, hT, hR3, hB3⟩
    have HT := Aside0.mk hT
    have HI := Aside0.mk (show DpRel s L w A c go co A3 c3 0 0 (List.replicate s.nodes.length 0) w3 from ⟨DpInv.start _ _, by
      have h := Kd.R_below HO.out hB3
      exact h, Kd.R_lower (Kd.R_mono (Kd.R_bound hR3) (ok' := fun k => k ≠ go) (fun k hk => by have h1 := Kd.R_lt HO.out go rfl; have h2 := hk.2.1; omega)) HB2.out.size, (hB3.block _ (blk_lt HX2.out)).trans HX2.out, below_step HB2.out hB3⟩)
    have hLl : L.length ≤ s.nodes.length := nodup_len hT.nd hT.pl
    clear q0 q1 hR3 hB3 HO hT
    go_wp2
    go_loopw [24] (fun v24 W => ∃ i : Nat, i ≤ L.length ∧ v24 = .int .i64 i ∧ ∃ deep, Aside0 (DpRel s L w A c go co A3 c3 i 0 deep W)) (fun v24 _ => L.length - (intOf v24).toNat)
    case atStart => exact ⟨0, by omega, rfl, _, HI⟩
    case round =>
      clear HI
      obtain ⟨i, hi, rfl, deep, HI⟩ := hrel
      by_cases hlt : i < L.length
      · have hpq := HT.out.pl _ (rd_mem hlt)
        obtain ⟨q, hq⟩ : ∃ q : Nat, rd L (i : Int) = (q : Int) := ⟨(rd L (i : Int)).toNat, by omega⟩
        have hqn : q < s.nodes.length := by omega
        have HQ := Aside0.mk hq
        obtain ⟨ad, rfl, hx⟩ := at_nat (Kd.R_reads' HI.out.ord).2.2 i hlt
        rw [hq] at hx
        obtain ⟨adn, A1, c1, A2, c2, A5, c5, rfl, x0, x1, x2, x3, hN⟩ := at_node HR.out q hqn
        replace x3 := pw_cell_below HI.out.below x3
        have HN := Aside0.mk hN
        have o0 : wr.cell? ⟨w.heap.size, 0, none⟩ = some (.slice (some adn) s.nodes.length c) := (blk_cell HI.out.box 0).trans rfl
        have HKl := Aside0.mk (show (nd s.nodes q).kids.length ≤ 400000 from by
          have h1 : wt s.nodes q = (nd s.nodes q).kids.length + 1 := rfl
          have h2 := left_cons (ns := s.nodes) (vs := []) (x := q) hqn (by simp)
          rw [left_nil] at h2
          have := HM.out
          omega)
        have hkl := HKl.out
        clear hq hpq hN x0 x1 x2
        go_wp2
        clear x3 o0 hx
        go_loopw [35] (fun v35 W => ∃ j : Nat, j ≤ (nd s.nodes q).kids.length ∧ v35 = .int .i64 j ∧ ∃ deep, Aside0 (DpRel s L w (some adn) c go co (some ad) c3 i j deep W)) (fun v35 _ => (nd s.nodes q).kids.length - (intOf v35).toNat)
        case atStart => exact ⟨0, by omega, rfl, deep, HI⟩
        case round =>
          clear HI
          obtain ⟨j, hj, rfl, deep, HJ⟩ := hrel
          by_cases hjl : j < (nd s.nodes q).kids.length
          · have hkm := HRt.out.pl q hqn _ (rd_mem hjl)
            obtain ⟨k, hk⟩ : ∃ k : Nat, rd (nd s.nodes q).kids (j : Int) = (k : Int) := ⟨(rd (nd s.nodes q).kids (j : Int)).toNat, by omega⟩
            have hkn : k < s.nodes.length := by omega
            obtain ⟨adk, rfl, z0⟩ := at_nat (HN.out.below HJ.out.below).k j hjl
            rw [hk] at z0
            have hkq : kids s.nodes (q : Int) = (nd s.nodes q).kids := kids_nat _ _
            obtain ⟨e1, e2, e3⟩ := HJ.out.inv.kid HT.out hlt HQ.out hqn (by rw [hkq]; exact hjl) (by rw [hkq]; exact hk) hkn
            obtain ⟨y1, y1f⟩ := ints_cell HJ.out.row q hqn
            obtain ⟨y2, y2f⟩ := ints_cell HJ.out.row k hkn
            rw [e1] at y1
            rw [e2] at y2
            have HP := Aside0.mk (HJ.out.put hqn e3)
            generalize maxl (((kids s.nodes (q : Int)).take j).map (H s.nodes)) = a1 at y1 HP
            generalize H s.nodes (k : Int) = a2 at y2 HP
            have HMx : Aside0 (((max a1 a2 : Nat) : Int) = if a1 < a2 then (a2 : Int) else (a1 : Int)) := ⟨by split <;> omega⟩
            rw [HMx.out] at HP
            clear hkm hk hkq e1 e2 e3
            go_wp2
            go_region
            all_goals
              have HS4 := Aside0.mk HP.out.drew
              clear y1 y1f y2 y2f z0
              go_wp2
              go_roundw
              case rel => exact ⟨j + 1, by omega, by go_num, _, HS4⟩
              case measure => simp [intOf]; omega
          · obtain rfl : j = (nd s.nodes q).kids.length := by omega
            have hkq : kids s.nodes (q : Int) = (nd s.nodes q).kids := kids_nat _ _
            have hinv := HJ.out.inv
            rw [← hkq] at hinv
            obtain ⟨e1, e3⟩ := hinv.node HRt.out.dag HT.out hlt HQ.out hqn
            obtain ⟨y1, y1f⟩ := ints_cell HJ.out.row q hqn
            have HP := Aside0.mk (HJ.out.put hqn e3)
            have hb := H_bound HRt.out.dag (a := (q : Int)) ⟨by omega, by omega⟩
            generalize H s.nodes (q : Int) = a2 at e1 HP hb
            generalize rd deep (q : Int) = a1 at e1 y1
            have hw : IntKind.i64.wrap (a1 + 1) = (a2 : Int) := by rw [e1]; exact wrap_i (by omega) (by omega)
            clear hinv hkq e1 e3
            go_wp2
            go_roundw
            case rel => exact ⟨i + 1, by omega, by go_num, _, HP⟩
            case measure => simp [intOf]; omega
      · obtain rfl : i = L.length := by omega
        have h0 := HRt.out.r0
        have h1 := HRt.out.r1
        obtain ⟨r, hr⟩ : ∃ r : Nat, s.root = (r : Int) := ⟨s.root.toNat, by omega⟩
        have hrn : r < s.nodes.length := by omega
        have hin : (r : Int) ∈ L.take L.length := by rw [List.take_length]; exact Topo.cyclic HRt.out.pl HT.out HRt.out.cyc r hrn
        have e1 := HI.out.inv.tell r hrn hin
        obtain ⟨y1, y1f⟩ := ints_cell HI.out.row r hrn
        have o1 : wr.cell? ⟨w.heap.size, 1, none⟩ = some (.int .i64 s.root) := (blk_cell HI.out.box 1).trans rfl
        rw [e1] at y1
        rw [hr] at o1 HE
        clear h0 h1 hr hin e1
        go_wp2
        go_ret
        exact ⟨ret_int HE.out.symm, HI.out.below⟩
  · have HE : Aside0 (depthS s = 0) := ⟨by unfold depthS; rw [if_neg hz]⟩
    have dz : ((gcheck s).1 != 0) = true := by simpa using hz
    clear hz
    go_wp2
    go_ret
    exact ⟨ret_int HE.out.symm, HB1.out⟩
end Go.Proofs.YtglfebpgdghlfaaDoor.L
end
section
namespace Go.Proofs.YtglfebpgdghlfaaDoor.L
open Go.RowKit Go.ChangeShapes Go.WideShapes Go.Proofs.YtglfebpgdghlfaaDoorW.PrintWords Go.Proofs.YtglfebpgdghlfaaDoorW.PrintLast Go.Proofs.YtglfebpgdghlfaaDoorW.PrintMore
attribute [local go_sem] max2_int min2_int max_two min_two max_three min_three max_four min_four
theorem maxl_mono {f g : Int → Nat} : ∀ l : List Int, (∀ k ∈ l, f k ≤ g k) → maxl (l.map f) ≤ maxl (l.map g) := fun l h => maxl_le (fun y hy => by
  obtain ⟨k, hk, rfl⟩ := List.mem_map.1 hy
  exact Nat.le_trans (h k hk) (le_maxl (List.mem_map_of_mem hk)))
theorem maxl_two {f g : Int → Nat} (l : List Int) (h : ∀ k ∈ l, g k ≤ 2 * f k) : maxl (l.map g) ≤ 2 * maxl (l.map f) := maxl_le (fun y hy => by
  obtain ⟨k, hk, rfl⟩ := List.mem_map.1 hy
  have := h k hk
  have := le_maxl (List.mem_map_of_mem (f := f) hk)
  omega)
theorem Iso.depth {ns ms : List Node} {f : Int → Int} (h : Iso ns ms f) (hd : Dag ns) (hm : Dag ms) : ∀ (N : Nat) (x : Int), reachN ms x < N → Pl ms x → L.H ns (f x) = L.H ms x
  | 0, _, hN, _ => by omega
  | N + 1, x, hN, hx => by
    rw [H_eq hd (h.pl x hx), H_eq hm hx, h.kids hx, List.map_map]
    congr 2
    exact List.map_congr_left (fun k hk => Iso.depth h hd hm N k (by have := hm.lower hx hk; omega) (hm.kid hx hk))
theorem up_depth {s : Scene} (hr : Right s) : ∀ (N p : Nat), reachN s.nodes (p : Int) < N → p < s.nodes.length →
    H s.nodes (p : Int) ≤ H (upS s).nodes ((pos s.nodes p + 0 : Nat) : Int) ∧ H (upS s).nodes ((pos s.nodes p + 0 : Nat) : Int) ≤ 2 * H s.nodes (p : Int)
  | 0, _, hN, _ => by omega
  | N + 1, p, hN, hp => by
    have hd := hr.dag
    have hu := (upS_right hr).dag
    have hU : (upS s).nodes = mix s.nodes s.nodes.length s.nodes.length := rfl
    have hpl : Pl s.nodes (p : Int) := ⟨by omega, by omega⟩
    have hplU : ∀ j, j < upLen (nd s.nodes p) → Pl (upS s).nodes ((pos s.nodes p + j : Nat) : Int) := fun j hj => ⟨by omega, by
      have h1 := up_pos_lt s.nodes hp hj
      have h2 : (upS s).nodes.length = pos s.nodes s.nodes.length := U_len _
      omega⟩
    have hk : ∀ k ∈ kids s.nodes (p : Int), H s.nodes k ≤ H (upS s).nodes (pos s.nodes k.toNat : Int) ∧ H (upS s).nodes (pos s.nodes k.toNat : Int) ≤ 2 * H s.nodes k := fun k hk => by
      have hkp := hd.kid hpl hk
      have hlo := hd.lower hpl hk
      obtain ⟨q, rfl⟩ : ∃ q : Nat, k = (q : Int) := ⟨k.toNat, by have := hkp.1; omega⟩
      have := up_depth hr N q (by omega) (by have := hkp.2; omega)
      rw [Int.toNat_natCast]
      exact this
    have hHs := H_eq hd hpl
    have hkn : kids s.nodes (p : Int) = (nd s.nodes p).kids := by unfold kids; rw [Int.toNat_natCast]
    have h1 := maxl_mono (f := H s.nodes) (g := fun k => H (upS s).nodes (pos s.nodes k.toNat : Int)) (kids s.nodes (p : Int)) (fun k hk' => (hk k hk').1)
    have h2 := maxl_two (f := H s.nodes) (g := fun k => H (upS s).nodes (pos s.nodes k.toNat : Int)) (kids s.nodes (p : Int)) (fun k hk' => (hk k hk').2)
    -- the node whose kids are the node's
    have hlast : ∀ j, j < upLen (nd s.nodes p) → ¬ (isTr (nd s.nodes p) = true ∧ j = 0) → H (upS s).nodes ((pos s.nodes p + j : Nat) : Int) = maxl ((kids s.nodes (p : Int)).map (fun k => H (upS s).nodes (pos s.nodes k.toNat : Int))) + 1 := fun j hj hn => by
      rw [H_eq hu (hplU j hj)]
      congr 2
      rw [hU, kidsU s.nodes hp hj, if_neg hn, hkn]
      unfold mapK
      rw [List.map_map]
      rfl
    by_cases ht : isTr (nd s.nodes p) = true
    · have hl := tr_len ht
      have e1 := hlast 1 (by omega) (fun h => by have := h.2; omega)
      have e0 : H (upS s).nodes ((pos s.nodes p + 0 : Nat) : Int) = H (upS s).nodes ((pos s.nodes p + 1 : Nat) : Int) + 1 := by
        rw [H_eq hu (hplU 0 (by omega)), hU, kidsU s.nodes hp (by omega), if_pos ⟨ht, rfl⟩]
        show max 0 _ + 1 = _
        rw [Nat.max_eq_right (Nat.zero_le _)]
      omega
    · have e1 := hlast 0 (upLen_pos _) (fun h => ht h.1)
      omega
theorem canon_iso {s : Scene} (h : Right s) : Iso (canonL s) s.nodes (fun x => (idx s x : Int)) := by
  have hlen : (canonL s).length = s.nodes.length := by
    have := ord_len h
    simp [canonL, this]
  refine ⟨hlen, fun x hx => ?_, fun x y hx hy he => ?_, fun x hx => ?_⟩
  · obtain ⟨q, rfl⟩ : ∃ q : Nat, x = (q : Int) := ⟨x.toNat, by have := hx.1; omega⟩
    have := (at_idx h (p := q) (by have := hx.2; omega)).1
    exact ⟨by omega, by omega⟩
  · obtain ⟨q, rfl⟩ : ∃ q : Nat, x = (q : Int) := ⟨x.toNat, by have := hx.1; omega⟩
    obtain ⟨r, rfl⟩ : ∃ r : Nat, y = (r : Int) := ⟨y.toNat, by have := hy.1; omega⟩
    have := idx_inj h (p := q) (q := r) (by have := hx.2; omega) (by have := hy.2; omega) (by
      have he' : (idx s (q : Int) : Int) = (idx s (r : Int) : Int) := he
      omega)
    rw [this]
  · obtain ⟨q, rfl⟩ : ∃ q : Nat, x = (q : Int) := ⟨x.toNat, by have := hx.1; omega⟩
    obtain ⟨h1, h2⟩ := at_idx h (p := q) (by have := hx.2; omega)
    show nd (canonL s) ((idx s (q : Int) : Int)).toNat = _
    rw [Int.toNat_natCast]
    have hl : idx s (q : Int) < (ord s).length := by rw [ord_len h]; exact h1
    unfold canonL
    unfold nd
    rw [List.getD_eq_getElem?_getD, List.getElem?_map, List.getElem?_eq_getElem hl]
    have h3 : (ord s)[idx s (q : Int)] = (q : Int) := (rd_eq hl).symm.trans h2
    rw [h3]
    rfl
theorem canon_root {s : Scene} (h : Right s) : (s.nodes.length : Int) - 1 = (idx s s.root : Int) := by
  have hpl : Pl s.nodes s.root := ⟨h.r0, h.r1⟩
  have ho : ord s = ML s.nodes (kids s.nodes s.root) [] ++ [s.root] := by
    show M s.nodes s.root [] = _
    exact M_out h.dag hpl (by simp)
  have hl := ord_len h
  have hnd := ord_nodup h
  rw [ho] at hl hnd
  rw [List.length_append, List.length_singleton] at hl
  have hni : ¬ s.root ∈ ML s.nodes (kids s.nodes s.root) [] := fun hm => by
    exact (List.nodup_append.1 hnd).2.2 s.root hm s.root (by simp) rfl
  unfold idx
  rw [ho, List.idxOf_append, if_neg hni]
  simp
  omega
theorem canon_right {s : Scene} (h : Right s) : Right ⟨canonL s, (s.nodes.length : Int) - 1⟩ := by
  have hi := canon_iso h
  have hlen : (canonL s).length = s.nodes.length := hi.len
  have hn : 0 < s.nodes.length := by have := h.r0; have := h.r1; omega
  have hsur : ∀ m : Nat, m < (canonL s).length → ∃ q : Nat, q < s.nodes.length ∧ (m : Int) = (idx s (q : Int) : Int) := fun m hm => by
    obtain ⟨q, hq, hqn⟩ := ord_at h (m := m) (by omega)
    refine ⟨q, hqn, ?_⟩
    have := idx_at h (m := m) (by omega)
    rw [hq] at this
    rw [this]
  refine ⟨by show 0 ≤ (s.nodes.length : Int) - 1; omega, by show (s.nodes.length : Int) - 1 < ((canonL s).length : Int); omega, fun m hm k hk => ?_, fun m hm hc => ?_, fun m hm => ?_⟩
  · obtain ⟨q, hq, e⟩ := hsur m hm
    have hkk : k ∈ kids (canonL s) (idx s (q : Int) : Int) := by rw [← e]; unfold kids; rw [Int.toNat_natCast]; exact hk
    rw [hi.kids ⟨by omega, by omega⟩] at hkk
    obtain ⟨x, hx, rfl⟩ := List.mem_map.1 hkk
    exact hi.pl x (kids_pl h.pl ⟨by omega, by omega⟩ x hx)
  · obtain ⟨q, hq, e⟩ := hsur m hm
    have hqp : Pl s.nodes (q : Int) := ⟨by omega, by omega⟩
    have back : ∀ (l : List Int), (∀ k ∈ l, Pl s.nodes k) → ∀ y, Rch (canonL s) (l.map (fun x => (idx s x : Int))) y → ∃ x, Pl s.nodes x ∧ y = (idx s x : Int) ∧ Rch s.nodes l x := fun l hl y hy => by
      induction hy with
      | base hk =>
        obtain ⟨x, hx, rfl⟩ := List.mem_map.1 hk
        exact ⟨x, hl x hx, rfl, .base hx⟩
      | step _ hk ih =>
        obtain ⟨x, hx, rfl, hrx⟩ := ih
        rw [hi.kids hx] at hk
        obtain ⟨z, hz, rfl⟩ := List.mem_map.1 hk
        exact ⟨z, kids_pl h.pl hx z hz, rfl, .step hrx hz⟩
    have hc' : Rch (canonL s) (kids (canonL s) (m : Int)) (m : Int) := hc
    rw [e, hi.kids hqp] at hc'
    obtain ⟨x, hx, ex, hrx⟩ := back _ (kids_pl h.pl hqp) _ hc'
    have := hi.inj _ _ hqp hx ex
    rw [← this] at hrx
    exact h.cyc q hq hrx
  · obtain ⟨q, hq, e⟩ := hsur m hm
    rw [e]
    have h1 := (hi.rch h.pl (l := [s.root]) (fun k hk => by rw [List.mem_singleton.1 hk]; exact ⟨h.r0, h.r1⟩) (h.all q hq)).1
    show Rch (canonL s) [(s.nodes.length : Int) - 1] _
    rw [canon_root h]
    exact h1
theorem upRes_depth {s : Scene} (hty : (typedS oldTab s.nodes).1 = 0) (hr : Right s) : Right (upRes s) ∧ depthS s ≤ depthS (upRes s) ∧ depthS (upRes s) ≤ 2 * depthS s := by
  have hu := upS_right hr
  have hres : upRes s = ⟨canonL (upS s), ((upS s).nodes.length : Int) - 1⟩ := by
    unfold upRes canonR
    rw [if_pos hty, if_pos (gcheck_right.2 hr), if_pos (gcheck_right.2 hu)]
  have hc := canon_right hu
  rw [← hres] at hc
  have h0 := hr.r0
  have h1 := hr.r1
  obtain ⟨r, hrr⟩ : ∃ r : Nat, s.root = (r : Int) := ⟨s.root.toNat, by omega⟩
  have hroot : (upS s).root = ((pos s.nodes r + 0 : Nat) : Int) := by
    show ((pos s.nodes s.root.toNat : Nat) : Int) = _
    rw [hrr]; rfl
  have hd := up_depth hr _ r (Nat.lt_succ_self _) (by omega)
  have hi := canon_iso hu
  have e : H (upRes s).nodes (upRes s).root = H (upS s).nodes (upS s).root := by
    rw [hres]
    show H (canonL (upS s)) (((upS s).nodes.length : Int) - 1) = _
    rw [canon_root hu]
    refine hi.depth ?_ hu.dag _ _ (Nat.lt_succ_self _) ⟨hu.r0, hu.r1⟩
    have := hc.dag
    rw [hres] at this
    exact this
  refine ⟨hc, ?_, ?_⟩
  · unfold depthS
    rw [if_pos (gcheck_right.2 hr), if_pos (gcheck_right.2 hc), e, hroot, hrr]
    omega
  · unfold depthS
    rw [if_pos (gcheck_right.2 hr), if_pos (gcheck_right.2 hc), e, hroot, hrr]
    omega
end Go.Proofs.YtglfebpgdghlfaaDoor.L
end
section
namespace Go.Proofs.YtglfebpgdghlfaaDoor.L
open Go.RowKit Go.ChangeShapes Go.WideShapes Go.Proofs.YtglfebpgdghlfaaDoorW.PrintWords Go.Proofs.YtglfebpgdghlfaaDoorW.PrintLast Go.Proofs.YtglfebpgdghlfaaDoorW.PrintMore
attribute [local go_sem] max2_int min2_int max_two min_two max_three min_three max_four min_four
open Classical in
noncomputable def mstep (st : List ByteArray × Nat) (t : ByteArray) : List ByteArray × Nat := if t ∈ st.1 then st else (t :: st.1, st.2 + t.size)
noncomputable def meas (l : List ByteArray) : List ByteArray × Nat := l.foldl mstep ([], 0)
theorem meas_snoc (l : List ByteArray) (t : ByteArray) : meas (l ++ [t]) = mstep (meas l) t := by unfold meas; rw [List.foldl_append]; rfl
def szs (l : List ByteArray) : Nat := (l.map ByteArray.size).sum
structure MsInv (l : List ByteArray) (st : List ByteArray × Nat) : Prop where
  nd : st.1.Nodup
  mem : ∀ x, x ∈ st.1 ↔ x ∈ l
  sum : st.2 = szs st.1
  len : st.1.length ≤ l.length
theorem meas_inv : ∀ l : List ByteArray, MsInv l (meas l) := by
  have key : ∀ (l pre : List ByteArray) (st : List ByteArray × Nat), MsInv pre st → MsInv (pre ++ l) (l.foldl mstep st) := by
    intro l
    induction l with
    | nil => intro pre st h; rw [List.append_nil]; exact h
    | cons t l ih =>
      intro pre st h
      rw [List.foldl_cons, show pre ++ t :: l = (pre ++ [t]) ++ l by simp]
      refine ih _ _ ?_
      unfold mstep
      by_cases hin : t ∈ st.1
      · rw [if_pos hin]
        refine ⟨h.nd, fun x => ?_, h.sum, by rw [List.length_append]; have := h.len; omega⟩
        rw [h.mem x, List.mem_append, List.mem_singleton]
        exact ⟨.inl, fun hh => hh.elim id (fun e => by rw [e]; exact (h.mem t).1 hin)⟩
      · rw [if_neg hin]
        refine ⟨List.nodup_cons.2 ⟨hin, h.nd⟩, fun x => ?_, ?_, by rw [List.length_append]; have := h.len; simp; omega⟩
        · show x ∈ t :: st.1 ↔ _
          rw [List.mem_cons, h.mem x, List.mem_append, List.mem_singleton]
          exact ⟨fun hh => hh.elim .inr .inl, fun hh => hh.elim .inr .inl⟩
        · show st.2 + t.size = szs (t :: st.1)
          unfold szs
          rw [List.map_cons, List.sum_cons, h.sum]
          unfold szs
          omega
  intro l
  have := key l [] ([], 0) ⟨List.nodup_nil, fun x => Iff.rfl, rfl, Nat.le_refl _⟩
  rwa [List.nil_append] at this
theorem szs_le : ∀ (a b : List ByteArray), a.Nodup → (∀ x ∈ a, x ∈ b) → szs a ≤ szs b
  | [], b, _, _ => Nat.zero_le _
  | x :: a, b, hn, hs => by
    have hx := hs x (by simp)
    obtain ⟨hxa, hna⟩ := List.nodup_cons.1 hn
    obtain ⟨u, v, rfl⟩ := List.append_of_mem hx
    have ih := szs_le a (u ++ v) hna (fun y hy => by
      rcases List.mem_append.1 (hs y (by simp [hy])) with h | h
      · exact List.mem_append_left _ h
      · rcases List.mem_cons.1 h with e | h
        · exact absurd hy (by rw [e]; exact hxa)
        · exact List.mem_append_right _ h)
    unfold szs at ih ⊢
    rw [List.map_append, List.sum_append] at ih ⊢
    rw [List.map_cons, List.sum_cons, List.map_cons, List.sum_cons]
    omega
def texs (ns : List Node) : List ByteArray := ns.flatMap (fun n => n.texts)
noncomputable def textSum (ns : List Node) : Nat := (meas (texs ns)).2
theorem textSum_le {ns ms : List Node} {extra : List ByteArray} (h : ∀ x ∈ texs ns, x ∈ extra ++ texs ms) : textSum ns ≤ szs extra + textSum ms := by
  have h1 := meas_inv (texs ns)
  have h2 := meas_inv (texs ms)
  unfold textSum
  rw [h1.sum, h2.sum]
  have h3 := szs_le _ (extra ++ (meas (texs ms)).1) h1.nd (fun x hx => by
    have := h x ((h1.mem x).1 hx)
    rcases List.mem_append.1 this with h' | h'
    · exact List.mem_append_left _ h'
    · exact List.mem_append_right _ ((h2.mem x).2 h'))
  refine Nat.le_trans h3 (Nat.le_of_eq ?_)
  unfold szs
  rw [List.map_append, List.sum_append]
theorem mem_texs {ns : List Node} {x : ByteArray} : x ∈ texs ns ↔ ∃ p : Nat, p < ns.length ∧ x ∈ (nd ns p).texts := by
  unfold texs
  rw [List.mem_flatMap]
  refine ⟨fun ⟨n, hn, hx⟩ => ?_, fun ⟨p, hp, hx⟩ => ?_⟩
  · obtain ⟨p, hp, rfl⟩ := List.getElem_of_mem hn
    refine ⟨p, hp, ?_⟩
    unfold nd
    rw [List.getD_eq_getElem?_getD, List.getElem?_eq_getElem hp]
    exact hx
  · refine ⟨nd ns p, ?_, hx⟩
    unfold nd
    rw [List.getD_eq_getElem?_getD, List.getElem?_eq_getElem hp]
    exact List.getElem_mem hp
theorem iso_texs {ns ms : List Node} {f : Int → Int} (h : Iso ns ms f) (hsur : ∀ m : Nat, m < ns.length → ∃ q : Nat, q < ms.length ∧ (m : Int) = f (q : Int)) {x : ByteArray} : x ∈ texs ns ↔ x ∈ texs ms := by
  rw [mem_texs, mem_texs]
  have e : ∀ q : Nat, q < ms.length → (nd ns (f (q : Int)).toNat).texts = (nd ms q).texts := fun q hq => by
    rw [h.nd (q : Int) ⟨by omega, by omega⟩, Int.toNat_natCast]
  refine ⟨fun ⟨m, hm, hx⟩ => ?_, fun ⟨q, hq, hx⟩ => ?_⟩
  · obtain ⟨q, hq, he⟩ := hsur m hm
    refine ⟨q, hq, ?_⟩
    have := e q hq
    rw [← he, Int.toNat_natCast] at this
    rw [← this]; exact hx
  · have hp := h.pl (q : Int) ⟨by omega, by omega⟩
    exact ⟨(f (q : Int)).toNat, by have := hp.1; have := hp.2; omega, by rw [e q hq]; exact hx⟩
theorem canon_texs {s : Scene} (h : Right s) {x : ByteArray} : x ∈ texs (canonL s) ↔ x ∈ texs s.nodes := by
  have hi := canon_iso h
  refine iso_texs hi (fun m hm => ?_)
  have hlen := hi.len
  obtain ⟨q, hq, hqn⟩ := ord_at h (m := m) (by omega)
  refine ⟨q, hqn, ?_⟩
  have := idx_at h (m := m) (by omega)
  rw [hq] at this
  show (m : Int) = ((idx s (q : Int) : Nat) : Int)
  rw [this]
def sansB : ByteArray := ⟨#[115, 97, 110, 115]⟩
theorem typed_texts {n : Node} (h : nodeT oldTab n = 0) : (n.kind = 1 ∧ n.texts = []) ∨ (n.kind = 2 ∧ n.texts = []) ∨ (n.kind = 3 ∧ n.texts.length = 1) ∨ (n.kind = 4 ∧ n.texts.length = 1) ∨ (n.kind = 5 ∧ n.texts.length = 1) ∨ (n.kind = 6 ∧ n.texts = []) := by
  unfold nodeT at h
  cases hf : findS oldTab n.kind with
  | none => rw [hf] at h; exact absurd h (show ¬ (9 : Int) = 0 by decide)
  | some sp =>
    rw [hf] at h
    have hk := old_kind hf
    have hl := fun {k : Int} {y : Spec} (hk : n.kind = k) (hy : findS oldTab k = some y) => (node_len hf h hk hy).2
    have h6 : n.kind = 1 ∨ n.kind = 2 ∨ n.kind = 3 ∨ n.kind = 4 ∨ n.kind = 5 ∨ n.kind = 6 := by omega
    rcases h6 with e | e | e | e | e | e
    · exact .inl ⟨e, List.eq_nil_of_length_eq_zero (by have : (n.texts.length : Int) = 0 := hl e rfl; omega)⟩
    · exact .inr (.inl ⟨e, List.eq_nil_of_length_eq_zero (by have : (n.texts.length : Int) = 0 := hl e rfl; omega)⟩)
    · exact .inr (.inr (.inl ⟨e, by have : (n.texts.length : Int) = 1 := hl e rfl; omega⟩))
    · exact .inr (.inr (.inr (.inl ⟨e, by have : (n.texts.length : Int) = 1 := hl e rfl; omega⟩)))
    · exact .inr (.inr (.inr (.inr (.inl ⟨e, by have : (n.texts.length : Int) = 1 := hl e rfl; omega⟩))))
    · exact .inr (.inr (.inr (.inr (.inr ⟨e, List.eq_nil_of_length_eq_zero (by have : (n.texts.length : Int) = 0 := hl e rfl; omega)⟩))))
theorem one_text {l : List ByteArray} (h : l.length = 1) : l = [str l 0] := by
  match l, h with
  | [x], _ => rfl
theorem upK_texts {n : Node} (h : nodeT oldTab n = 0) (b : Int) (q : List Int) : (∀ x ∈ n.texts, x ∈ (nd (upK n b q) 0).texts) ∧ ∀ j, j < upLen n → ∀ x ∈ (nd (upK n b q) j).texts, x ∈ [ByteArray.empty, sansB] ++ n.texts := by
  have hul := upK_len n b q
  rcases typed_texts h with ⟨e, ht⟩ | ⟨e, ht⟩ | ⟨e, ht⟩ | ⟨e, ht⟩ | ⟨e, ht⟩ | ⟨e, ht⟩
  · have hu : upK n b q = [⟨1, [], [ByteArray.empty], q⟩] := by unfold upK; rw [e]; rfl
    rw [hu] at hul ⊢
    rw [ht]
    refine ⟨fun x hx => by simp at hx, fun j hj x hx => ?_⟩
    obtain rfl : j = 0 := by rw [← hul] at hj; simp at hj; omega
    have hx' : x ∈ [ByteArray.empty] := hx
    rw [List.mem_singleton.1 hx']; simp
  · have hu : upK n b q = [⟨2, n.ints.take 3, [], [b]⟩, ⟨8, [rd n.ints 3, rd n.ints 3, rd n.ints 3], [], q⟩] := by unfold upK; rw [e]; rfl
    rw [hu] at hul ⊢
    rw [ht]
    refine ⟨fun x hx => by simp at hx, fun j hj x hx => ?_⟩
    have h2 : j = 0 ∨ j = 1 := by rw [← hul] at hj; simp at hj; omega
    rcases h2 with rfl | rfl
    · have hx' : x ∈ ([] : List ByteArray) := hx
      simp at hx'
    · have hx' : x ∈ ([] : List ByteArray) := hx
      simp at hx'
  · have hu : upK n b q = [⟨3, [rd n.ints 0, rd n.ints 0, rd n.ints 0], n.texts, q⟩] := by unfold upK; rw [e]; rfl
    rw [hu] at hul ⊢
    refine ⟨fun x hx => hx, fun j hj x hx => ?_⟩
    obtain rfl : j = 0 := by rw [← hul] at hj; simp at hj; omega
    exact List.mem_append_right _ hx
  · have hu : upK n b q = [⟨4, n.ints, n.texts, q⟩] := by unfold upK; rw [e]; rfl
    rw [hu] at hul ⊢
    refine ⟨fun x hx => hx, fun j hj x hx => ?_⟩
    obtain rfl : j = 0 := by rw [← hul] at hj; simp at hj; omega
    exact List.mem_append_right _ hx
  · have hu : upK n b q = [⟨5, [65536], [str n.texts 0, sansB], q⟩] := by unfold upK; rw [e]; rfl
    rw [hu] at hul ⊢
    have h1 := one_text ht
    refine ⟨fun x hx => ?_, fun j hj x hx => ?_⟩
    · rw [h1] at hx
      show x ∈ [str n.texts 0, sansB]
      rw [List.mem_singleton.1 hx]; simp
    · obtain rfl : j = 0 := by rw [← hul] at hj; simp at hj; omega
      have hx' : x ∈ [str n.texts 0, sansB] := hx
      rcases List.mem_cons.1 hx' with rfl | hx'
      · refine List.mem_append_right _ ?_
        rw [h1]
        show str n.texts 0 ∈ [str n.texts 0]
        simp
      · rw [List.mem_singleton.1 hx']; simp
  · have hu : upK n b q = [⟨7, [rd n.ints 0, rd n.ints 0, rd n.ints 0, 1], [], q⟩] := by unfold upK; rw [e]; rfl
    rw [hu] at hul ⊢
    rw [ht]
    refine ⟨fun x hx => by simp at hx, fun j hj x hx => ?_⟩
    obtain rfl : j = 0 := by rw [← hul] at hj; simp at hj; omega
    have hx' : x ∈ ([] : List ByteArray) := hx
    simp at hx'
theorem upS_texs {s : Scene} (hty : ∀ i : Nat, i < s.nodes.length → nodeT oldTab (nd s.nodes i) = 0) : (∀ x ∈ texs s.nodes, x ∈ texs (upS s).nodes) ∧ ∀ x ∈ texs (upS s).nodes, x ∈ [ByteArray.empty, sansB] ++ texs s.nodes := by
  have hlen : (upS s).nodes.length = pos s.nodes s.nodes.length := U_len _
  refine ⟨fun x hx => ?_, fun x hx => ?_⟩
  · obtain ⟨p, hp, hx⟩ := mem_texs.1 hx
    refine mem_texs.2 ⟨pos s.nodes p + 0, by rw [hlen]; exact up_pos_lt s.nodes hp (upLen_pos _), ?_⟩
    show x ∈ (nd (mix s.nodes s.nodes.length s.nodes.length) (pos s.nodes p + 0)).texts
    rw [nd_mix s.nodes _ _ p 0 hp (Nat.le_refl _) (upLen_pos _)]
    exact (upK_texts (hty p hp) _ _).1 x hx
  · obtain ⟨y, hy, hx⟩ := mem_texs.1 hx
    obtain ⟨p, j, hp, hj, rfl⟩ := pos_find s.nodes s.nodes.length y (by omega)
    have hx' : x ∈ (nd (mix s.nodes s.nodes.length s.nodes.length) (pos s.nodes p + j)).texts := hx
    rw [nd_mix s.nodes _ _ p j hp (Nat.le_refl _) hj] at hx'
    rcases List.mem_append.1 ((upK_texts (hty p hp) _ _).2 j hj x hx') with h | h
    · exact List.mem_append_left _ h
    · exact List.mem_append_right _ (mem_texs.2 ⟨p, hp, h⟩)
theorem upRes_text {s : Scene} (hty : (typedS oldTab s.nodes).1 = 0) (htn : ∀ i : Nat, i < s.nodes.length → nodeT oldTab (nd s.nodes i) = 0) (hr : Right s) : textSum s.nodes ≤ textSum (upRes s).nodes ∧ textSum (upRes s).nodes ≤ textSum s.nodes + 4 := by
  have hu := upS_right hr
  have hres : (upRes s).nodes = canonL (upS s) := by
    unfold upRes canonR
    rw [if_pos hty, if_pos (gcheck_right.2 hr), if_pos (gcheck_right.2 hu)]
  obtain ⟨h1, h2⟩ := upS_texs htn
  rw [hres]
  refine ⟨?_, ?_⟩
  · have := textSum_le (ns := s.nodes) (ms := canonL (upS s)) (extra := []) (fun x hx => by rw [List.nil_append]; exact (canon_texs hu).2 (h1 x hx))
    have e : szs [] = 0 := rfl
    omega
  · have := textSum_le (ns := canonL (upS s)) (ms := s.nodes) (extra := [ByteArray.empty, sansB]) (fun x hx => h2 x ((canon_texs hu).1 hx))
    have e : szs [ByteArray.empty, sansB] = 4 := rfl
    omega
end Go.Proofs.YtglfebpgdghlfaaDoor.L
end
section
namespace Go.Proofs.YtglfebpgdghlfaaDoor.L
open Go.RowKit Go.ChangeShapes Go.WideShapes Go.Proofs.YtglfebpgdghlfaaDoorW.PrintWords Go.Proofs.YtglfebpgdghlfaaDoorW.PrintLast Go.Proofs.YtglfebpgdghlfaaDoorW.PrintMore
attribute [local go_sem] max2_int min2_int max_two min_two max_three min_three max_four min_four
theorem texs_le {b : Nat} : ∀ ns : List Node, (∀ n ∈ ns, n.texts.length ≤ b) → (texs ns).length ≤ ns.length * b
  | [], _ => by simp [texs]
  | n :: ns, h => by
    have h1 := texs_le ns (fun y hy => h y (by simp [hy]))
    have h2 := h n (by simp)
    have h3 : texs (n :: ns) = n.texts ++ texs ns := rfl
    rw [h3, List.length_append, List.length_cons, Nat.succ_mul]
    omega
theorem mem_nd {ns : List Node} {n : Node} (h : n ∈ ns) : ∃ i : Nat, i < ns.length ∧ n = nd ns i := by
  obtain ⟨i, hi, e⟩ := List.getElem_of_mem h
  refine ⟨i, hi, ?_⟩
  unfold nd
  rw [List.getD_eq_getElem?_getD, List.getElem?_eq_getElem hi]
  exact e.symm
theorem texs_small {ns : List Node} (h : ∀ i : Nat, i < ns.length → TextsSmall (nd ns i)) : ∀ x ∈ texs ns, x.size ≤ 1000000 := by
  intro x hx
  obtain ⟨p, hp, hx⟩ := mem_texs.1 hx
  obtain ⟨j, hj, e⟩ := List.getElem_of_mem hx
  have := h p hp j hj
  have e2 : str (nd ns p).texts j = x := by unfold str; rw [List.getD_eq_getElem?_getD, List.getElem?_eq_getElem hj]; exact e
  rwa [e2] at this
theorem r18_kids_le {s : Scene} (hK : ∀ i : Nat, i < s.nodes.length → (nd s.nodes i).kids.length ≤ 300) : ∀ x : Nat, x < (r18S s).nodes.length → (nd (r18S s).nodes x).kids.length ≤ 300 := by
  intro x hx
  have hlen : (r18S s).nodes.length = s.nodes.length + cnt s.nodes s.nodes.length := r18_len _ _
  obtain ⟨p, j, hp, hj, rfl⟩ := r_find s.nodes (x := x) (by omega)
  have h1 := r18_kids s.nodes hp hj
  unfold kids at h1
  rw [Int.toNat_natCast] at h1
  show (nd (r18 s.nodes s.nodes.length) (rpos s.nodes p j)).kids.length ≤ 300
  rw [h1]
  split
  · simp
  · exact hK p hp
theorem upRes_len {s : Scene} (hty : (typedS oldTab s.nodes).1 = 0) (hr : Right s) : (upRes s).nodes.length ≤ 2 * s.nodes.length := by
  have hu := upS_right hr
  have hres : (upRes s).nodes = canonL (upS s) := by
    unfold upRes canonR
    rw [if_pos hty, if_pos (gcheck_right.2 hr), if_pos (gcheck_right.2 hu)]
  rw [hres]
  unfold canonL
  rw [List.length_map, ord_len hu]
  have h1 : (upS s).nodes.length = pos s.nodes s.nodes.length := U_len _
  rw [h1]
  exact pos_le _ _
theorem upRes_kids {s : Scene} (hty : (typedS oldTab s.nodes).1 = 0) (hr : Right s) (hK : ∀ i : Nat, i < s.nodes.length → (nd s.nodes i).kids.length ≤ 300) : ∀ i : Nat, i < (upRes s).nodes.length → (nd (upRes s).nodes i).kids.length ≤ 300 := by
  rw [(up_is_ref hty hr).2]
  intro i hi
  obtain ⟨_, hd, hp⟩ := r18_canon hr
  have hm : nd (refRes s).nodes i ∈ canonL (r18S s) := nd_mem _ i hi
  generalize nd (refRes s).nodes i = x at hm
  obtain ⟨a, ha, rfl⟩ := List.mem_map.1 hm
  have hpl := (ord_met' hd hp).shut.pl a ha
  have h1 := r18_kids_le hK a.toNat (by have := hpl.1; have := hpl.2; omega)
  show ((nd (r18S s).nodes a.toNat).kids.map _).length ≤ 300
  rw [List.length_map]; exact h1
theorem upRes_texs {s : Scene} (hty : (typedS oldTab s.nodes).1 = 0) (htn : ∀ i : Nat, i < s.nodes.length → nodeT oldTab (nd s.nodes i) = 0) (hr : Right s) : ∀ x ∈ texs (upRes s).nodes, x ∈ [ByteArray.empty, sansB] ++ texs s.nodes := by
  have hu := upS_right hr
  have hres : (upRes s).nodes = canonL (upS s) := by
    unfold upRes canonR
    rw [if_pos hty, if_pos (gcheck_right.2 hr), if_pos (gcheck_right.2 hu)]
  rw [hres]
  exact fun x hx => (upS_texs htn).2 x ((canon_texs hu).1 hx)
theorem upRes_sizes {s : Scene} (hty : (typedS oldTab s.nodes).1 = 0) (hr : Right s) (hg : greatS s = false) :
    rows (upRes s).nodes ≤ 400000 ∧ (∀ x ∈ texs (upRes s).nodes, x.size ≤ 1000000) ∧ (texs (upRes s).nodes).length ≤ 1000000000 := by
  obtain ⟨hn, hS, hTS, hK⟩ := greatS_small hg
  have hl := upRes_len hty hr
  have hsm : ∀ i : Nat, i < (upRes s).nodes.length → Small (nd (upRes s).nodes i) := by
    rw [(up_is_ref hty hr).2]; exact refRes_small hr hS
  refine ⟨?_, ?_, ?_⟩
  · have h1 := rows_le (upRes_kids hty hr hK)
    have h2 : (upRes s).nodes.length * (300 + 1) ≤ 120 * 301 := Nat.mul_le_mul (by omega) (by omega)
    omega
  · intro x hx
    rcases List.mem_append.1 (upRes_texs hty (typedS_all hty) hr x hx) with h | h
    · simp at h
      rcases h with rfl | rfl
      · exact Nat.zero_le _
      · show 4 ≤ 1000000; omega
    · exact texs_small hTS x h
  · have h1 := texs_le (b := 1000000) (upRes s).nodes (fun n hn => by
      obtain ⟨i, hi, rfl⟩ := mem_nd hn
      exact (hsm i hi).2.1)
    have h2 : (upRes s).nodes.length * 1000000 ≤ 120 * 1000000 := Nat.mul_le_mul (by omega) (by omega)
    omega
theorem own_sizes {s : Scene} (hg : greatS s = false) : rows s.nodes ≤ 130000 ∧ (∀ x ∈ texs s.nodes, x.size ≤ 1000000) ∧ (texs s.nodes).length ≤ 1000000000 := by
  obtain ⟨hn, hS, hTS, hK⟩ := greatS_small hg
  refine ⟨?_, texs_small hTS, ?_⟩
  · have h1 := rows_le hK
    have h2 : s.nodes.length * (300 + 1) ≤ 60 * 301 := Nat.mul_le_mul (by omega) (by omega)
    omega
  · have h1 := texs_le (b := 1000000) s.nodes (fun n hn => by
      obtain ⟨i, hi, rfl⟩ := mem_nd hn
      exact (hS i hi).2.1)
    have h2 : s.nodes.length * 1000000 ≤ 60 * 1000000 := Nat.mul_le_mul (by omega) (by omega)
    omega
end Go.Proofs.YtglfebpgdghlfaaDoor.L
end
section
namespace Go.Proofs.YtglfebpgdghlfaaDoor.L
open Go.RowKit Go.ChangeShapes Go.WideShapes Go.Proofs.YtglfebpgdghlfaaDoorW.PrintWords Go.Proofs.YtglfebpgdghlfaaDoorW.PrintLast Go.Proofs.YtglfebpgdghlfaaDoorW.PrintMore
attribute [local go_sem] max2_int min2_int max_two min_two max_three min_three max_four min_four
set_option maxRecDepth 100000 in
set_option maxHeartbeats 2000000 in
theorem gedges_any (A : Option Addr) (c : Nat) (s : Scene) (w : World) (h : kNode.C w A s.nodes.length s.nodes) :
    Calls Tryd.prog 51 #[.agg #[.slice A s.nodes.length c, .int .i64 s.root]] w fun e w' => e = .returned (.int .i64 (edgesW s.nodes)) ∧ Below w.heap.size w w' := by
  have HR := Aside0.mk h
  have b0 := h.2.1
  have HB := Aside0.mk (below_alloc (Below.refl w.heap.size w) (.cells #[.slice A s.nodes.length c, .int .i64 s.root] 39))
  have k0 := box_cell w _ rfl #[.slice A s.nodes.length c, .int .i64 s.root] 39 0 (.slice A s.nodes.length c) rfl
  have hu := Tryd.underlying39
  have hun := Tryd.underlying26
  clear h
  go_enter Tryd.func51, Tryd.ntmps51
  go_wp2
  clear k0
  go_loopw [9, 3] (fun v9 v3 W => ∃ i : Nat, i ≤ s.nodes.length ∧ v9 = .int .i64 i ∧ v3 = .int .i64 (edgesTo s.nodes i) ∧ Aside0 (Below w.heap.size w W)) (fun v9 _ _ => s.nodes.length - (intOf v9).toNat)
  case atStart => exact ⟨0, by omega, rfl, rfl, HB⟩
  case round =>
    clear HB
    obtain ⟨i, hi, rfl, rfl, HW⟩ := hrel
    by_cases hlt : i < s.nodes.length
    · obtain ⟨adn, A1, c1, A2, c2, A3, c3, rfl, x0, x1, x2, x3, hN⟩ := at_node HR.out i hlt
      replace x0 := pw_cell_below HW.out x0
      replace x1 := pw_cell_below HW.out x1
      replace x2 := pw_cell_below HW.out x2
      replace x3 := pw_cell_below HW.out x3
      have y3 := box_cell wr _ rfl #[.int .i64 (nd s.nodes i).kind, .slice A1 (nd s.nodes i).ints.length c1, .slice A2 (nd s.nodes i).texts.length c2, .slice A3 (nd s.nodes i).kids.length c3] 26 3 (.slice A3 (nd s.nodes i).kids.length c3) rfl
      have HE := Aside0.mk (show edgesTo s.nodes (i + 1) = IntKind.i64.wrap (edgesTo s.nodes i + ((nd s.nodes i).kids.length : Int)) from rfl)
      have HW2 := Aside0.mk (below_alloc HW.out (.cells #[.int .i64 (nd s.nodes i).kind, .slice A1 (nd s.nodes i).ints.length c1, .slice A2 (nd s.nodes i).texts.length c2, .slice A3 (nd s.nodes i).kids.length c3] 26))
      clear hN
      generalize edgesTo s.nodes i = a at HE ⊢
      go_wp2
      go_roundw
      case rel => exact ⟨i + 1, by omega, by go_num, by rw [HE.out, i64_w], HW2⟩
      case measure => simp [intOf]; omega
    · obtain rfl : i = s.nodes.length := by omega
      go_wp2
      go_ret
      exact ⟨rfl, HW.out⟩
noncomputable def rightB (s : Scene) : Bool := (gcheck s).1 == 0
set_option maxRecDepth 100000 in
theorem rright_any (A : Option Addr) (c : Nat) (s : Scene) (w : World) (h : kNode.C w A s.nodes.length s.nodes) (hc : s.nodes.length ≤ c) (hM : rows s.nodes ≤ 1000000) :
    Calls Tryd.prog 50 #[.agg #[.slice A s.nodes.length c, .int .i64 s.root]] w fun e w' => e = .returned (.bool (rightB s)) ∧ Below w.heap.size w w' := by
  have HR := Aside0.mk h
  have HB := Aside0.mk (below_alloc (Below.refl w.heap.size w) (.cells #[.slice A s.nodes.length c, .int .i64 s.root] 39))
  have k0 := box_cell w _ rfl #[.slice A s.nodes.length c, .int .i64 s.root] 39 0 (.slice A s.nodes.length c) rfl
  have k1 := box_cell w _ rfl #[.slice A s.nodes.length c, .int .i64 s.root] 39 1 (.int .i64 s.root) rfl
  have hu := Tryd.underlying39
  have HE := Aside0.mk (show rightB s = ((gcheck s).1 == 0) from rfl)
  clear h
  go_enter Tryd.func50, Tryd.ntmps50
  go_wp2_with fail
  refine (rchk_any A c s _ (Kd.C_below HR.out HB.out) hc hM).mono ?_
  rintro e w1 ⟨rfl, hB1⟩
  have HB1 := Aside0.mk (below_step HB.out hB1)
  clear hB1 k0 k1
  generalize (gcheck s).1 = g at HE ⊢
  generalize (gcheck s).2 = g2
  go_wp2
  go_ret
  exact ⟨ret_bool HE.out.symm, HB1.out⟩
noncomputable def whole1 (s : Scene) : Bool := (typedS oldTab s.nodes).1 == 0 && rightB s
set_option maxRecDepth 100000 in
set_option maxHeartbeats 1000000 in
theorem rwhole_1 (A : Option Addr) (c : Nat) (s : Scene) (w : World) (h : kNode.C w A s.nodes.length s.nodes) (hc : s.nodes.length ≤ c) (hS : ∀ i : Nat, i < s.nodes.length → Small (nd s.nodes i)) (hTS : ∀ i : Nat, i < s.nodes.length → TextsSmall (nd s.nodes i)) (hM : rows s.nodes ≤ 1000000) :
    Calls Tryd.prog 25 #[.agg #[.slice A s.nodes.length c, .int .i64 s.root], .int .i64 1] w fun e w' => e = .returned (.bool (whole1 s)) ∧ Below w.heap.size w w' := by
  have HR := Aside0.mk h
  have HB := Aside0.mk (below_alloc (Below.refl w.heap.size w) (.cells #[.slice A s.nodes.length c, .int .i64 s.root] 39))
  have k0 := box_cell w _ rfl #[.slice A s.nodes.length c, .int .i64 s.root] 39 0 (.slice A s.nodes.length c) rfl
  have k1 := box_cell w _ rfl #[.slice A s.nodes.length c, .int .i64 s.root] 39 1 (.int .i64 s.root) rfl
  have hu := Tryd.underlying39
  clear h
  go_enter Tryd.func25, Tryd.ntmps25
  go_wp2_with fail
  refine (rtyped_1 A c s _ (Kd.C_below HR.out HB.out) hS hTS).mono ?_
  rintro e w1 ⟨rfl, hB1⟩
  replace k0 := pw_cell_below hB1 k0
  replace k1 := pw_cell_below hB1 k1
  have HB1 := Aside0.mk (below_step HB.out hB1)
  clear hB1
  by_cases hty : (typedS oldTab s.nodes).1 = 0
  · have HE : Aside0 (whole1 s = rightB s) := ⟨by unfold whole1; rw [hty]; rfl⟩
    rw [hty]
    clear hty
    go_wp2_with fail
    refine (rright_any A c s _ (Kd.C_below HR.out HB1.out) hc hM).mono ?_
    rintro e w2 ⟨rfl, hB2⟩
    have HB2 := Aside0.mk (below_step HB1.out hB2)
    clear hB2 k0 k1
    go_wp2
    go_ret
    exact ⟨ret_bool HE.out.symm, HB2.out⟩
  · have HE : Aside0 (whole1 s = false) := ⟨by unfold whole1; rw [beq_eq_false_iff_ne.2 hty]; rfl⟩
    have d1 : ((typedS oldTab s.nodes).1 == 0) = false := beq_eq_false_iff_ne.2 hty
    clear hty k0 k1
    go_wp2
    go_ret
    exact ⟨ret_bool HE.out.symm, HB1.out⟩
end Go.Proofs.YtglfebpgdghlfaaDoor.L
end
section
namespace Go.Proofs.YtglfebpgdghlfaaDoor.L
open Go.RowKit Go.ChangeShapes Go.WideShapes Go.Proofs.YtglfebpgdghlfaaDoorW.PrintWords Go.Proofs.YtglfebpgdghlfaaDoorW.PrintLast Go.Proofs.YtglfebpgdghlfaaDoorW.PrintMore
attribute [local go_sem] max2_int min2_int max_two min_two max_three min_three max_four min_four
theorem keyS : Maps.Keyed Tryd.prog 9 := Maps.string_keyed Tryd.underlying9
theorem keyS_of {s : ByteArray} (h : s.size ≤ maxLen) : keyOf Tryd.prog 9 (.string s) = some (.string s.data.toList) := Go.WideMaps.keyOf_string_mk Tryd.underlying9 h
theorem str_inj {a b : ByteArray} (h : Lit.string a.data.toList = Lit.string b.data.toList) : a = b := by
  injection h with h
  cases a; cases b
  simp only at h
  rw [Array.toList_inj.1 h]
open Classical in
noncomputable def visS (vs : List ByteArray) : Lit → Option Value := fun q => if ∃ k ∈ vs, q = .string k.data.toList then some (.bool true) else none
theorem visS_nil : visS [] = fun _ => none := by
  funext q
  unfold visS
  rw [if_neg (fun ⟨k, hk, _⟩ => by simp at hk)]
theorem visS_put (vs : List ByteArray) (x : ByteArray) : putF (visS vs) (.string x.data.toList) (.bool true) = visS (x :: vs) := by
  funext q
  unfold putF visS
  by_cases hq : q = .string x.data.toList
  · rw [if_pos hq, if_pos ⟨x, by simp, hq⟩]
  · rw [if_neg hq]
    by_cases h : ∃ k ∈ vs, q = .string k.data.toList
    · obtain ⟨k, hk, e⟩ := h
      rw [if_pos ⟨k, hk, e⟩, if_pos ⟨k, by simp [hk], e⟩]
    · rw [if_neg h, if_neg (fun ⟨k, hk, e⟩ => by
        rcases List.mem_cons.1 hk with rfl | hk
        · exact hq e
        · exact h ⟨k, hk, e⟩)]
theorem visS_in {vs : List ByteArray} {x : ByteArray} (h : x ∈ vs) : (visS vs (.string x.data.toList)).getD (.bool false) = .bool true := by unfold visS; rw [if_pos ⟨x, h, rfl⟩]; rfl
theorem visS_out {vs : List ByteArray} {x : ByteArray} (h : ¬ x ∈ vs) : (visS vs (.string x.data.toList)).getD (.bool false) = .bool false := by
  unfold visS
  rw [if_neg (fun ⟨k, hk, e⟩ => h (by rw [str_inj e]; exact hk))]; rfl
theorem box5 {W : World} {b : Nat} {x0 x1 x2 x3 x4 : Value} {T : TypeId} (h : W.heap[b]? = some (.cells #[x0, x1, x2, x3, x4] T (0, 0))) (u0 u1 u2 u3 u4 : Value) : (((((W.setCell ⟨b, 0, none⟩ u0).setCell ⟨b, 1, none⟩ u1).setCell ⟨b, 2, none⟩ u2).setCell ⟨b, 3, none⟩ u3).setCell ⟨b, 4, none⟩ u4).heap[b]? = some (.cells #[u0, u1, u2, u3, u4] T (0, 0)) := by
  have := blk_set (blk_set (blk_set (blk_set (blk_set h 0 u0) 1 u1) 2 u2) 3 u3) 4 u4
  simpa using this
theorem below_set5 {B b : Nat} {w W : World} {u0 u1 u2 u3 u4 : Value} (h : Below B w W) (hb : B ≤ b) : Below B w (((((W.setCell ⟨b, 0, none⟩ u0).setCell ⟨b, 1, none⟩ u1).setCell ⟨b, 2, none⟩ u2).setCell ⟨b, 3, none⟩ u3).setCell ⟨b, 4, none⟩ u4) :=
  ((((h.setCell (p := ⟨b, 0, none⟩) hb u0).setCell (p := ⟨b, 1, none⟩) hb u1).setCell (p := ⟨b, 2, none⟩) hb u2).setCell (p := ⟨b, 3, none⟩) hb u3).setCell (p := ⟨b, 4, none⟩) hb u4
structure MsRel (s : Scene) (w : World) (g mb : Nat) (pl : List ByteArray) (W : World) : Prop where
  map : MapF Tryd.prog 9 W mb pl.length (visS (meas pl).1)
  m : W.heap[g]? = some (.cells #[.int .i64 0, .int .i64 (s.nodes.length : Int), .int .i64 (edgesW s.nodes), .int .i64 (depthS s), .int .i64 ((meas pl).2 : Int)] 50 (0, 0))
  res : W.heap[w.heap.size + 1]? = some (.cells #[.int .i64 0, .int .i64 0, .int .i64 0, .int .i64 0, .int .i64 0] 50 (0, 0))
  ge : w.heap.size + 1 < g
  mge : w.heap.size ≤ mb
  below : Below w.heap.size w W
theorem MsRel.later {s : Scene} {w : World} {g mb : Nat} {pl : List ByteArray} {W W1 : World} (h : MsRel s w g mb pl W) (hb : Below W.heap.size W W1) : MsRel s w g mb pl W1 :=
  ⟨h.map.below hb, (hb.block _ (blk_lt h.m)).trans h.m, (hb.block _ (blk_lt h.res)).trans h.res, h.ge, h.mge, below_step h.below hb⟩
theorem MsRel.had {s : Scene} {w : World} {g mb : Nat} {pl : List ByteArray} {W : World} {t : ByteArray} (h : MsRel s w g mb pl W) (ht : t ∈ (meas pl).1) : MsRel s w g mb (pl ++ [t]) W := by
  have e : meas (pl ++ [t]) = meas pl := by rw [meas_snoc]; unfold mstep; rw [if_pos ht]
  exact ⟨by rw [e]; exact h.map.mono (by simp), by rw [e]; exact h.m, h.res, h.ge, h.mge, h.below⟩
theorem MsRel.new {s : Scene} {w : World} {g mb : Nat} {pl : List ByteArray} {W W2 : World} {t : ByteArray} (h : MsRel s w g mb pl W) (ht : ¬ t ∈ (meas pl).1) (hM : MapF Tryd.prog 9 W2 mb (pl.length + 1) (putF (visS (meas pl).1) (.string t.data.toList) (.bool true))) (hg : W.grownBy W2 (some mb)) :
    W2.heap[g]? = some (.cells #[.int .i64 0, .int .i64 (s.nodes.length : Int), .int .i64 (edgesW s.nodes), .int .i64 (depthS s), .int .i64 ((meas pl).2 : Int)] 50 (0, 0)) ∧ MsRel s w g mb (pl ++ [t]) (W2.setCell ⟨g, 4, none⟩ (.int .i64 (((meas pl).2 : Int) + (t.size : Int)))) := by
  have e : meas (pl ++ [t]) = (t :: (meas pl).1, (meas pl).2 + t.size) := by rw [meas_snoc]; unfold mstep; rw [if_neg ht]
  have hne : g ≠ mb := fun he => h.map.not_cells (by rw [← he]; exact h.m)
  have hnr : w.heap.size + 1 ≠ mb := fun he => h.map.not_cells (by rw [← he]; exact h.res)
  have hm := blk_grown h.m hg (fun he => hne (by injection he))
  have hr := blk_grown h.res hg (fun he => hnr (by injection he))
  have hB : Below w.heap.size w W2 := h.below.grown hg h.below.size (fun q hq => by injection hq with hq; have := h.mge; omega)
  refine ⟨hm, ?_, ?_, ?_, h.ge, h.mge, ?_⟩
  · rw [e, List.length_append, List.length_singleton]
    show MapF _ _ _ _ _ (visS (t :: (meas pl).1))
    rw [← visS_put]
    exact hM.setCell (a := ⟨g, 4, none⟩) (fun he => hne he.symm) _
  · rw [e]
    have := blk_set hm 4 (.int .i64 (((meas pl).2 : Int) + (t.size : Int)))
    simpa using this
  · exact (Below.heap_setCell W2 ⟨g, 4, none⟩ _ _ (by show w.heap.size + 1 ≠ g; have := h.ge; omega)).trans hr
  · exact hB.setCell (p := ⟨g, 4, none⟩) (by show w.heap.size ≤ g; have := h.ge; omega) _
theorem meas_bound {l : List ByteArray} (h : ∀ x ∈ l, x.size ≤ 1000000) : (meas l).2 ≤ l.length * 1000000 := by
  have hi := meas_inv l
  rw [hi.sum]
  have key : ∀ v : List ByteArray, (∀ x ∈ v, x.size ≤ 1000000) → szs v ≤ v.length * 1000000 := fun v => by
    induction v with
    | nil => intro _; exact Nat.zero_le _
    | cons x v ih =>
      intro hv
      have h1 := ih (fun y hy => hv y (by simp [hy]))
      have h2 := hv x (by simp)
      unfold szs at h1 ⊢
      rw [List.map_cons, List.sum_cons, List.length_cons, Nat.succ_mul]
      omega
  have h1 := key (meas l).1 (fun x hx => h x ((hi.mem x).1 hx))
  exact Nat.le_trans h1 (Nat.mul_le_mul_right 1000000 hi.len)
theorem texs_succ (ns : List Node) (i : Nat) (hi : i < ns.length) : texs (ns.take (i + 1)) = texs (ns.take i) ++ (nd ns i).texts := by
  rw [List.take_succ_eq_append_getElem hi]
  unfold texs
  rw [List.flatMap_append]
  have : nd ns i = ns[i] := by unfold nd; rw [List.getD_eq_getElem?_getD, List.getElem?_eq_getElem hi]; rfl
  rw [this]
  simp
theorem texs_pre (ns : List Node) (i j : Nat) (hi : i < ns.length) : ∃ r, texs ns = (texs (ns.take i) ++ (nd ns i).texts.take j) ++ r := by
  refine ⟨(nd ns i).texts.drop j ++ texs (ns.drop (i + 1)), ?_⟩
  have h1 : texs ns = texs (ns.take (i + 1)) ++ texs (ns.drop (i + 1)) := by
    unfold texs
    rw [← List.flatMap_append, List.take_append_drop]
  rw [h1, texs_succ ns i hi]
  have h2 := (List.take_append_drop j (nd ns i).texts).symm
  generalize (nd ns i).texts.take j = u at h2 ⊢
  generalize (nd ns i).texts.drop j = v at h2 ⊢
  rw [h2]
  simp only [List.append_assoc]
theorem take_str (l : List ByteArray) (j : Nat) (h : j < l.length) : l.take (j + 1) = l.take j ++ [str l j] := by
  rw [List.take_succ_eq_append_getElem h]
  have : str l j = l[j] := by unfold str; rw [List.getD_eq_getElem?_getD, List.getElem?_eq_getElem h]; rfl
  rw [this]
theorem set5_far {W : World} {b k : Nat} (h : k ≠ b) (u0 u1 u2 u3 u4 : Value) : (((((W.setCell ⟨b, 0, none⟩ u0).setCell ⟨b, 1, none⟩ u1).setCell ⟨b, 2, none⟩ u2).setCell ⟨b, 3, none⟩ u3).setCell ⟨b, 4, none⟩ u4).heap[k]? = W.heap[k]? := by
  rw [Below.heap_setCell _ ⟨b, 4, none⟩ u4 k h, Below.heap_setCell _ ⟨b, 3, none⟩ u3 k h, Below.heap_setCell _ ⟨b, 2, none⟩ u2 k h, Below.heap_setCell _ ⟨b, 1, none⟩ u1 k h, Below.heap_setCell _ ⟨b, 0, none⟩ u0 k h]
structure MsHead (s : Scene) (w : World) (A : Option Addr) (c g : Nat) (W : World) : Prop where
  m : W.heap[g]? = some (.cells #[.int .i64 0, .int .i64 (s.nodes.length : Int), .int .i64 (edgesW s.nodes), .int .i64 (depthS s), .int .i64 0] 50 (0, 0))
  res : W.heap[w.heap.size + 1]? = some (.cells #[.int .i64 0, .int .i64 0, .int .i64 0, .int .i64 0, .int .i64 0] 50 (0, 0))
  box : W.cell? ⟨w.heap.size, 0, none⟩ = some (.slice A s.nodes.length c)
  ge : w.heap.size + 1 < g
  below : Below w.heap.size w W
theorem MsHead.alloc {s : Scene} {w : World} {A : Option Addr} {c : Nat} {W : World} (hres : W.heap[w.heap.size + 1]? = some (.cells #[.int .i64 0, .int .i64 0, .int .i64 0, .int .i64 0, .int .i64 0] 50 (0, 0))) (hbox : W.cell? ⟨w.heap.size, 0, none⟩ = some (.slice A s.nodes.length c)) (hB : Below w.heap.size w W) :
    MsHead s w A c W.heap.size (W.alloc (.cells #[.int .i64 0, .int .i64 (s.nodes.length : Int), .int .i64 (edgesW s.nodes), .int .i64 (depthS s), .int .i64 0] 50)) := by
  have hA := below_alloc (Below.refl W.heap.size W) (.cells #[.int .i64 0, .int .i64 (s.nodes.length : Int), .int .i64 (edgesW s.nodes), .int .i64 (depthS s), .int .i64 0] 50)
  exact ⟨by simpa using heap_alloc_new W _, (hA.block _ (blk_lt hres)).trans hres, pw_cell_below hA hbox, blk_lt hres, below_step hB hA⟩
theorem MsHead.store {s : Scene} {w : World} {A : Option Addr} {c g : Nat} {W : World} {x0 x1 x2 x3 x4 : Value} (hm : W.heap[g]? = some (.cells #[x0, x1, x2, x3, x4] 50 (0, 0))) (hg : w.heap.size + 1 < g) (hres : W.heap[w.heap.size + 1]? = some (.cells #[.int .i64 0, .int .i64 0, .int .i64 0, .int .i64 0, .int .i64 0] 50 (0, 0))) (hbox : W.cell? ⟨w.heap.size, 0, none⟩ = some (.slice A s.nodes.length c)) (hB : Below w.heap.size w W) :
    MsHead s w A c g (((((W.setCell ⟨g, 0, none⟩ (.int .i64 0)).setCell ⟨g, 1, none⟩ (.int .i64 (s.nodes.length : Int))).setCell ⟨g, 2, none⟩ (.int .i64 (edgesW s.nodes))).setCell ⟨g, 3, none⟩ (.int .i64 (depthS s))).setCell ⟨g, 4, none⟩ (.int .i64 0)) := by
  have hne : g ≠ (⟨w.heap.size, 0, none⟩ : Addr).block := by show g ≠ w.heap.size; omega
  exact ⟨box5 hm _ _ _ _ _, (set5_far (by omega) _ _ _ _ _).trans hres, far_set (far_set (far_set (far_set (far_set hbox _ _ hne _) _ _ hne _) _ _ hne _) _ _ hne _) _ _ hne _, hg, below_set5 hB (by omega)⟩
theorem MsHead.start {s : Scene} {w : World} {A : Option Addr} {c g : Nat} {W : World} (h : MsHead s w A c g W) : MsRel s w g W.heap.size [] (W.alloc (.map #[] 0)) := by
  have hA := below_alloc (Below.refl W.heap.size W) (.map #[] 0)
  refine ⟨?_, (hA.block _ (blk_lt h.m)).trans h.m, (hA.block _ (blk_lt h.res)).trans h.res, h.ge, h.below.size, below_step h.below hA⟩
  show MapF _ _ _ _ 0 (visS [])
  rw [visS_nil]
  exact MapF.made Tryd.prog 9 W
end Go.Proofs.YtglfebpgdghlfaaDoor.L
end
section
namespace Go.Proofs.YtglfebpgdghlfaaDoor.L
open Go.RowKit Go.ChangeShapes Go.WideShapes Go.Proofs.YtglfebpgdghlfaaDoorW.PrintWords Go.Proofs.YtglfebpgdghlfaaDoorW.PrintLast Go.Proofs.YtglfebpgdghlfaaDoorW.PrintMore
attribute [local go_sem] max2_int min2_int max_two min_two max_three min_three max_four min_four
set_option maxRecDepth 100000 in
set_option maxHeartbeats 16000000 in
theorem measure_any (A : Option Addr) (c : Nat) (s : Scene) (w : World) (h : kNode.C w A s.nodes.length s.nodes) (hM : rows s.nodes ≤ 400000) (hT : ∀ x ∈ texs s.nodes, x.size ≤ 1000000) (hL : (texs s.nodes).length ≤ 1000000000) :
    Calls Tryd.prog 26 #[.agg #[.slice A s.nodes.length c, .int .i64 s.root]] w fun e w' => e = .returned (.agg #[.int .i64 0, .int .i64 (s.nodes.length : Int), .int .i64 (edgesW s.nodes), .int .i64 (depthS s), .int .i64 (textSum s.nodes : Int)]) ∧ Below w.heap.size w w' := by
  have HR := Aside0.mk h
  have HM := Aside0.mk hM
  have HT := Aside0.mk hT
  have HLn := Aside0.mk hL
  have b0 := h.2.1
  have HB := Aside0.mk (below_alloc (below_alloc (Below.refl w.heap.size w) (.cells #[.slice A s.nodes.length c, .int .i64 s.root] 39)) (.cells #[.int .i64 0, .int .i64 0, .int .i64 0, .int .i64 0, .int .i64 0] 50))
  have k0 := box_cell2 w _ rfl #[.slice A s.nodes.length c, .int .i64 s.root] 39 (.cells #[.int .i64 0, .int .i64 0, .int .i64 0, .int .i64 0, .int .i64 0] 50) 0 (.slice A s.nodes.length c) rfl
  have k1 := box_cell2 w _ rfl #[.slice A s.nodes.length c, .int .i64 s.root] 39 (.cells #[.int .i64 0, .int .i64 0, .int .i64 0, .int .i64 0, .int .i64 0] 50) 1 (.int .i64 s.root) rfl
  have HX := Aside0.mk (show ((w.alloc (.cells #[.slice A s.nodes.length c, .int .i64 s.root] 39)).alloc (.cells #[.int .i64 0, .int .i64 0, .int .i64 0, .int .i64 0, .int .i64 0] 50)).heap[w.heap.size + 1]? = some (.cells #[.int .i64 0, .int .i64 0, .int .i64 0, .int .i64 0, .int .i64 0] 50 (0, 0)) from by
    have := heap_alloc_new (w.alloc (.cells #[.slice A s.nodes.length c, .int .i64 s.root] 39)) (.cells #[.int .i64 0, .int .i64 0, .int .i64 0, .int .i64 0, .int .i64 0] 50)
    simpa using this)
  have hu := Tryd.underlying39
  have hul := Tryd.underlying50
  have hun := Tryd.underlying26
  clear h hM hT hL
  go_enter Tryd.func26, Tryd.ntmps26
  go_wp2
  generalize (w.alloc (.cells #[.slice A s.nodes.length c, .int .i64 s.root] 39)).alloc (.cells #[.int .i64 0, .int .i64 0, .int .i64 0, .int .i64 0, .int .i64 0] 50) = W0 at HB HX k0 k1 ⊢
  have HK0 := Aside0.mk k0
  have hzA : (W0.alloc (.cells #[.int .i64 0, .int .i64 0, .int .i64 0, .int .i64 0, .int .i64 0] 50)).drew.heap[W0.heap.size]? = some (.cells #[.int .i64 0, .int .i64 0, .int .i64 0, .int .i64 0, .int .i64 0] 50 (0, 0)) := by
    show (W0.alloc _).heap[W0.heap.size]? = _
    simpa using heap_alloc_new W0 _
  have HZA := Aside0.mk hzA
  have HBA := Aside0.mk (below_drew (below_alloc (Below.refl W0.heap.size W0) (.cells #[.int .i64 0, .int .i64 0, .int .i64 0, .int .i64 0, .int .i64 0] 50)))
  have k0d : W0.drew.cell? ⟨w.heap.size, 0, none⟩ = some (.slice A s.nodes.length c) := k0
  have k1d : W0.drew.cell? ⟨w.heap.size, 1, none⟩ = some (.int .i64 s.root) := k1
  have k0a := pw_cell_below HBA.out k0
  have k1a := pw_cell_below HBA.out k1
  have n0 := World.new_ne W0 _ k0
  clear hzA
  go_region_held3 (fun W => W.cell? ⟨w.heap.size, 0, none⟩ = some (.slice A s.nodes.length c) ∧ W.cell? ⟨w.heap.size, 1, none⟩ = some (.int .i64 s.root))
    (first
      | (go_split_ands
         (repeat' apply And.intro)
         all_goals first
           | with_reducible assumption
           | with_reducible exact pw_cell_below hB (by assumption)
           | with_reducible exact pw_cell_below (below_alloc (Below.refl _ _) _) (by assumption)
           | with_reducible exact pw_cell_below (below_alloc (Below.refl _ _) _) (pw_cell_below hB (by assumption))
           | with_reducible exact far_set (far_set (far_set (far_set (far_set (by assumption) _ _ (by assumption) _) _ _ (by assumption) _) _ _ (by assumption) _) _ _ (by assumption) _) _ _ (by assumption) _
           | (simp [*]; done)))
    (first
      | (go_at_call 51; refine (gedges_any A c s W0.drew (Kd.C_below HR.out (below_drew HB.out))).mono ?_; rintro e w2 ⟨rfl, hB⟩; have HB2 := Aside0.mk (below_step (below_drew HB.out) hB); have HX2 := Aside0.mk ((hB.block _ (blk_lt HX.out)).trans HX.out); have HK2 := Aside0.mk (pw_cell_below hB k0d); have m0 := World.new_ne w2 _ (pw_cell_below hB k0d); have r0 := pw_cell_below hB k0d; have r1 := pw_cell_below hB k1d; have r0a := pw_cell_below (below_alloc (Below.refl w2.heap.size w2) (.cells #[.int .i64 0, .int .i64 0, .int .i64 0, .int .i64 0, .int .i64 0] 50)) r0; have r1a := pw_cell_below (below_alloc (Below.refl w2.heap.size w2) (.cells #[.int .i64 0, .int .i64 0, .int .i64 0, .int .i64 0, .int .i64 0] 50)) r1)
      | (go_at_call 51; refine (gedges_any A c s (W0.alloc (.cells #[.int .i64 0, .int .i64 0, .int .i64 0, .int .i64 0, .int .i64 0] 50)).drew (Kd.C_below HR.out (below_step HB.out HBA.out))).mono ?_; rintro e w2 ⟨rfl, hB⟩; have HB2 := Aside0.mk (below_step (below_step HB.out HBA.out) hB); have HX2 := Aside0.mk ((hB.block _ (blk_lt (show (W0.alloc (.cells #[.int .i64 0, .int .i64 0, .int .i64 0, .int .i64 0, .int .i64 0] 50)).drew.heap[_]? = _ from (HBA.out.block _ (blk_lt HX.out)).trans HX.out))).trans ((HBA.out.block _ (blk_lt HX.out)).trans HX.out)); have HZ2 := Aside0.mk ((hB.block _ (blk_lt HZA.out)).trans HZA.out); have HK2 := Aside0.mk (pw_cell_below hB k0a))
      | (go_at_call 52; refine (depth_any A c s w2 (Kd.C_below HR.out HB2.out) HM.out).mono ?_; rintro e w3 ⟨rfl, hB⟩; have HK3 := Aside0.mk (pw_cell_below hB HK2.out); have HB3 := Aside0.mk (below_step HB2.out hB); have HX3 := Aside0.mk ((hB.block _ (blk_lt HX2.out)).trans HX2.out); have HZ3 := Aside0.mk ((hB.block _ (blk_lt HZ2.out)).trans HZ2.out); have f0 := (blk_cell (HZ3.out) 0).trans rfl; have f0f := blk_frozen (HZ3.out) 0; have f1 := (blk_cell (blk_set (HZ3.out) 0 (.int .i64 0)) 1).trans rfl; have f1f := blk_frozen (blk_set (HZ3.out) 0 (.int .i64 0)) 1; have f2 := (blk_cell (blk_set (blk_set (HZ3.out) 0 (.int .i64 0)) 1 (.int .i64 (s.nodes.length : Int))) 2).trans rfl; have f2f := blk_frozen (blk_set (blk_set (HZ3.out) 0 (.int .i64 0)) 1 (.int .i64 (s.nodes.length : Int))) 2; have f3 := (blk_cell (blk_set (blk_set (blk_set (HZ3.out) 0 (.int .i64 0)) 1 (.int .i64 (s.nodes.length : Int))) 2 (.int .i64 (edgesW s.nodes))) 3).trans rfl; have f3f := blk_frozen (blk_set (blk_set (blk_set (HZ3.out) 0 (.int .i64 0)) 1 (.int .i64 (s.nodes.length : Int))) 2 (.int .i64 (edgesW s.nodes))) 3; have f4 := (blk_cell (blk_set (blk_set (blk_set (blk_set (HZ3.out) 0 (.int .i64 0)) 1 (.int .i64 (s.nodes.length : Int))) 2 (.int .i64 (edgesW s.nodes))) 3 (.int .i64 (depthS s))) 4).trans rfl; have f4f := blk_frozen (blk_set (blk_set (blk_set (blk_set (HZ3.out) 0 (.int .i64 0)) 1 (.int .i64 (s.nodes.length : Int))) 2 (.int .i64 (edgesW s.nodes))) 3 (.int .i64 (depthS s))) 4)
      | (go_at_call 52; refine (depth_any A c s w2 (Kd.C_below HR.out HB2.out) HM.out).mono ?_; rintro e w3 ⟨rfl, hB⟩; have HK3 := Aside0.mk (pw_cell_below hB HK2.out); have HB3 := Aside0.mk (below_step HB2.out hB); have HX3 := Aside0.mk ((hB.block _ (blk_lt HX2.out)).trans HX2.out))
      | (go_at_call 52; refine (depth_any A c s (w2.alloc (.cells #[.int .i64 0, .int .i64 0, .int .i64 0, .int .i64 0, .int .i64 0] 50)) (Kd.C_alloc (Kd.C_below HR.out HB2.out) _) HM.out).mono ?_; rintro e w3 ⟨rfl, hB⟩; have HK3 := Aside0.mk (pw_cell_below hB (pw_cell_below (below_alloc (Below.refl w2.heap.size w2) (.cells #[.int .i64 0, .int .i64 0, .int .i64 0, .int .i64 0, .int .i64 0] 50)) HK2.out)); have HB3 := Aside0.mk (below_step (below_step HB2.out (below_alloc (Below.refl _ _) _)) hB); have HX3 := Aside0.mk ((hB.block _ (blk_lt (show (w2.alloc (.cells #[.int .i64 0, .int .i64 0, .int .i64 0, .int .i64 0, .int .i64 0] 50)).heap[_]? = _ from ((below_alloc (Below.refl w2.heap.size w2) _).block _ (blk_lt HX2.out)).trans HX2.out))).trans (((below_alloc (Below.refl w2.heap.size w2) _).block _ (blk_lt HX2.out)).trans HX2.out)); have HZ3 := Aside0.mk ((hB.block _ (blk_lt (heap_alloc_new w2 (.cells #[.int .i64 0, .int .i64 0, .int .i64 0, .int .i64 0, .int .i64 0] 50)))).trans (heap_alloc_new w2 (.cells #[.int .i64 0, .int .i64 0, .int .i64 0, .int .i64 0, .int .i64 0] 50))); have f0 := (blk_cell (HZ3.out) 0).trans rfl; have f0f := blk_frozen (HZ3.out) 0; have f1 := (blk_cell (blk_set (HZ3.out) 0 (.int .i64 0)) 1).trans rfl; have f1f := blk_frozen (blk_set (HZ3.out) 0 (.int .i64 0)) 1; have f2 := (blk_cell (blk_set (blk_set (HZ3.out) 0 (.int .i64 0)) 1 (.int .i64 (s.nodes.length : Int))) 2).trans rfl; have f2f := blk_frozen (blk_set (blk_set (HZ3.out) 0 (.int .i64 0)) 1 (.int .i64 (s.nodes.length : Int))) 2; have f3 := (blk_cell (blk_set (blk_set (blk_set (HZ3.out) 0 (.int .i64 0)) 1 (.int .i64 (s.nodes.length : Int))) 2 (.int .i64 (edgesW s.nodes))) 3).trans rfl; have f3f := blk_frozen (blk_set (blk_set (blk_set (HZ3.out) 0 (.int .i64 0)) 1 (.int .i64 (s.nodes.length : Int))) 2 (.int .i64 (edgesW s.nodes))) 3; have f4 := (blk_cell (blk_set (blk_set (blk_set (blk_set (HZ3.out) 0 (.int .i64 0)) 1 (.int .i64 (s.nodes.length : Int))) 2 (.int .i64 (edgesW s.nodes))) 3 (.int .i64 (depthS s))) 4).trans rfl; have f4f := blk_frozen (blk_set (blk_set (blk_set (blk_set (HZ3.out) 0 (.int .i64 0)) 1 (.int .i64 (s.nodes.length : Int))) 2 (.int .i64 (edgesW s.nodes))) 3 (.int .i64 (depthS s))) 4))
  have HH := Aside0.mk (MsHead.alloc HX3.out HK3.out HB3.out)
  clear hB r0 r1 r0a r1a m0
  generalize w3.alloc (.cells #[.int .i64 0, .int .i64 (s.nodes.length : Int), .int .i64 (edgesW s.nodes), .int .i64 (depthS s), .int .i64 0] 50) = W5 at HH ⊢
  generalize w3.heap.size = g at HH ⊢
  rotate_left
  have HH := Aside0.mk (MsHead.store HZ3.out (blk_lt HX2.out) HX3.out HK3.out HB3.out)
  clear hB r0 r1 r0a r1a m0 f0 f0f f1 f1f f2 f2f f3 f3f f4 f4f
  generalize (((((w3.setCell ⟨w2.heap.size, 0, none⟩ (.int .i64 0)).setCell ⟨w2.heap.size, 1, none⟩ (.int .i64 (s.nodes.length : Int))).setCell ⟨w2.heap.size, 2, none⟩ (.int .i64 (edgesW s.nodes))).setCell ⟨w2.heap.size, 3, none⟩ (.int .i64 (depthS s))).setCell ⟨w2.heap.size, 4, none⟩ (.int .i64 0)) = W5 at HH ⊢
  generalize w2.heap.size = g at HH ⊢
  rotate_left
  have HH := Aside0.mk (MsHead.store HZ3.out (blk_lt HX.out) HX3.out HK3.out HB3.out)
  clear hB f0 f0f f1 f1f f2 f2f f3 f3f f4 f4f
  generalize (((((w3.setCell ⟨W0.heap.size, 0, none⟩ (.int .i64 0)).setCell ⟨W0.heap.size, 1, none⟩ (.int .i64 (s.nodes.length : Int))).setCell ⟨W0.heap.size, 2, none⟩ (.int .i64 (edgesW s.nodes))).setCell ⟨W0.heap.size, 3, none⟩ (.int .i64 (depthS s))).setCell ⟨W0.heap.size, 4, none⟩ (.int .i64 0)) = W5 at HH ⊢
  generalize hgg : W0.heap.size = g at HH ⊢
  clear hgg
  all_goals
    clear k0 k1 k0d k1d k0a k1a n0 HBA HZA HK0
    have k5 := HH.out.box
    have k5a := pw_cell_below (below_alloc (Below.refl W5.heap.size W5) (.map #[] 0)) k5
    have HI := Aside0.mk HH.out.start
    have hmm := @run_makeMap Tryd.prog
    clear HH
    go_wp2
    clear k5 k5a hmm
    generalize W5.alloc (.map #[] 0) = W6 at HI ⊢
    generalize W5.heap.size = mb at HI ⊢
    go_loopw [21] (fun v21 W => ∃ i : Nat, i ≤ s.nodes.length ∧ v21 = .int .i64 i ∧ Aside0 (MsRel s w g mb (texs (s.nodes.take i)) W)) (fun v21 _ => s.nodes.length - (intOf v21).toNat)
    case atStart => exact ⟨0, by omega, rfl, HI⟩
    case round =>
      clear HI
      obtain ⟨i, hi, rfl, HI⟩ := hrel
      by_cases hlt : i < s.nodes.length
      · obtain ⟨adn, A1, c1, A2, c2, A3, c3, rfl, x0, x1, x2, x3, hN⟩ := at_node HR.out i hlt
        replace x0 := pw_cell_below HI.out.below x0
        replace x1 := pw_cell_below HI.out.below x1
        replace x2 := pw_cell_below HI.out.below x2
        replace x3 := pw_cell_below HI.out.below x3
        have HN := Aside0.mk hN
        have y2 := box_cell wr _ rfl #[.int .i64 (nd s.nodes i).kind, .slice A1 (nd s.nodes i).ints.length c1, .slice A2 (nd s.nodes i).texts.length c2, .slice A3 (nd s.nodes i).kids.length c3] 26 2 (.slice A2 (nd s.nodes i).texts.length c2) rfl
        have HJ := Aside0.mk (HI.out.later (below_alloc (Below.refl _ _) (.cells #[.int .i64 (nd s.nodes i).kind, .slice A1 (nd s.nodes i).ints.length c1, .slice A2 (nd s.nodes i).texts.length c2, .slice A3 (nd s.nodes i).kids.length c3] 26)))
        have htl := hN.t.2.1
        clear hN
        go_wp2
        clear x0 x1 x2 x3 y2
        go_loopw [28] (fun v28 W => ∃ j : Nat, j ≤ (nd s.nodes i).texts.length ∧ v28 = .int .i64 j ∧ Aside0 (MsRel s w g mb (texs (s.nodes.take i) ++ (nd s.nodes i).texts.take j) W)) (fun v28 _ => (nd s.nodes i).texts.length - (intOf v28).toNat)
        case atStart => exact ⟨0, by omega, rfl, by rw [List.take_zero, List.append_nil]; exact HJ⟩
        case round =>
          clear HJ
          obtain ⟨j, hj, rfl, HJ⟩ := hrel
          obtain ⟨pr, hpr⟩ := texs_pre s.nodes i j hlt
          by_cases hjl : j < (nd s.nodes i).texts.length
          · obtain ⟨adt, rfl, z0⟩ := at_str (HN.out.below HJ.out.below).t j hjl
            have hsz : (str (nd s.nodes i).texts j).size ≤ 1000000 := HT.out _ (mem_texs.2 ⟨i, hlt, by
              have : str (nd s.nodes i).texts j = (nd s.nodes i).texts[j] := by unfold str; rw [List.getD_eq_getElem?_getD, List.getElem?_eq_getElem hjl]; rfl
              rw [this]; exact List.getElem_mem hjl⟩)
            have HTk := Aside0.mk (show texs (s.nodes.take i) ++ (nd s.nodes i).texts.take (j + 1) = (texs (s.nodes.take i) ++ (nd s.nodes i).texts.take j) ++ [str (nd s.nodes i).texts j] from by rw [take_str _ _ hjl, List.append_assoc])
            have hplen : (texs (s.nodes.take i) ++ (nd s.nodes i).texts.take j).length ≤ 1000000000 := by
              have h1 := HLn.out
              rw [hpr, List.length_append] at h1
              omega
            have hsum := meas_bound (l := texs (s.nodes.take i) ++ (nd s.nodes i).texts.take j) (fun x hx => HT.out x (by rw [hpr]; exact List.mem_append_left _ hx))
            clear hpr
            obtain ⟨t, ht⟩ : ∃ t, t = str (nd s.nodes i).texts j := ⟨_, rfl⟩
            rw [← ht] at z0 hsz HTk
            have HKy := Aside0.mk (keyS_of (s := t) (by unfold maxLen; omega))
            generalize texs (s.nodes.take i) ++ (nd s.nodes i).texts.take j = pl at HJ HTk hplen hsum
            have hsum2 : (meas pl).2 ≤ 1000000000000000 := by omega
            clear ht hsum
            by_cases hin : t ∈ (meas pl).1
            · have HV := Aside0.mk (visS_in hin)
              have HNx := Aside0.mk (HJ.out.had hin)
              rw [← HTk.out] at HNx
              clear hin
              go_wp2_with (at_lookup; refine wpList_lookup_F _ rfl (.tmp 32) (.tmp 33) 82 rfl 9 4 keyS Tryd.underlying82 (zeroB _) mb pl.length (visS (meas pl).1) rfl HJ.out.map (.string t) (.string t.data.toList) rfl HKy.out (.bool true) HV.out ?_)
              go_roundw
              case rel => exact ⟨j + 1, by omega, by go_num, HNx⟩
              case measure => simp [intOf]; omega
            · have HV := Aside0.mk (visS_out hin)
              have HIn := Aside0.mk hin
              have hw : IntKind.i64.wrap (((meas pl).2 : Int) + (t.size : Int)) = ((meas pl).2 : Int) + (t.size : Int) := wrap_i (by omega) (by omega)
              have hpl : pl.length < maxLen := by unfold maxLen; omega
              clear hin
              go_wp2_with (first
                | (at_lookup; refine wpList_lookup_F _ rfl (.tmp 32) (.tmp 33) 82 rfl 9 4 keyS Tryd.underlying82 (zeroB _) mb pl.length (visS (meas pl).1) rfl HJ.out.map (.string t) (.string t.data.toList) rfl HKy.out (.bool false) HV.out ?_)
                | (at_mapUpdate; refine wpList_update_F _ rfl (.tmp 36) (.tmp 37) _ 82 rfl 9 4 keyS Tryd.underlying82 mb pl.length (visS (meas pl).1) rfl HJ.out.map hpl (.string t) (.bool true) (.string t.data.toList) rfl rfl HKy.out ?_; intro w2' hM2 hg2; obtain ⟨hm2, hN2⟩ := HJ.out.new HIn.out hM2 hg2; have HN2 := Aside0.mk hN2; have q4 := (blk_cell hm2 4).trans rfl; have q4f := blk_frozen hm2 4; clear hM2 hg2 hm2 hN2))
              rw [← HTk.out] at HN2
              go_roundw
              case rel => exact ⟨j + 1, by omega, by go_num, HN2⟩
              case measure => simp [intOf]; omega
          · obtain rfl : j = (nd s.nodes i).texts.length := by omega
            have HNx := Aside0.mk (show MsRel s w g mb (texs (s.nodes.take (i + 1))) wr from by
              have h := HJ.out
              rw [List.take_length, ← texs_succ s.nodes i hlt] at h
              exact h)
            clear hpr
            go_wp2
            go_roundw
            case rel => exact ⟨i + 1, by omega, by go_num, HNx⟩
            case measure => simp [intOf]; omega
      · obtain rfl : i = s.nodes.length := by omega
        rw [List.take_length] at HI
        have q0 := (blk_cell HI.out.m 0).trans rfl
        have q1 := (blk_cell HI.out.m 1).trans rfl
        have q2 := (blk_cell HI.out.m 2).trans rfl
        have q3 := (blk_cell HI.out.m 3).trans rfl
        have q4 := (blk_cell HI.out.m 4).trans rfl
        have l0 := (blk_cell (HI.out.res) 0).trans rfl
        have l0f := blk_frozen (HI.out.res) 0
        have l1 := (blk_cell (blk_set (HI.out.res) 0 (.int .i64 0)) 1).trans rfl
        have l1f := blk_frozen (blk_set (HI.out.res) 0 (.int .i64 0)) 1
        have l2 := (blk_cell (blk_set (blk_set (HI.out.res) 0 (.int .i64 0)) 1 (.int .i64 (s.nodes.length : Int))) 2).trans rfl
        have l2f := blk_frozen (blk_set (blk_set (HI.out.res) 0 (.int .i64 0)) 1 (.int .i64 (s.nodes.length : Int))) 2
        have l3 := (blk_cell (blk_set (blk_set (blk_set (HI.out.res) 0 (.int .i64 0)) 1 (.int .i64 (s.nodes.length : Int))) 2 (.int .i64 (edgesW s.nodes))) 3).trans rfl
        have l3f := blk_frozen (blk_set (blk_set (blk_set (HI.out.res) 0 (.int .i64 0)) 1 (.int .i64 (s.nodes.length : Int))) 2 (.int .i64 (edgesW s.nodes))) 3
        have l4 := (blk_cell (blk_set (blk_set (blk_set (blk_set (HI.out.res) 0 (.int .i64 0)) 1 (.int .i64 (s.nodes.length : Int))) 2 (.int .i64 (edgesW s.nodes))) 3 (.int .i64 (depthS s))) 4).trans rfl
        have l4f := blk_frozen (blk_set (blk_set (blk_set (blk_set (HI.out.res) 0 (.int .i64 0)) 1 (.int .i64 (s.nodes.length : Int))) 2 (.int .i64 (edgesW s.nodes))) 3 (.int .i64 (depthS s))) 4
        go_wp2
        have h2 := And.intro ((blk_cell (box5 HI.out.res (.int .i64 0) (.int .i64 (s.nodes.length : Int)) (.int .i64 (edgesW s.nodes)) (.int .i64 (depthS s)) (.int .i64 ((meas (texs s.nodes)).2 : Int))) 0).trans rfl) (And.intro ((blk_cell (box5 HI.out.res (.int .i64 0) (.int .i64 (s.nodes.length : Int)) (.int .i64 (edgesW s.nodes)) (.int .i64 (depthS s)) (.int .i64 ((meas (texs s.nodes)).2 : Int))) 1).trans rfl) (And.intro ((blk_cell (box5 HI.out.res (.int .i64 0) (.int .i64 (s.nodes.length : Int)) (.int .i64 (edgesW s.nodes)) (.int .i64 (depthS s)) (.int .i64 ((meas (texs s.nodes)).2 : Int))) 2).trans rfl) (And.intro ((blk_cell (box5 HI.out.res (.int .i64 0) (.int .i64 (s.nodes.length : Int)) (.int .i64 (edgesW s.nodes)) (.int .i64 (depthS s)) (.int .i64 ((meas (texs s.nodes)).2 : Int))) 3).trans rfl) ((blk_cell (box5 HI.out.res (.int .i64 0) (.int .i64 (s.nodes.length : Int)) (.int .i64 (edgesW s.nodes)) (.int .i64 (depthS s)) (.int .i64 ((meas (texs s.nodes)).2 : Int))) 4).trans rfl))))
        exact bodyPost_ret (v := .agg #[.int .i64 0, .int .i64 (s.nodes.length : Int), .int .i64 (edgesW s.nodes), .int .i64 (depthS s), .int .i64 ((meas (texs s.nodes)).2 : Int)]) (by simp [results, Tryd.results26, go_sem, h2]) rfl ⟨rfl, below_set5 HI.out.below (by omega)⟩
end Go.Proofs.YtglfebpgdghlfaaDoor.L
end
section
namespace Go.Proofs.YtglfebpgdghlfaaDoor.L
open Go.RowKit Go.ChangeShapes Go.WideShapes Go.Proofs.YtglfebpgdghlfaaDoorW.PrintWords Go.Proofs.YtglfebpgdghlfaaDoorW.PrintLast Go.Proofs.YtglfebpgdghlfaaDoorW.PrintMore
attribute [local go_sem] max2_int min2_int max_two min_two max_three min_three max_four min_four
abbrev zero5 : Obj := .cells #[.int .i64 0, .int .i64 0, .int .i64 0, .int .i64 0, .int .i64 0] 50
theorem lives_set {b : Nat} {W : World} (h : Lives 5 b W) (g i : Nat) (u : Value) : Lives 5 b (W.setCell ⟨g, i, none⟩ u) := by
  by_cases e : b = g
  · subst e; exact h.set i u
  · obtain ⟨cs, hk, t, h⟩ := h
    exact ⟨cs, hk, t, (Below.heap_setCell W ⟨g, i, none⟩ u b e).trans h⟩
theorem lives_alloc {b : Nat} {W : World} (h : Lives 5 b W) (o : Obj) : Lives 5 b (W.alloc o) := h.below (below_alloc (Below.refl _ _) o)
theorem lives_new (W : World) : Lives 5 W.heap.size (W.alloc zero5) := Lives.new W #[_, _, _, _, _] _
theorem lives_new2 (W : World) (o : Obj) : Lives 5 (W.heap.size + 1) ((W.alloc o).alloc zero5) := by
  have := lives_new (W.alloc o)
  rwa [show (W.alloc o).heap.size = W.heap.size + 1 by simp] at this
def Has (b : Nat) (cs : Array Value) (W : World) : Prop := ∃ t, W.heap[b]? = some (.cells cs t (0, 0))
theorem Lives.has {b : Nat} {W : World} (h : Lives 5 b W) (u0 u1 u2 u3 u4 : Value) : Has b #[u0, u1, u2, u3, u4] (((((W.setCell ⟨b, 0, none⟩ u0).setCell ⟨b, 1, none⟩ u1).setCell ⟨b, 2, none⟩ u2).setCell ⟨b, 3, none⟩ u3).setCell ⟨b, 4, none⟩ u4) := by
  obtain ⟨cs, hk, t, h⟩ := h
  obtain ⟨x0, x1, x2, x3, x4, rfl⟩ : ∃ x0 x1 x2 x3 x4, cs = #[x0, x1, x2, x3, x4] := by
    obtain ⟨l⟩ := cs
    match l, hk with
    | [x0, x1, x2, x3, x4], _ => exact ⟨_, _, _, _, _, rfl⟩
  exact ⟨t, box5 h u0 u1 u2 u3 u4⟩
theorem Has.lt {b : Nat} {cs : Array Value} {W : World} (h : Has b cs W) : b < W.heap.size := by obtain ⟨t, h⟩ := h; exact blk_lt h
theorem Has.below {b : Nat} {cs : Array Value} {W W1 : World} (hb : Below W.heap.size W W1) (h : Has b cs W) : Has b cs W1 := by
  obtain ⟨t, h⟩ := h
  exact ⟨t, (hb.block b (blk_lt h)).trans h⟩
theorem Has.alloc {b : Nat} {cs : Array Value} {W : World} (o : Obj) (h : Has b cs W) : Has b cs (W.alloc o) := h.below (below_alloc (Below.refl _ _) o)
theorem Has.far {b g i : Nat} {cs : Array Value} {W : World} {u : Value} (hne : b ≠ g) (h : Has b cs W) : Has b cs (W.setCell ⟨g, i, none⟩ u) := by
  obtain ⟨t, h⟩ := h
  exact ⟨t, (Below.heap_setCell W ⟨g, i, none⟩ u b hne).trans h⟩
theorem Has.cell {b : Nat} {cs : Array Value} {W : World} (h : Has b cs W) (i : Nat) {v : Value} (hv : cs[i]? = some v) : W.cell? ⟨b, i, none⟩ = some v := by
  obtain ⟨t, h⟩ := h
  exact (blk_cell h i).trans hv
theorem Has.newE {b : Nat} {cs : Array Value} {W : World} {t : TypeId} (hb : b = W.heap.size) : Has b cs (W.alloc (.cells cs t)) := ⟨t, by subst hb; simpa using heap_alloc_new W _⟩
theorem tail_gen {K : Act → World → Prop} {Q : Exit → Act → World → Prop} {a : Act} {W : World} (w : World) (ba bb : Nat) (ca cb : Array Value) (h5 : a.tmps[5]? = some (.pointer (some ⟨ba, 0, none⟩))) (h6 : a.tmps[6]? = some (.pointer (some ⟨bb, 0, none⟩)))
    (hA : Has ba ca W) (hB : Has bb cb W) (hC : Below w.heap.size w W) (h : ∀ W', Has ba ca W' → Has bb cb W' → Below w.heap.size w W' → Exit.then K Q .normal a W') : Exit.then K Q .normal a W := h W hA hB hC
theorem depthS_le {s : Scene} (hr : Right s) : 0 ≤ depthS s ∧ depthS s ≤ s.nodes.length + 1 := by
  unfold depthS
  rw [if_pos (gcheck_right.2 hr)]
  have := H_bound hr.dag (a := s.root) ⟨hr.r0, hr.r1⟩
  omega
theorem textSum_small {ns : List Node} (h : ∀ x ∈ texs ns, x.size ≤ 1000000) (hl : (texs ns).length ≤ 1000000000) : textSum ns ≤ 1000000000000000 := by
  have := meas_bound h
  unfold textSum
  omega
set_option maxRecDepth 100000 in
set_option maxHeartbeats 8000000 in
theorem upgradeMeasure_any (A : Option Addr) (c : Nat) (s : Scene) (w : World) (h : kNode.C w A s.nodes.length s.nodes) (hc : s.nodes.length ≤ c) (hT : Tabs w) :
    Calls Tryd.prog 5 #[.agg #[.slice A s.nodes.length c, .int .i64 s.root]] w fun e w' => e = .returned (.bool true) ∧ Below w.heap.size w w' := by
  have HR := Aside0.mk h
  have HT := Aside0.mk hT
  have HB := Aside0.mk (below_alloc (Below.refl w.heap.size w) (.cells #[.slice A s.nodes.length c, .int .i64 s.root] 39))
  have k0 := box_cell w _ rfl #[.slice A s.nodes.length c, .int .i64 s.root] 39 0 (.slice A s.nodes.length c) rfl
  have k1 := box_cell w _ rfl #[.slice A s.nodes.length c, .int .i64 s.root] 39 1 (.int .i64 s.root) rfl
  have hu := Tryd.underlying39
  have hul := Tryd.underlying50
  clear h hT
  go_enter Tryd.func5, Tryd.ntmps5
  go_wp2_with fail
  refine (awake_any _ (HT.out.below HB.out)).mono ?_
  rintro e w1 ⟨rfl, hB1⟩
  replace k0 := pw_cell_below hB1 k0
  replace k1 := pw_cell_below hB1 k1
  have HB1 := Aside0.mk (below_step HB.out hB1)
  clear hB1
  go_wp2_with fail
  refine (greatS_any A c s _ (Kd.C_below HR.out HB1.out)).mono ?_
  rintro e w2 ⟨rfl, hB2⟩
  replace k0 := pw_cell_below hB2 k0
  replace k1 := pw_cell_below hB2 k1
  have HB2 := Aside0.mk (below_step HB1.out hB2)
  clear hB2
  cases hg : greatS s with
  | true =>
    clear hg
    go_wp2_with fail
    refine (awake_any _ (HT.out.below HB2.out)).mono ?_
    rintro e w3 ⟨rfl, hB3⟩
    have HB3 := Aside0.mk (below_step HB2.out hB3)
    clear hB3 k0 k1
    go_wp2
    go_ret
    exact ⟨rfl, HB3.out⟩
  | false =>
    have HG := Aside0.mk (greatS_small hg)
    have HO := Aside0.mk (own_sizes hg)
    have HGr := Aside0.mk hg
    clear hg
    go_wp2_with fail
    refine (rwhole_1 A c s _ (Kd.C_below HR.out HB2.out) hc HG.out.2.1 HG.out.2.2.1 (by have := HO.out.1; omega)).mono ?_
    rintro e w3 ⟨rfl, hB3⟩
    replace k0 := pw_cell_below hB3 k0
    replace k1 := pw_cell_below hB3 k1
    have HB3 := Aside0.mk (below_step HB2.out hB3)
    clear hB3
    cases hwh : whole1 s with
    | false =>
      clear hwh
      go_wp2_with fail
      refine (awake_any _ (HT.out.below HB3.out)).mono ?_
      rintro e w4 ⟨rfl, hB4⟩
      have HB4 := Aside0.mk (below_step HB3.out hB4)
      clear hB4 k0 k1
      go_wp2
      go_ret
      exact ⟨rfl, HB4.out⟩
    | true =>
      have HW := Aside0.mk hwh
      clear hwh
      have hwt : (typedS oldTab s.nodes).1 = 0 ∧ (gcheck s).1 = 0 := by
        have h0 := HW.out
        unfold whole1 rightB at h0
        simpa using h0
      have HTy := Aside0.mk hwt.1
      have HRt := Aside0.mk (gcheck_right.1 hwt.2)
      have he0 : upErr s = 0 := (up_is_ref hwt.1 (gcheck_right.1 hwt.2)).1
      have HF := Aside0.mk (And.intro (upRes_depth hwt.1 (gcheck_right.1 hwt.2)).2 (upRes_text hwt.1 (typedS_all hwt.1) (gcheck_right.1 hwt.2)))
      have HZ := Aside0.mk (upRes_sizes hwt.1 (gcheck_right.1 hwt.2) HGr.out)
      clear hwt
      go_wp2_with fail
      refine (up_any A c s _ (Kd.C_below HR.out HB3.out) (HT.out.below HB3.out) HG.out.2.1 HG.out.2.2.1 HO.out.1).mono ?_
      rintro e w4 ⟨A3, c3, rfl, hR4, hB4⟩
      rw [he0]
      have hA := below_alloc (Below.refl w4.heap.size w4) (.cells #[.slice A3 (upRes s).nodes.length c3, .int .i64 (upRes s).root] 39)
      have HC4 := Aside0.mk (Kd.C_alloc (Kd.R_reads' hR4).2.2 (.cells #[.slice A3 (upRes s).nodes.length c3, .int .i64 (upRes s).root] 39))
      have q0 := box_cell w4 _ rfl #[.slice A3 (upRes s).nodes.length c3, .int .i64 (upRes s).root] 39 0 (.slice A3 (upRes s).nodes.length c3) rfl
      have q1 := box_cell w4 _ rfl #[.slice A3 (upRes s).nodes.length c3, .int .i64 (upRes s).root] 39 1 (.int .i64 (upRes s).root) rfl
      replace k0 := pw_cell_below hA (pw_cell_below hB4 k0)
      replace k1 := pw_cell_below hA (pw_cell_below hB4 k1)
      have HB4 := Aside0.mk (below_step (below_step HB3.out hB4) hA)
      clear hB4 hR4 hA he0
      have HD4 := Aside0.mk (Kd.C_below HR.out HB4.out)
      go_wp2
      generalize hw5 : w4.alloc (.cells #[.slice A3 (upRes s).nodes.length c3, .int .i64 (upRes s).root] 39) = w5 at HB4 HC4 HD4 k0 k1 q0 q1 ⊢
      clear hw5
      generalize w4.heap.size = b4 at q0 q1 ⊢
      generalize upRes s = t at HZ HF HC4 q0 q1 ⊢
      have K0 : ∀ W, Below w5.heap.size w5 W → W.cell? ⟨w.heap.size, 0, none⟩ = some (.slice A s.nodes.length c) := fun W h => pw_cell_below h k0
      have K1 : ∀ W, Below w5.heap.size w5 W → W.cell? ⟨w.heap.size, 1, none⟩ = some (.int .i64 s.root) := fun W h => pw_cell_below h k1
      have K2 : ∀ W, Below w5.heap.size w5 W → W.cell? ⟨b4, 0, none⟩ = some (.slice A3 (t).nodes.length c3) := fun W h => pw_cell_below h q0
      have K3 : ∀ W, Below w5.heap.size w5 W → W.cell? ⟨b4, 1, none⟩ = some (.int .i64 (t).root) := fun W h => pw_cell_below h q1
      have L1 : ∀ (b : Nat) (W : World), Lives 5 b W → W.cell? ⟨b, 0, none⟩ = some (cellAt W b 0) := fun b W h => (h.at 0 (by omega)).1
      have L2 : ∀ (b : Nat) (W : World), Lives 5 b W → W.cell? ⟨b, 1, none⟩ = some (cellAt W b 1) := fun b W h => (h.at 1 (by omega)).1
      have L3 : ∀ (b : Nat) (W : World), Lives 5 b W → W.cell? ⟨b, 2, none⟩ = some (cellAt W b 2) := fun b W h => (h.at 2 (by omega)).1
      have L4 : ∀ (b : Nat) (W : World), Lives 5 b W → W.cell? ⟨b, 3, none⟩ = some (cellAt W b 3) := fun b W h => (h.at 3 (by omega)).1
      have L5 : ∀ (b : Nat) (W : World), Lives 5 b W → W.cell? ⟨b, 4, none⟩ = some (cellAt W b 4) := fun b W h => (h.at 4 (by omega)).1
      have M1 : ∀ (b : Nat) (W : World), Lives 5 b W → W.frozen? ⟨b, 0, none⟩ = false := fun b W h => (h.at 0 (by omega)).2
      have M2 : ∀ (b : Nat) (W : World), Lives 5 b W → W.frozen? ⟨b, 1, none⟩ = false := fun b W h => (h.at 1 (by omega)).2
      have M3 : ∀ (b : Nat) (W : World), Lives 5 b W → W.frozen? ⟨b, 2, none⟩ = false := fun b W h => (h.at 2 (by omega)).2
      have M4 : ∀ (b : Nat) (W : World), Lives 5 b W → W.frozen? ⟨b, 3, none⟩ = false := fun b W h => (h.at 3 (by omega)).2
      have M5 : ∀ (b : Nat) (W : World), Lives 5 b W → W.frozen? ⟨b, 4, none⟩ = false := fun b W h => (h.at 4 (by omega)).2
      have N1 : ∀ (b : Nat) (W : World) (o : Obj), Lives 5 b W → Lives 5 b (W.alloc o) := fun b W o h => lives_alloc h o
      have N2 : ∀ (b : Nat) (W : World) (g i : Nat) (u : Value), Lives 5 b W → Lives 5 b (W.setCell ⟨g, i, none⟩ u) := fun b W g i u h => lives_set h g i u
      have N3 : ∀ W : World, Lives 5 W.heap.size (W.alloc (.cells #[.int .i64 0, .int .i64 0, .int .i64 0, .int .i64 0, .int .i64 0] 50)) := lives_new
      have N4 : ∀ (W : World) (o : Obj), Lives 5 (W.heap.size + 1) ((W.alloc o).alloc (.cells #[.int .i64 0, .int .i64 0, .int .i64 0, .int .i64 0, .int .i64 0] 50)) := lives_new2
      have N5 : ∀ (b : Nat) (W : World), Lives 5 b W → Lives 5 b W.drew := fun b W h => h.drew
      clear k0 k1 q0 q1
      go_region_held3 (fun W => Below w5.heap.size w5 W)
        (repeat' (first
          | with_reducible assumption
          | with_reducible exact Below.refl _ _
          | with_reducible refine below_drew ?_
          | with_reducible apply below_alloc
          | (with_reducible refine below_set ?_ ?_)
          | omega
          | (simp; omega)))
        (first
          | (go_at_call 26; with_reducible change Calls Tryd.prog 26 #[.agg #[.slice A s.nodes.length c, .int .i64 s.root]] _ _; refine (measure_any A c s _ (Kd.C_below HD4.out (by first | assumption | exact below_alloc (by assumption) _ | exact below_alloc (below_alloc (by assumption) _) _)) (by have := HO.out.1; omega) HO.out.2.1 HO.out.2.2).mono ?_; rintro e w6 ⟨rfl, hB⟩; have hB6 := hB; have hz6 := hB.size; have hs6 := below_step (by first | assumption | exact below_alloc (by assumption) _ | exact below_alloc (below_alloc (by assumption) _) _) hB; have hm6 := hs6.size; have hl6 := fun (b : Nat) (h : Lives 5 b _) => h.below hB; (try have la6 := hl6 w5.heap.size (by first | exact N5 _ _ (N3 w5) | exact N5 _ _ (N1 _ _ _ (N3 w5)))); (try have lb6 := hl6 (w5.heap.size + 1) (by exact N5 _ _ (N4 w5 _))); (try have hx6 : w5.heap.size < w6.heap.size := (by have hz := hz6; simp at hz; omega)); (try have hy6 : w5.heap.size + 1 < w6.heap.size := (by have hz := hz6; simp at hz; omega)))
          | (go_at_call 26; refine (measure_any A3 c3 (t) _ (Kd.C_below HC4.out (by first | assumption | exact below_alloc (by assumption) _ | exact below_alloc (below_alloc (by assumption) _) _)) HZ.out.1 HZ.out.2.1 HZ.out.2.2).mono ?_; rintro e w7 ⟨rfl, hB⟩; have hB7 := hB; have hz7 := hB.size; have hs7 := below_step (by first | assumption | exact below_alloc (by assumption) _ | exact below_alloc (below_alloc (by assumption) _) _) hB; have hm7 := hs7.size; have hl7 := fun (b : Nat) (h : Lives 5 b _) => h.below hB; (try have la7 := hl7 _ (N3 _)); (try have lb7 := hl7 _ (N4 _ _)); (try have lc7 := hl7 _ (N1 _ _ _ (N3 _))); (try have ma7 := (by first | exact hl7 _ la6 | exact hl7 _ (N1 _ _ _ la6) : Lives 5 _ w7)); (try have mb7 := (by first | exact hl7 _ lb6 | exact hl7 _ (N1 _ _ _ lb6) : Lives 5 _ w7)); (try have hx7 : w6.heap.size < w7.heap.size := (by have hz := hz7; simp at hz; omega)); (try have hy7 : w6.heap.size + 1 < w7.heap.size := (by have hz := hz7; simp at hz; omega)); (try have hu7 : w5.heap.size < w7.heap.size := (by have hz := hz7; simp at hz; omega)); (try have hv7 : w5.heap.size + 1 < w7.heap.size := (by have hz := hz7; simp at hz; omega))))
      all_goals
        refine tail_gen w _ _ #[.int .i64 0, .int .i64 (s.nodes.length : Int), .int .i64 (edgesW s.nodes), .int .i64 (depthS s), .int .i64 (textSum s.nodes : Int)] #[.int .i64 0, .int .i64 (t.nodes.length : Int), .int .i64 (edgesW t.nodes), .int .i64 (depthS t), .int .i64 (textSum t.nodes : Int)] rfl rfl ?_ ?_ (below_step HB4.out ?_) ?_
        rotate_left 3
        · intro W' hA hB hC
          clear L1 L2 L3 L4 L5 M1 M2 M3 M4 M5 N1 N2 N3 N4 N5 K0 K1 K2 K3
          have hn := HG.out.1
          have hd1 := HF.out.1.1
          have hd2 := HF.out.1.2
          have hd3 := depthS_le HRt.out
          have ht1 := HF.out.2.1
          have ht2 := HF.out.2.2
          have ht3 := textSum_small HO.out.2.1 HO.out.2.2
          have a3 := hA.cell 3 rfl
          have a4 := hA.cell 4 rfl
          have b3 := hB.cell 3 rfl
          have b4 := hB.cell 4 rfl
          have HE := Aside0.mk hC
          clear hA hB hC
          generalize depthS s = dA at hd1 hd2 hd3 a3 ⊢
          generalize depthS t = dB at hd1 hd2 b3 ⊢
          generalize textSum s.nodes = tA at ht1 ht2 ht3 a4 ⊢
          generalize textSum t.nodes = tB at ht1 ht2 b4 ⊢
          generalize edgesW s.nodes = eA
          generalize edgesW t.nodes = eB
          have e1 : IntKind.i64.wrap (2 * dA) = 2 * dA := wrap_i (by omega) (by omega)
          have e2 : IntKind.i64.wrap ((tA : Int) + 4) = (tA : Int) + 4 := wrap_i (by omega) (by omega)
          go_wp2
          go_ret
          exact ⟨by first | rfl | (simp; omega), HE.out⟩
        all_goals
          repeat (first
            | with_reducible assumption
            | with_reducible exact Below.refl _ _
            | with_reducible refine below_drew ?_
            | with_reducible apply below_alloc
            | (with_reducible refine below_set ?_ ?_)
            | ((with_reducible refine Has.newE ?_); first | with_reducible rfl | (simp; done))
            | ((with_reducible refine Lives.has ?_ _ _ _ _ _); (repeat (first | with_reducible assumption | with_reducible exact lives_new _ | with_reducible exact lives_new2 _ _ | with_reducible refine lives_alloc ?_ _ | with_reducible refine lives_set ?_ _ _ _)); done)
            | with_reducible refine Has.alloc _ ?_
            | ((with_reducible refine Has.far ?_ ?_); · omega)
            | omega
            | (simp; omega))
end Go.Proofs.YtglfebpgdghlfaaDoor.L
end
section
namespace Go.Proofs.YtglfebpgdghlfaaDoor.L
open Go.RowKit Go.ChangeShapes Go.WideShapes Go.Proofs.YtglfebpgdghlfaaDoorW.PrintWords Go.Proofs.YtglfebpgdghlfaaDoorW.PrintLast Go.Proofs.YtglfebpgdghlfaaDoorW.PrintMore
attribute [local go_sem] max2_int min2_int max_two min_two max_three min_three max_four min_four
section
variable {P : Program} {α β : Type}
def Opens (P : Program) (k : Kd α) (t : TypeId) (good : α → Prop) : Prop :=
  ∀ (H : Type) (enc : TypeId × Value → H) (w : World) (base : Nat) (spare : Nat → Bool) (held : Bool) (fuel : Nat) (cs : List Value) (x : DataW H × List MemPlace), DataW.trod enc P w base spare held fuel t cs = some x → ∃ v, k.K w v cs ∧ good v
theorem opens_int {t : TypeId} {k : IntKind} (ht : P.underlying t = some (.int k)) : Opens P (Kd.int k) t (fun n => (Lit.int k n).wf = true) := by
  intro H enc w base spare held fuel cs x h
  obtain ⟨n, rfl, _, hw⟩ := DataW.trod_int ht h
  exact ⟨n, rfl, hw⟩
theorem opens_string {t : TypeId} (ht : P.underlying t = some .string) : Opens P Kd.string t (fun s => s.size ≤ maxLen) := by
  intro H enc w base spare held fuel cs x h
  obtain ⟨s, rfl, _, hs⟩ := DataW.trod_string ht h
  exact ⟨s, rfl, hs⟩
theorem list_of {R : Nat → α → Prop} : ∀ n, (∀ i, i < n → ∃ p, R i p) → ∃ xs : List α, xs.length = n ∧ ∀ j p, xs[j]? = some p → R j p := by
  intro n
  induction n with
  | zero => intro _; exact ⟨[], rfl, fun j p h => by simp at h⟩
  | succ n ih =>
    intro h
    obtain ⟨xs, hl, hx⟩ := ih (fun i hi => h i (by omega))
    obtain ⟨p, hp⟩ := h n (by omega)
    refine ⟨xs ++ [p], by simp [hl], fun j q hq => ?_⟩
    rw [List.getElem?_append] at hq
    split at hq
    · exact hx j q hq
    · have hj : j = n := by
        have := (List.getElem?_eq_some_iff.1 hq).1
        simp at this
        omega
      subst hj
      rw [hl, Nat.sub_self] at hq
      simp at hq
      subst hq
      exact hp
theorem opens_slice {d : Kd α} {t e e' : TypeId} {good : α → Prop} (ht : P.underlying t = some (.slice e)) (hc : P.cellsOf e = d.sz) (hd : Opens P d e good) : Opens P (Kd.slice e' d) t (fun xs => xs.length ≤ maxLen ∧ ∀ x ∈ xs, good x) := by
  intro H enc w base spare held fuel cs x h
  rcases Deep.open_slice ht h with ⟨rfl, _⟩ | ⟨a, len, cap, m, n, D, Pl, rfl, _, hl, hm, hmm, _, hx⟩
  · exact ⟨[], ⟨none, 0, rfl, Nat.le_refl _, rfl, by simp, fun h => by simp at h⟩, by simp, by simp⟩
  · have hlm : len ≤ m := by rw [hmm]; split <;> omega
    rw [hc] at hx
    obtain ⟨xs, hxl, hxs⟩ := list_of (R := fun i p => (∃ c, c.length = d.sz ∧ d.K w p c ∧ ∀ j u, c[j]? = some u → w.cell? (a.add (i * d.sz + j)) = some u) ∧ good p) len (fun i hi => by
      obtain ⟨cs', h1, h2⟩ := hx i (by omega)
      obtain ⟨_, hcl, hat⟩ := World.cells?_some h1
      obtain ⟨p, hK, hg⟩ := hd H enc w base spare held n cs' _ h2
      refine ⟨p, ⟨cs', hcl, hK, fun j u hu => ?_⟩, hg⟩
      have hj : j < d.sz := by rw [← hcl]; exact (List.getElem?_eq_some_iff.1 hu).1
      rw [← Deep.add_add, hat j hj, hu])
    subst hxl
    refine ⟨xs, ⟨some a, cap, rfl, hl, rfl, by unfold maxLen at hm; omega, fun _ => ⟨a, rfl, fun j p hp => (hxs j p hp).1⟩⟩, by omega, fun x hx => ?_⟩
    obtain ⟨j, hj⟩ := List.getElem?_of_mem hx
    exact (hxs j x hj).2
def OpensL (P : Program) (k : Kd α) (fs : List Field) (off : Nat) (good : α → Prop) : Prop :=
  ∀ (H : Type) (enc : TypeId × Value → H) (w : World) (base : Nat) (spare : Nat → Bool) (held : Bool) (n : Nat) (cs : List Value), cs.length = k.sz → (∀ f ∈ fs, ∃ x, DataW.trod enc P w base spare held n f.type ((cs.drop (f.offset - off)).take (P.cellsOf f.type)) = some x) → ∃ v, k.K w v cs ∧ good v
theorem opensL_one {k : Kd α} {f : Field} {off : Nat} {good : α → Prop} (ho : f.offset = off) (hc : P.cellsOf f.type = k.sz) (h : Opens P k f.type good) : OpensL P k [f] off good := by
  intro H enc w base spare held n cs hl hf
  obtain ⟨x, hx⟩ := hf f (by simp)
  rw [ho, Nat.sub_self, List.drop_zero, hc, ← hl, List.take_length] at hx
  exact h H enc w base spare held n cs x hx
theorem opensL_cons {a : Kd α} {b : Kd β} {f : Field} {fs : List Field} {off : Nat} {ga : α → Prop} {gb : β → Prop} (ho : f.offset = off) (hc : P.cellsOf f.type = a.sz) (h : Opens P a f.type ga) (hoff : ∀ g ∈ fs, off + a.sz ≤ g.offset) (hs : OpensL P b fs (off + a.sz) gb) :
    OpensL P (Kd.pair a b) (f :: fs) off (fun x => ga x.1 ∧ gb x.2) := by
  intro H enc w base spare held n cs hl hf
  have hl' : cs.length = a.sz + b.sz := hl
  obtain ⟨x, hx⟩ := hf f (by simp)
  rw [ho, Nat.sub_self, List.drop_zero, hc] at hx
  obtain ⟨v, hv, hg⟩ := h H enc w base spare held n _ x hx
  obtain ⟨u, hu, hg'⟩ := hs H enc w base spare held n (cs.drop a.sz) (by rw [List.length_drop]; omega) (fun g hg => by
    obtain ⟨y, hy⟩ := hf g (by simp [hg])
    have := hoff g hg
    refine ⟨y, ?_⟩
    rw [List.drop_drop, show a.sz + (g.offset - (off + a.sz)) = g.offset - off from by omega]
    exact hy)
  exact ⟨(v, u), ⟨_, _, (List.take_append_drop a.sz cs).symm, hv, hu⟩, hg, hg'⟩
theorem opens_struct {k : Kd α} {t : TypeId} {fs : Array Field} {good : α → Prop} (ht : P.underlying t = some (.struct fs)) (hc : P.cellsOf t = k.sz) (h : OpensL P k fs.toList 0 good) : Opens P k t good := by
  intro H enc w base spare held fuel cs x hx
  obtain ⟨xs, n, _, _, hl, hxl, hf⟩ := DataW.trod_struct ht hx
  refine h H enc w base spare held n cs (hl.trans hc) (fun f hfm => ?_)
  obtain ⟨i, hi⟩ := List.getElem?_of_mem hfm
  have hi' : fs[i]? = some f := by simpa using hi
  have hil : i < xs.length := by rw [hxl]; exact (Array.getElem?_eq_some_iff.1 hi').1
  exact ⟨xs[i]'hil, by rw [Nat.sub_zero, hf i f hi', List.getElem?_eq_getElem hil]⟩
theorem opens_iso {d : Kd α} {f : β → α} {t : TypeId} {good : α → Prop} (hf : ∀ v, ∃ x, f x = v) (h : Opens P d t good) : Opens P (Kd.iso d f) t (fun x => good (f x)) := by
  intro H enc w base spare held fuel cs x hx
  obtain ⟨v, hv, hg⟩ := h H enc w base spare held fuel cs x hx
  obtain ⟨y, rfl⟩ := hf v
  exact ⟨y, hv, hg⟩
theorem Opens.arg_struct {k : Kd α} {H : Type} {enc : TypeId × Value → H} {W : World} {b0 base : Nat} {r : Reach} {spare : Nat → Bool} {held : Bool} {t : TypeId} {fs : Array Field} {good : α → Prop} {v : Value} {q : DataW H} {p : List MemPlace} (hs : P.underlying t = some (.struct fs)) (ho : Opens P k t good)
    (hv : Value.okWide P W r b0 t v) (h : DataW.Trod enc P W base spare held t v q p) : ∃ x cs, v = .agg cs ∧ k.K W x cs.toList ∧ good x := by
  obtain ⟨cs, rfl, _⟩ := okWide_struct hs hv
  obtain ⟨fuel, hf⟩ := h
  obtain ⟨x, hK, hg⟩ := ho H enc W base spare held fuel _ _ hf
  exact ⟨x, cs, rfl, by simpa [Value.cells] using hK, hg⟩
end
end Go.Proofs.YtglfebpgdghlfaaDoor.L
end
section
namespace Go.Proofs.YtglfebpgdghlfaaDoor.L
open Go.RowKit Go.ChangeShapes Go.WideShapes Go.Proofs.YtglfebpgdghlfaaDoorW.PrintWords Go.Proofs.YtglfebpgdghlfaaDoorW.PrintLast Go.Proofs.YtglfebpgdghlfaaDoorW.PrintMore
attribute [local go_sem] max2_int min2_int max_two min_two max_three min_three max_four min_four
open Go.ChangeShapes Go.WideShapes Go.ChangeAt Go.RowKit
theorem own : ownKnob Tryd.prog.godebug = none := by kernel_rfl
theorem laidOut : laidOutB Tryd.prog = true := by kernel_rfl
def rowLaid : List (String × DataW Unit) := [("unicode/utf8.acceptRanges", Rows.laid_unicode_utf8_acceptRanges), ("unicode/utf8.first", Rows.laid_unicode_utf8_first)]
theorem firstD : Go.Pinned.utf8First = Lib.firstData := by kernel_rfl
theorem acceptD : (Rows.laid_unicode_utf8_acceptRanges : DataW Unit) = Lib.acceptData := by kernel_rfl
theorem tabs_of_laid {W : World} (h : laidMetH Tryd.prog rowLaid W) : Tabs W := by
  rw [MakeChecks.laidMetH_plain _ _ _ (by kernel_rfl)] at h
  exact utf8Tabs_of_reads Tryd.lays260 ⟨by kernel_rfl, by kernel_rfl, by kernel_rfl, by kernel_rfl, by kernel_rfl, by kernel_rfl, by kernel_rfl⟩
    (firstD ▸ Lib.laidMet.reads h (show ("unicode/utf8.first", Go.Pinned.utf8First) ∈ rowLaid from .tail _ (.head _)))
    (acceptD ▸ Lib.laidMet.reads h (show ("unicode/utf8.acceptRanges", Rows.laid_unicode_utf8_acceptRanges) ∈ rowLaid from .head _))
theorem laid_met (os : Os) (args : Array Value) : laidMetH Tryd.prog rowLaid ((World.laidAll Tryd.prog os rowLaid).forCall (fun _ _ => 0) ⟨#[], args, []⟩).memory := by
  rw [MakeChecks.laidMetH_plain _ _ _ (by kernel_rfl)]
  exact laidMet_laidAll _ (by kernel_rfl) (by kernel_rfl)
theorem opensL_any {P : Program} {α : Type} {k : Kd α} {fs : List Field} {off : Nat} {good : α → Prop} (h : OpensL P k fs off good) : OpensL P k fs off (fun _ => True) := by
  intro H enc w base spare held n cs hl hf
  obtain ⟨v, hv, _⟩ := h H enc w base spare held n cs hl hf
  exact ⟨v, hv, trivial⟩
theorem opens_node : Opens Tryd.prog kNode 26 (fun _ => True) := by
  unfold kNode
  refine opens_iso (good := fun _ => True) (fun v => ⟨⟨v.1, v.2.1, v.2.2.1, v.2.2.2⟩, rfl⟩) (opens_struct (good := fun _ => True) Tryd.underlying26 (by kernel_rfl) ?_)
  exact opensL_any (opensL_cons rfl (by kernel_rfl) (opens_int Tryd.underlying3) (by decide)
    (opensL_cons rfl (by kernel_rfl) (opens_slice Tryd.underlying22 (by kernel_rfl) (opens_int Tryd.underlying2)) (by decide)
    (opensL_cons rfl (by kernel_rfl) (opens_slice Tryd.underlying23 (by kernel_rfl) (opens_string Tryd.underlying9)) (by decide)
    (opensL_one rfl (by kernel_rfl) (opens_slice Tryd.underlying24 (by kernel_rfl) (opens_int Tryd.underlying3))))))
def kScene : Kd Scene := Kd.iso (Kd.pair (Kd.slice 26 kNode) (Kd.int .i64)) (fun x : Scene => (x.nodes, x.root))
theorem opens_scene : Opens Tryd.prog kScene 39 (fun _ => True) := by
  unfold kScene
  refine opens_iso (good := fun _ => True) (fun v => ⟨⟨v.1, v.2⟩, rfl⟩) (opens_struct (good := fun _ => True) Tryd.underlying39 (by kernel_rfl) ?_)
  exact opensL_any (opensL_cons rfl (by kernel_rfl) (opens_slice Tryd.underlying30 (by kernel_rfl) opens_node) (by decide)
    (opensL_one rfl (by kernel_rfl) (opens_int Tryd.underlying3)))
theorem kScene_open {w : World} {x : Scene} {cs : List Value} (h : kScene.K w x cs) : ∃ A c, cs = [.slice A x.nodes.length c, .int .i64 x.root] ∧ x.nodes.length ≤ c ∧ kNode.C w A x.nodes.length x.nodes := by
  obtain ⟨_, _, rfl, ⟨A, c, rfl, l, h⟩, rfl⟩ := h
  exact ⟨A, c, rfl, l, h⟩
end Go.Proofs.YtglfebpgdghlfaaDoor.L
end
section
namespace Go.Proofs.YtglfebpgdghlfaaDoor.L
open Go.RowKit Go.ChangeShapes Go.WideShapes Go.Proofs.YtglfebpgdghlfaaDoorW.PrintWords Go.Proofs.YtglfebpgdghlfaaDoorW.PrintLast Go.Proofs.YtglfebpgdghlfaaDoorW.PrintMore
attribute [local go_sem] max2_int min2_int max_two min_two max_three min_three max_four min_four
namespace upgradeMeasure
open Go.ChangeShapes Go.WideShapes Go.ChangeAt Go.RowKit
set_option maxRecDepth 100000 in
theorem lifted (os : Os) (started : os.Started) (H : Type) (enc : TypeId × Value → H) :
    ReturnsInHanded {} Tryd.checked os 5 .any (fun w args => (Rows.upgradeMeasureSpec.pre enc Tryd.prog Tryd.f5 [] false w args ∧ laidMetH Tryd.prog rowLaid w) ∧ sizedMet enc Tryd.prog Tryd.f5 (OpenSpec.ofChange Rows.upgradeMeasureSpec) false w args)
      (Rows.upgradeMeasureSpec.post enc Tryd.prog Tryd.f5 false true false false) := by
  refine returnsInHanded_of_change_and (C := Tryd.checked) (X := fun w _ => laidMetH Tryd.prog rowLaid w) (fun _ _ _ hh h => h.of_heap hh) own started (by kernel_rfl) Tryd.func5
    (ChangeSpec.witness_shaped (enc := enc) (C := Tryd.checked) (os := os) (X := fun w _ => laidMetH Tryd.prog rowLaid w) false (World.laidAll Tryd.prog os rowLaid) #[.agg #[.slice none 0 0, .int .i64 0]] 8 (World.laidAll_os _ _ _)
      (World.shaped_of_ZipB (by kernel_rfl) (by kernel_rfl)) (by kernel_rfl) (by kernel_rfl) (by kernel_rfl) (laid_met os _)) ?_
  intro W base args ds gs before hval0 hW hc _ hL _
  have hval : ∀ (j : Nat) t v, (Tryd.f5).params[j]? = some t → args[j]? = some v → Value.okWide Tryd.prog W .any base t v := hval0
  have hW' := hW
  obtain ⟨p, q, hA0, hV, rfl, hfz, hnd⟩ := hW
  have hA : DataW.TrodAll enc Tryd.prog W 0 (fun _ => true) true (Tryd.f5).params.toList args.toList ds p := hA0
  rw [Tryd.params5] at hA hval
  obtain ⟨v0, vs0, d0, ds0, p0, q0, hargs, rfl, rfl, h0, r0⟩ := trodAll_cons hA
  obtain ⟨rfl, rfl, rfl⟩ := trodAll_nil r0
  obtain rfl : args = #[v0] := by cases args; simp_all
  obtain ⟨rfl, rfl⟩ := trodVars_none hV
  have lt0 : ∀ x ∈ p0, x.block < W.heap.size := by obtain ⟨m, hm⟩ := h0; exact DataW.trod_lt m _ _ _ hm
  obtain ⟨s, cs, rfl, hK, _⟩ := Opens.arg_struct Tryd.underlying39 opens_scene (hval 0 39 v0 rfl rfl) h0
  obtain ⟨A, c, hcs, hlc, hC⟩ := kScene_open hK
  obtain rfl : cs = #[.slice A s.nodes.length c, .int .i64 s.root] := by cases cs; simp_all
  clear hA0 hval0
  refine (upgradeMeasure_any A c s W hC hlc (tabs_of_laid hL)).mono fun e W' ⟨he, bel⟩ => ?_
  subst he
  exact ⟨_, rfl, _, _, _, [], _, [], hW', trodAll_mk1 (shut_bool Tryd.underlying4 _), (trodAll_cons_mk (Below.trod laidOut (by kernel_rfl) (of_decide_eq_true (by kernel_rfl)) h0 bel lt0) trodAll_mk0), rfl, bel.frame _, fun h => by cases h⟩
theorem over : Rows.UpgradeMeasureSaid :=
  OpenClaim.holds_of_wide 5 Tryd.f5 rfl rfl rfl rfl rfl rfl rfl ⟨rfl, rfl, rfl, rfl, rfl⟩ rfl rfl rfl rfl rfl (by kernel_rfl) Tryd.func5 (by kernel_rfl)
    (of_decide_eq_true (by kernel_rfl)) (by unfold Func.isWrapper; first | (rw [if_pos (by decide +kernel)]; kernel_rfl) | (rw [if_neg (by decide +kernel)]; exact ⟨rfl, rfl⟩))
    (fun os started H enc _ => lifted os started H enc)
theorem card_holds : Rows.UpgradeMeasureCardSaid :=
  Claim7.holds_tied_plain_at .later [] [.data, .pinned] true (true, "d9096c8d86ec02858f6829e4145980d481af2c3bac41f782ac1e7c2d8c679a29") false over (fun _ h => by cases h) (by kernel_rfl) (fun _ h => by cases h) upgradeMeasure_row_tie rfl ⟨rfl, rfl⟩ (by kernel_rfl) rfl
    (fun f fn hf hfn => by
      obtain rfl : f = 5 := Option.some.inj ((show Tryd.prog.funcNamed "diorama/dioramalaw18.UpgradeMeasure" = some 5 by kernel_rfl).symm.trans hf) |>.symm
      obtain rfl : fn = Tryd.f5 := (Option.some.inj ((Tryd.func5).symm.trans hfn)).symm
      exact ⟨by kernel_rfl, fun j t ht => by
        rw [Tryd.params5] at ht
        have hm : t ∈ [39] := by simpa using Array.mem_of_getElem? ht
        have hall : ([39].all fun u => !Tryd.prog.wantsStandIn u) = true := by kernel_rfl
        exact (show Tryd.prog.wantsStandIn t = false by simpa using List.all_eq_true.1 hall t hm)⟩)
    (by kernel_rfl)
#print axioms card_holds
end upgradeMeasure
end Go.Proofs.YtglfebpgdghlfaaDoor.L
end
