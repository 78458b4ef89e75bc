/- What Make and Apply come to. Conditions: those that each theorem states. -/
import Derived.Test.YtapoajpmmfddmaaScB
import Derived.Test.YtapoajpmmfddmaaScP
namespace Go.Proofs.Ytapoajpmmfddmaa.Sc
open Go.RowKit Go.Proofs.YtapoajpmmfddmaaW.PrintWords Go.Proofs.YtapoajpmmfddmaaW.PrintLast Go.Proofs.YtapoajpmmfddmaaW.PrintMore
attribute [local go_sem] max2_int min2_int max_two min_two max_three min_three max_four min_four
/-! ### Make -/
def MRel (a b : List Int) (t : List (List Int)) (w : World) (vt v : Value) (out : List Ed) (i j : Nat) (w' : World) : Prop :=
  MInv a b out i j ∧ Kd.R kEd 34 w' w.heap.size (fun _ => True) v out ∧ Kd.S kGrid 22 w' w.heap.size (fun _ => True) vt t ∧ Below w.heap.size w w'
theorem MRel.drewN {a b : List Int} {t : List (List Int)} {w w' : World} {vt v : Value} {out : List Ed} {i j : Nat} (h : MRel a b t w vt v out i j w') (n : Nat) : MRel a b t w vt v out i j (w'.drewN n) :=
  ⟨h.1, Kd.R_drewN h.2.1 n, Kd.S_drewN h.2.2.1 n, pw_below_drewN h.2.2.2 n⟩
/-- Behind a call of add, or an append: the table stands. -/
theorem MRel.grown {a b : List Int} {t : List (List Int)} {w w' w1 : World} {vt v v1 : Value} {out out1 : List Ed} {i j i1 j1 : Nat} (h : MRel a b t w vt v out i j w') (hM : MInv a b out1 i1 j1) (hR : Kd.R kEd 34 w1 w.heap.size (fun _ => True) v1 out1) (hB : Below w.heap.size w w1) (hg : w'.grownBy w1 v.ownBlock) : MRel a b t w vt v1 out1 i1 j1 w1 :=
  ⟨hM, hR, Kd.S_over' h.2.2.1 (Kd.R_typed h.2.1) (by decide) hg, hB⟩
theorem MInv.last {a b : List Int} {out : List Ed} {i j : Nat} (h : MInv a b out i j) (hl : a.length ≤ 1000000) {kd : Int} (hk : kd = 1 ∨ kd = 2) (he : (lastE out).kind = kd) : -1000000 ≤ (lastE out).n ∧ (lastE out).n ≤ 1000000 := by
  have := h.hi
  rcases snoc_cases out with rfl | ⟨o, e, rfl⟩
  · exact ⟨by decide, by decide⟩
  · rw [lastE_snoc] at he ⊢
    have := h.mem e (by simp)
    omega
def MakePost (a b : List Int) (w : World) (e : Ending) (w' : World) : Prop :=
  ∃ (v : Value) (l : List Ed), e = .returned v ∧ Kd.R kEd 34 w' w.heap.size (fun _ => True) v l ∧ Below w.heap.size w w' ∧ MInv a b l a.length b.length
set_option maxRecDepth 100000 in
set_option maxHeartbeats 8000000 in
theorem make_any (A0 : Option Addr) (c0 : Nat) (a : List Int) (A1 : Option Addr) (c1 : Nat) (b : List Int) (w : World) (hr0 : Kd.C (Kd.int .i64) w A0 a.length a) (hr1 : Kd.C (Kd.int .i64) w A1 b.length b)
    (ha : a.length ≤ 400000) (hb : b.length ≤ 400000) : Calls Try.prog 14 #[.slice A0 a.length c0, .slice A1 b.length c1] w (MakePost a b w) := by
  have HR0 := Aside0.mk hr0
  have HR1 := Aside0.mk hr1
  go_enter Try.func14, Try.ntmps14
  go_wp2_with (go_at_call 17; refine (common_any A0 c0 a A1 c1 b w hr0 hr1 (by omega) (by omega)).mono ?_; rintro e w1 ⟨vt, t, rfl, hS, hB, hF⟩; have HM := Aside0.mk (show MRel a b t w vt (.slice none 0 0) [] 0 0 w1 from ⟨MInv.start a b, Kd.R_nil _ _ _ _ _, hS, hB⟩); have HF := Aside0.mk hF; clear hS hB hF)
  clear hr0 hr1
  obtain ⟨g, cap, hv, -, -, -⟩ := Kd.S_form HM.out.2.2.1 (by rw [HF.out.1.1]; omega)
  rw [HF.out.1.1] at hv
  subst hv
  go_loopw [5, 7, 8] (fun v5 v7 v8 w' => ∃ (out : List Ed) (i j : Nat), v7 = .int .i64 i ∧ v8 = .int .i64 j ∧ i ≤ a.length ∧ j ≤ b.length ∧ Aside0 (MRel a b t w (.slice (some ⟨g, 0, none⟩) (a.length + 1) cap) v5 out i j w')) (fun _ v7 v8 _ => (a.length - (intOf v7).toNat) + (b.length - (intOf v8).toNat))
  case atStart => exact ⟨[], 0, 0, rfl, rfl, by omega, by omega, HM⟩
  case round =>
    clear HM
    obtain ⟨out, i, j, rfl, rfl, hi, hj, HM⟩ := hrel
    obtain ⟨Ao, co, rfl⟩ := Kd.R_slice HM.out.2.1
    by_cases hin : i < a.length
    · have di : decide ((i : Int) < (a.length : Int)) = true := decide_eq_true (by omega)
      by_cases hjm : j < b.length
      · have dj : decide ((j : Int) < (b.length : Int)) = true := decide_eq_true (by omega)
        have djn : ((j : Int) == (b.length : Int)) = false := by simp; omega
        obtain ⟨ad0, rfl, hx0⟩ := at_nat (Kd.C_below HR0.out HM.out.2.2.2) i hin
        obtain ⟨ad1, rfl, hx1⟩ := at_nat (Kd.C_below HR1.out HM.out.2.2.2) j hjm
        by_cases he : rd a (i : Int) = rd b (j : Int)
        · have hbe : (rd a (i : Int) == rd b (j : Int)) = true := by simpa using he
          have HK := Aside0.mk (MInv.keep HM.out.1 hin hjm he)
          clear he
          go_wp2
          go_quiet (fail)
          have HM2 := Aside0.mk (HM.out.drewN nq)
          clear HM
          generalize wr.drewN nq = W2 at HM2 ⊢
          go_wp2_with (go_at_call 18; refine (add_any _ out 1 w _ HM2.out.2.2.2 HM2.out.2.1 (by have := HM2.out.1.len; omega) (fun he => HM2.out.1.last (by omega) (by omega) he)).mono ?_; rintro e w2 ⟨v2, rfl, hR2, hB2, hg2⟩; have HN := Aside0.mk (HM2.out.grown HK.out hR2 hB2 hg2); clear hR2 hB2 hg2)
          go_roundw
          case rel => exact ⟨_, i + 1, j + 1, by go_num, by go_num, by omega, by omega, HN⟩
          case measure => simp [intOf]; omega
        · have hbe : (rd a (i : Int) == rd b (j : Int)) = false := by simpa using he
          have HL := Aside0.mk (Lc_ne (a := a) (b := b) hin hjm he)
          have HE : Aside0 (a = b → False) := ⟨fun e => he (same_eq HM.out.1 e)⟩
          clear he
          go_wp2
          go_quiet (fail)
          have HM2 := Aside0.mk (HM.out.drewN nq)
          clear HM hx0 hx1
          generalize wr.drewN nq = W2 at HM2 ⊢
          have hs := HF.out.1
          obtain ⟨gi, ci, hg0, hg1, -⟩ := grid_at HM2.out.2.2.1 i j (by omega) (by rw [hs.2 i (by omega)]; omega)
          obtain ⟨gn, cn, hn0, hn1, -⟩ := grid_at HM2.out.2.2.1 (i + 1) j (by omega) (by rw [hs.2 (i + 1) (by omega)]; omega)
          rw [hs.2 i (by omega)] at hg0 hg1
          rw [hs.2 (i + 1) (by omega)] at hn0 hn1
          have hg1' := hg1 (j + 1) (by omega)
          have hn1' := hn1 j (by omega)
          have e1 : rd (row t (i + 1)) (j : Int) = Lc a b (i + 1) j := HF.out.2 (i + 1) j (by omega) (by omega)
          have e2 : rd (row t i) ((j + 1 : Nat) : Int) = Lc a b i (j + 1) := HF.out.2 i (j + 1) (by omega) (by omega)
          rw [e1] at hn1'
          rw [e2] at hg1'
          obtain ⟨ad1', e1', hx1⟩ := at_nat (Kd.C_below HR1.out HM2.out.2.2.2) j hjm
          obtain rfl : ad1 = ad1' := by injection e1'
          clear e1 e2 e1' hg1 hn1 hs
          by_cases hge : Lc a b i (j + 1) ≤ Lc a b (i + 1) j
          · have dge : decide (Lc a b i (j + 1) ≤ Lc a b (i + 1) j) = true := decide_eq_true hge
            have HK := Aside0.mk (MInv.drop HM2.out.1 hin (by rw [HL.out]; omega) HE.out)
            clear hge
            go_wp2
            go_quiet (fail)
            have HM3 := Aside0.mk (HM2.out.drewN nq)
            clear HM2
            have HM2 := HM3
            clear HM3
            generalize W2.drewN nq = W3 at HM2 ⊢
            go_wp2_with (go_at_call 18; refine (add_any _ out 2 w _ HM2.out.2.2.2 HM2.out.2.1 (by have := HM2.out.1.len; omega) (fun he => HM2.out.1.last (by omega) (by omega) he)).mono ?_; rintro e w2 ⟨v2, rfl, hR2, hB2, hg2⟩; have HN := Aside0.mk (HM2.out.grown HK.out hR2 hB2 hg2); clear hR2 hB2 hg2)
            go_roundw
            case rel => exact ⟨_, i + 1, j, by go_num, rfl, by omega, by omega, HN⟩
            case measure => simp [intOf]; omega
          · have dge : decide (Lc a b i (j + 1) ≤ Lc a b (i + 1) j) = false := decide_eq_false hge
            have HK := Aside0.mk (MInv.put HM2.out.1 hjm (by rw [HL.out]; omega) HE.out)
            clear hge
            go_wp2
            go_quiet (fail)
            have HM3 := Aside0.mk (HM2.out.drewN nq)
            clear HM2
            have HM2 := HM3
            clear HM3
            generalize W2.drewN nq = W3 at HM2 ⊢
            obtain ⟨ad1', e1', hx1⟩ := at_nat (Kd.C_below HR1.out HM2.out.2.2.2) j hjm
            obtain rfl : ad1 = ad1' := by injection e1'
            clear e1'
            go_wp2_with (at_builtin; refine Kd.R_append kEd (w0 := w) w.heap.size rfl (.tmp 22) (.tmp 28) 23 34 _ 16 rfl Try.underlying23 info34 rfl (by decide) (by omega) _ out ⟨3, rd b (j : Int)⟩ [_, _] (fun _ => True) (fun _ => False) rfl rfl (kEd_mkM _ _ _ _) (fun _ h => h.elim) (fun _ _ => trivial) HM2.out.2.1 HM2.out.2.2.2 HM2.out.2.2.2.size (by have := HM2.out.1.len; omega) ?_; intro v2 w2 hR2 hB2 hg2 _; have HN := Aside0.mk (HM2.out.grown HK.out hR2 hB2 hg2); clear hR2 hB2 hg2)
            go_roundw
            case rel => exact ⟨_, i, j + 1, rfl, by go_num, by omega, by omega, HN⟩
            case measure => simp [intOf]; omega
      · have hj0 : j = b.length := by omega
        have dj : decide ((j : Int) < (b.length : Int)) = false := decide_eq_false (by omega)
        have djn : ((j : Int) == (b.length : Int)) = true := by simp; omega
        have HM2 := HM
        have HK := Aside0.mk (MInv.drop HM2.out.1 hin (by rw [Lc_last_right _ _ _ _ (by omega), Lc_last_right _ _ _ _ (by omega)]) (fun e => by obtain ⟨h, _⟩ := HM2.out.1.same e; subst e; omega))
        clear HM hj0
        go_wp2
        go_quiet (fail)
        have HM3 := Aside0.mk (HM2.out.drewN nq)
        clear HM2
        have HM2 := HM3
        clear HM3
        generalize wr.drewN nq = W2 at HM2 ⊢
        go_wp2
        go_quiet (fail)
        have HM3 := Aside0.mk (HM2.out.drewN nq)
        clear HM2
        have HM2 := HM3
        clear HM3
        generalize W2.drewN nq = W3 at HM2 ⊢
        go_wp2_with (go_at_call 18; refine (add_any _ out 2 w _ HM2.out.2.2.2 HM2.out.2.1 (by have := HM2.out.1.len; omega) (fun he => HM2.out.1.last (by omega) (by omega) he)).mono ?_; rintro e w2 ⟨v2, rfl, hR2, hB2, hg2⟩; have HN := Aside0.mk (HM2.out.grown HK.out hR2 hB2 hg2); clear hR2 hB2 hg2)
        go_roundw
        case rel => exact ⟨_, i + 1, j, by go_num, rfl, by omega, by omega, HN⟩
        case measure => simp [intOf]; omega
    · by_cases hjm : j < b.length
      · have di : decide ((i : Int) < (a.length : Int)) = false := decide_eq_false (by omega)
        have dj : decide ((j : Int) < (b.length : Int)) = true := decide_eq_true (by omega)
        have djn : ((j : Int) == (b.length : Int)) = false := by simp; omega
        obtain ⟨ad1, rfl, hx1⟩ := at_nat (Kd.C_below HR1.out HM.out.2.2.2) j hjm
        have HM2 := HM
        have HK := Aside0.mk (MInv.put HM2.out.1 hjm (by rw [Lc_last_left _ _ _ _ (by omega), Lc_last_left _ _ _ _ (by omega)]) (fun e => by obtain ⟨h, _⟩ := HM2.out.1.same e; subst e; omega))
        clear HM
        go_wp2
        go_quiet (fail)
        have HM3 := Aside0.mk (HM2.out.drewN nq)
        clear HM2
        have HM2 := HM3
        clear HM3
        generalize wr.drewN nq = W2 at HM2 ⊢
        go_wp2
        go_quiet (fail)
        have HM3 := Aside0.mk (HM2.out.drewN nq)
        clear HM2
        have HM2 := HM3
        clear HM3
        generalize W2.drewN nq = W3 at HM2 ⊢
        obtain ⟨ad1', e1', hx1⟩ := at_nat (Kd.C_below HR1.out HM2.out.2.2.2) j hjm
        obtain rfl : ad1 = ad1' := by injection e1'
        clear e1'
        go_wp2_with (at_builtin; refine Kd.R_append kEd (w0 := w) w.heap.size rfl (.tmp 22) (.tmp 28) 23 34 _ 16 rfl Try.underlying23 info34 rfl (by decide) (by omega) _ out ⟨3, rd b (j : Int)⟩ [_, _] (fun _ => True) (fun _ => False) rfl rfl (kEd_mkM _ _ _ _) (fun _ h => h.elim) (fun _ _ => trivial) HM2.out.2.1 HM2.out.2.2.2 HM2.out.2.2.2.size (by have := HM2.out.1.len; omega) ?_; intro v2 w2 hR2 hB2 hg2 _; have HN := Aside0.mk (HM2.out.grown HK.out hR2 hB2 hg2); clear hR2 hB2 hg2)
        go_roundw
        case rel => exact ⟨_, i, j + 1, rfl, by go_num, by omega, by omega, HN⟩
        case measure => simp [intOf]; omega
      · have di : decide ((i : Int) < (a.length : Int)) = false := decide_eq_false (by omega)
        have dj : decide ((j : Int) < (b.length : Int)) = false := decide_eq_false (by omega)
        have hi0 : i = a.length := by omega
        have hj0 : j = b.length := by omega
        have HMf := Aside0.mk (show MInv a b out a.length b.length from by rw [← hi0, ← hj0]; exact HM.out.1)
        clear hi0 hj0
        go_wp2
        go_ret
        exact ⟨_, out, rfl, HM.out.2.1, HM.out.2.2.2, HMf.out⟩
/-! ### Apply -/
theorem C_sub {w : World} {A : Option Addr} {k : IntKind} {xs : List Int} (h : (Kd.int k).C w A xs.length xs) (i m : Nat) (hm : i + m ≤ xs.length) : (Kd.int k).C w (A.map (fun x => x.add i)) m ((xs.drop i).take m) := by
  refine ⟨by rw [List.length_take, List.length_drop]; omega, by have := h.2.1; omega, fun hp => ?_⟩
  obtain ⟨ad, rfl, hc⟩ := h.2.2 (by omega)
  refine ⟨_, rfl, fun j p hj => ?_⟩
  rw [List.getElem?_take] at hj
  split at hj
  · rw [List.getElem?_drop] at hj
    obtain ⟨c, h1, h2, h3⟩ := hc (i + j) p hj
    refine ⟨c, h1, h2, fun q u hu => ?_⟩
    have := h3 q u hu
    rw [show (Kd.int k).sz = 1 from rfl] at this ⊢
    rw [Addr.add_add, show i + (j * 1 + q) = (i + j) * 1 + q from by omega]
    exact this
  · cases hj
def ApplyPost (a : List Int) (l : List Ed) (w : World) (e : Ending) (w' : World) : Prop :=
  ∃ v : Value, e = .returned (.tuple #[v, .bool (app a l).2]) ∧ Kd.R (Kd.int .i64) 3 w' w.heap.size (fun _ => True) v (app a l).1 ∧ Below w.heap.size w w'
def ARel (a : List Int) (l : List Ed) (w : World) (v : Value) (k p : Nat) (w' : World) : Prop :=
  ∃ o, runE a (l.take k) = some (o, a.drop p) ∧ p ≤ a.length ∧ o.length ≤ p + k ∧ Kd.R (Kd.int .i64) 3 w' w.heap.size (fun _ => True) v o ∧ Below w.heap.size w w'
theorem app_none {a : List Int} {l : List Ed} (h : runE a l = none) : app a l = ([], false) := by unfold app; rw [h]
theorem app_some {a o r : List Int} {l : List Ed} (h : runE a l = some (o, r)) : app a l = if r = [] then (o, true) else ([], false) := by
  unfold app; rw [h]; cases r <;> rfl
theorem ret_app {a : List Int} {l : List Ed} {v : Value} {b : Bool} (h : b = (app a l).2) : Ending.returned (.tuple #[v, .bool b]) = .returned (.tuple #[v, .bool (app a l).2]) := by rw [h]
theorem runE_bad {a o r : List Int} {l : List Ed} {k : Nat} (hk : k < l.length) (h : runE a (l.take k) = some (o, r)) (h3 : ¬ (ed l k).kind = 3) (hb : ¬ (((ed l k).kind = 1 ∨ (ed l k).kind = 2) ∧ 1 ≤ (ed l k).n ∧ (ed l k).n ≤ (r.length : Int))) : app a l = ([], false) := by
  refine app_none (runE_none (k := k + 1) ?_)
  rw [runE_step hk, h]
  unfold stepE
  simp only []
  rw [if_neg h3, if_neg hb]
set_option maxRecDepth 100000 in
set_option maxHeartbeats 8000000 in
theorem apply_any (A0 : Option Addr) (c0 : Nat) (a : List Int) (A1 : Option Addr) (c1 : Nat) (l : List Ed) (w : World) (hr0 : Kd.C (Kd.int .i64) w A0 a.length a) (hc0 : a.length ≤ c0) (hr1 : Kd.C kEd w A1 l.length l)
    (ha : a.length ≤ 400000) (hl : l.length ≤ 1000000) : Calls Try.prog 9 #[.slice A0 a.length c0, .slice A1 l.length c1] w (ApplyPost a l w) := by
  have HR0 := Aside0.mk hr0
  have HR1 := Aside0.mk hr1
  have HB0 := Aside0.mk (Below.refl w.heap.size w)
  clear hr0 hr1
  go_enter Try.func9, Try.ntmps9
  go_wp2
  go_loopw [6, 7, 12] (fun v6 v7 v12 w' => ∃ k p : Nat, v12 = .int .i64 k ∧ v7 = .int .i64 p ∧ k ≤ l.length ∧ p ≤ a.length ∧ Aside0 (ARel a l w v6 k p w')) (fun _ _ v12 _ => l.length - (intOf v12).toNat)
  case atStart => exact ⟨0, 0, rfl, rfl, by omega, by omega, ⟨[], rfl, by omega, by simp, Kd.R_nil _ _ _ _ _, HB0.out⟩⟩
  case round =>
    clear HB0
    obtain ⟨k, p, rfl, rfl, hk, hp, HA⟩ := hrel
    obtain ⟨o, HRun, -, HLen, HO, HB⟩ := HA
    have HRun := Aside0.mk HRun
    have HLen := Aside0.mk HLen
    have HO := Aside0.mk HO
    have HB := Aside0.mk HB
    obtain ⟨Ao, co, rfl⟩ := Kd.R_slice HO.out
    by_cases hlt : k < l.length
    · obtain ⟨ad1, rfl, hx0, hx1⟩ := at_ed (Kd.C_below HR1.out HB.out) k hlt
      have HS := Aside0.mk (runE_step (a := a) hlt)
      by_cases h3 : (ed l k).kind = 3
      · have hb3 : ((ed l k).kind == 3) = true := by simpa using h3
        have HN : Aside0 (runE a (l.take (k + 1)) = some (o ++ [(ed l k).n], a.drop p)) := ⟨by rw [HS.out, HRun.out]; unfold stepE; simp only []; rw [if_pos h3]⟩
        clear h3
        go_wp2_with (at_builtin; (refine Kd.R_append (Kd.int .i64) (w0 := w) w.heap.size rfl (.tmp 36) (.tmp 39) 22 3 (.int .i64 0) 8 rfl Try.underlying22 info3 rfl (by decide) (by omega) (.slice Ao o.length co) o (ed l k).n [.int .i64 (ed l k).n] (fun _ => True) (fun _ => False) rfl (by go_simp) rfl (fun _ h => h.elim) (fun _ _ => trivial) (Kd.R_alloc HO.out _) (below_alloc HB.out _) (below_alloc HB.out _).size (by have := HLen.out; omega) ?_); intro v2 w2 hR2 hB2 _ _; have HF := Aside0.mk (show ARel a l w v2 (k + 1) p w2 from ⟨_, HN.out, hp, by have := HLen.out; simp; omega, hR2, hB2⟩); clear hR2 hB2)
        go_roundw
        case rel => exact ⟨k + 1, p, by go_num, rfl, by omega, by omega, HF⟩
        case measure => simp [intOf]; omega
      · have hb3 : ((ed l k).kind == 3) = false := by simpa using h3
        by_cases hn1 : (ed l k).n < 1
        · have d1 : decide ((ed l k).n < 1) = true := decide_eq_true hn1
          have HBad := Aside0.mk (runE_bad hlt HRun.out h3 (fun h => by omega))
          clear h3 hn1
          go_wp2
          go_ret2
          exact ⟨_, ret_app (by rw [HBad.out]), by rw [HBad.out]; exact Kd.R_nil _ _ _ _ _, below_alloc HB.out _⟩
        · have d1 : decide ((ed l k).n < 1) = false := decide_eq_false hn1
          by_cases hn2 : (a.length : Int) - p < (ed l k).n
          · have d2 : decide ((a.length : Int) - p < (ed l k).n) = true := decide_eq_true hn2
            have HBad := Aside0.mk (runE_bad hlt HRun.out h3 (fun h => by have := h.2.2; rw [List.length_drop] at this; omega))
            clear h3 hn1 hn2
            go_wp2
            go_ret2
            exact ⟨_, ret_app (by rw [HBad.out]), by rw [HBad.out]; exact Kd.R_nil _ _ _ _ _, below_alloc HB.out _⟩
          · have d2 : decide ((a.length : Int) - p < (ed l k).n) = false := decide_eq_false hn2
            obtain ⟨n, hn⟩ := Int.eq_ofNat_of_zero_le (show 0 ≤ (ed l k).n by omega)
            rw [hn] at hx1 d1 d2
            by_cases h1 : (ed l k).kind = 1
            · have e1 : ((ed l k).kind == 1) = true := by simpa using h1
              have e1' : ((ed l k).kind != 1) = false := by simpa using h1
              have HN : Aside0 (runE a (l.take (k + 1)) = some (o ++ (a.drop p).take n, a.drop (p + n))) := ⟨by
                rw [HS.out, HRun.out]; unfold stepE; simp only []
                rw [if_neg h3, if_pos ⟨.inl h1, by omega, by rw [List.length_drop]; omega⟩, if_pos h1, hn, Int.toNat_natCast, List.drop_drop]⟩
              clear h3 h1
              go_wp2_with (at_builtin; go_loud (refine Kd.R_append_rows (Kd.int .i64) (Rr := fun x cs => cs = [.int .i64 x]) (w0 := w) w.heap.size rfl (.tmp 19) (.tmp 26) 22 3 (.int .i64 0) 8 rfl Try.underlying22 info3 rfl (by decide) (by omega) (.slice Ao o.length co) o ((a.drop p).take n) _ _ _ (fun _ => True) (fun _ => False) rfl rfl (Kd.R_alloc HO.out _) (by rw [show p + n - p = n from by omega]; exact C_sub (Kd.C_alloc (Kd.C_below HR0.out HB.out) _) p n (by omega)) (fun _ _ h => h) (fun _ h => h.elim) (fun _ _ => trivial) (below_alloc HB.out _) (below_alloc HB.out _).size (by have := HLen.out; omega) ?_; intro v2 w2 hR2 hB2 hg2 _; have hcx : w2.cell? ⟨wr.heap.size, 1, none⟩ = some (.int .i64 (n : Int)) := World.grownBy.cell hg2 (by go_simp) (fun he => absurd (Kd.R_lt HO.out _ he.symm) (Nat.lt_irrefl _)); have HF := Aside0.mk (show ARel a l w v2 (k + 1) (p + n) w2 from ⟨_, HN.out, by omega, by have := HLen.out; simp; omega, hR2, hB2⟩); clear hR2 hB2 hg2))
              go_roundw
              case rel => exact ⟨k + 1, p + n, by go_num, by go_num, by omega, by omega, HF⟩
              case measure => simp [intOf]; omega
            · have e1 : ((ed l k).kind == 1) = false := by simpa using h1
              have e1' : ((ed l k).kind != 1) = true := by simpa using h1
              by_cases h2 : (ed l k).kind = 2
              · have e2' : ((ed l k).kind != 2) = false := by simpa using h2
                have HN : Aside0 (runE a (l.take (k + 1)) = some (o, a.drop (p + n))) := ⟨by
                  rw [HS.out, HRun.out]; unfold stepE; simp only []
                  rw [if_neg h3, if_pos ⟨.inr h2, by omega, by rw [List.length_drop]; omega⟩, if_neg h1, hn, Int.toNat_natCast, List.drop_drop, List.append_nil]⟩
                clear h3 h1 h2
                go_wp2
                go_roundw
                case rel => exact ⟨k + 1, p + n, by go_num, by go_num, by omega, by omega, ⟨o, HN.out, by omega, by have := HLen.out; omega, Kd.R_alloc HO.out _, below_alloc HB.out _⟩⟩
                case measure => simp [intOf]; omega
              · have e2' : ((ed l k).kind != 2) = true := by simpa using h2
                have HBad := Aside0.mk (runE_bad hlt HRun.out h3 (fun h => by omega))
                clear h3 h1 h2
                go_wp2
                go_ret2
                exact ⟨_, ret_app (by rw [HBad.out]), by rw [HBad.out]; exact Kd.R_nil _ _ _ _ _, below_alloc HB.out _⟩
    · have HFin := Aside0.mk (app_some (a := a) (l := l) (o := o) (r := a.drop p) (by have := HRun.out; rwa [List.take_of_length_le (by omega)] at this))
      by_cases hpe : p = a.length
      · have hbe : ((p : Int) != (a.length : Int)) = false := by simp; omega
        have HFin2 : Aside0 (app a l = (o, true)) := ⟨by rw [HFin.out, if_pos (by rw [hpe, List.drop_length])]⟩
        clear hpe
        go_wp2
        go_ret2
        exact ⟨_, ret_app (by rw [HFin2.out]), by rw [HFin2.out]; exact HO.out, HB.out⟩
      · have hbe : ((p : Int) != (a.length : Int)) = true := by simp; omega
        have HFin2 : Aside0 (app a l = ([], false)) := ⟨by rw [HFin.out, if_neg (fun h => by have := congrArg List.length h; rw [List.length_drop] at this; simp at this; omega)]⟩
        clear hpe
        go_wp2
        go_ret2
        exact ⟨_, ret_app (by rw [HFin2.out]), by rw [HFin2.out]; exact Kd.R_nil _ _ _ _ _, HB.out⟩
end Go.Proofs.Ytapoajpmmfddmaa.Sc
