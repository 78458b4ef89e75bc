/- What the reference's Apply, Best and Same come to; literals. Conditions: those that each theorem states. -/
import Derived.Test.YtapoajpmmfddmaaScC
import Derived.Test.YtapoajpmmfddmaaWEqStruct
namespace Go.Proofs.Ytapoajpmmfddmaa.Sc
open Go.RowKit Go.Proofs.YtapoajpmmfddmaaW.PrintWords Go.Proofs.YtapoajpmmfddmaaW.PrintLast Go.Proofs.YtapoajpmmfddmaaW.PrintMore
attribute [local go_sem] max2_int min2_int max_two min_two max_three min_three max_four min_four
/-! ### the reference's Apply -/
theorem R_empty {α : Type} (d : Kd α) (e : Nat) (W : World) (base : Nat) (hb : base ≤ W.heap.size) : d.R e (W.alloc (.cells #[] e)) base (fun _ => True) (.slice (some ⟨W.heap.size, 0, none⟩) 0 0) [] :=
  ⟨fun _ _ => trivial, OwnRow.lit W base (Reps.none _ _) hb (by simp)⟩
def RARel (a : List Int) (l : List Ed) (w : World) (v0 v : Value) (k : Nat) (r : List Int) (w' : World) : Prop :=
  ∃ o A c, v0 = .slice A r.length c ∧ r.length ≤ c ∧ Kd.C (Kd.int .i64) w A r.length r ∧ runE a (l.take k) = some (o, r) ∧ o.length + r.length ≤ a.length + k ∧ Kd.R (Kd.int .i64) 3 w' w.heap.size (fun _ => True) v o ∧ Below w.heap.size w w'
set_option maxRecDepth 100000 in
set_option maxHeartbeats 8000000 in
theorem rapply_any (A0 : Option Addr) (c0 : Nat) (a : List Int) (A1 : Option Addr) (c1 : Nat) (l : List Ed) (w : World) (hr0 : Kd.C (Kd.int .i64) w A0 a.length a) (hc0 : a.length ≤ c0) (hr1 : Kd.C kEd w A1 l.length l)
    (ha : a.length ≤ 400000) (hl : l.length ≤ 1000000) : Calls Try.prog 10 #[.slice A0 a.length c0, .slice A1 l.length c1] w (ApplyPost a l w) := by
  have HR0 := Aside0.mk hr0
  have HR1 := Aside0.mk hr1
  have HB0 := Aside0.mk (Below.refl w.heap.size w)
  clear hr0 hr1
  go_enter Try.func10, Try.ntmps10
  go_wp2
  go_loopw [0, 6, 7, 8] (fun v0 v6 v7 v8 w' => ∃ (k : Nat) (r : List Int), v7 = .int .i64 k ∧ k ≤ l.length ∧ r.length ≤ a.length ∧ Aside0 (RARel a l w v0 v6 k r w')) (fun _ _ v7 _ _ => l.length - (intOf v7).toNat)
  case atStart => exact ⟨0, a, rfl, by omega, by omega, ⟨[], _, _, rfl, hc0, HR0.out, rfl, by simp, R_empty _ _ _ _ (Nat.le_refl _), below_alloc HB0.out _⟩⟩
  case round =>
    clear HB0
    obtain ⟨k, r, rfl, hk, hrl, HA⟩ := hrel
    obtain ⟨o, Aa, ca, rfl, hca, HC, HRun, HLen, HO, HB⟩ := HA
    have HC := Aside0.mk HC
    have HRun := Aside0.mk HRun
    have HLen := Aside0.mk HLen
    have HO := Aside0.mk HO
    have HB := Aside0.mk HB
    obtain ⟨Ao, co, rfl⟩ := Kd.R_slice HO.out
    by_cases hlt : k < l.length
    · obtain ⟨ad1, rfl, hx0, hx1⟩ := at_ed (Kd.C_below HR1.out HB.out) k hlt
      have HS := Aside0.mk (runE_step (a := a) hlt)
      by_cases h3 : (ed l k).kind = 3
      · have hb3 : ((ed l k).kind == 3) = true := by simpa using h3
        have HN : Aside0 (runE a (l.take (k + 1)) = some (o ++ [(ed l k).n], r)) := ⟨by rw [HS.out, HRun.out]; unfold stepE; simp only []; rw [if_pos h3]⟩
        clear h3
        go_wp2_with (at_builtin; refine Kd.R_append (Kd.int .i64) (w0 := w) w.heap.size rfl (.tmp 27) (.tmp 29) 22 3 (.int .i64 0) 8 rfl Try.underlying22 info3 rfl (by decide) (by omega) (.slice Ao o.length co) o (ed l k).n [.int .i64 (ed l k).n] (fun _ => True) (fun _ => False) rfl (by go_simp) rfl (fun _ h => h.elim) (fun _ _ => trivial) HO.out HB.out HB.out.size (by have := HLen.out; omega) ?_; intro v2 w2 hR2 hB2 _ _; have HF := Aside0.mk (show RARel a l w (.slice Aa r.length ca) v2 (k + 1) r w2 from ⟨_, _, _, rfl, hca, HC.out, HN.out, by have := HLen.out; simp; omega, hR2, hB2⟩); clear hR2 hB2)
        go_roundw
        case rel => exact ⟨k + 1, r, by go_num, by omega, by omega, HF⟩
        case measure => simp [intOf]; omega
      · have hb3 : ((ed l k).kind == 3) = false := by simpa using h3
        by_cases hkk : (ed l k).kind = 1 ∨ (ed l k).kind = 2
        · by_cases hn1 : (ed l k).n < 1
          · have d1 : decide ((ed l k).n < 1) = true := decide_eq_true hn1
            have HBad := Aside0.mk (runE_bad hlt HRun.out h3 (fun h => by omega))
            rcases hkk with h | h
            all_goals
              rw [h] at hx0
              clear h3 hn1 hb3 h
              go_wp2
              go_ret2
              exact ⟨_, ret_app (by rw [HBad.out]), by rw [HBad.out]; exact Kd.R_nil _ _ _ _ _, HB.out⟩
          · have d1 : decide ((ed l k).n < 1) = false := decide_eq_false hn1
            by_cases hn2 : (r.length : Int) < (ed l k).n
            · have d2 : decide ((r.length : Int) < (ed l k).n) = true := decide_eq_true hn2
              have HBad := Aside0.mk (runE_bad hlt HRun.out h3 (fun h => by have := h.2.2; omega))
              rcases hkk with h | h
              all_goals
                rw [h] at hx0
                clear h3 hn1 hn2 hb3 h
                go_wp2
                go_ret2
                exact ⟨_, ret_app (by rw [HBad.out]), by rw [HBad.out]; exact Kd.R_nil _ _ _ _ _, HB.out⟩
            · have d2 : decide ((r.length : Int) < (ed l k).n) = false := decide_eq_false hn2
              obtain ⟨n, hn⟩ := Int.eq_ofNat_of_zero_le (show 0 ≤ (ed l k).n by omega)
              rw [hn] at hx1 d1 d2
              have hnr : n ≤ r.length := by omega
              have hdl : (r.drop n).length = r.length - n := List.length_drop
              have HD := Aside0.mk (Kd.C_drop HC.out (m := n) (c := ca) (by omega) hca)
              rw [show (Kd.int .i64).sz = 1 from rfl, Nat.mul_one] at HD
              by_cases h1 : (ed l k).kind = 1
              · have HN : Aside0 (runE a (l.take (k + 1)) = some (o ++ r.take n, r.drop n)) := ⟨by
                  rw [HS.out, HRun.out]; unfold stepE; simp only []
                  rw [if_neg h3, if_pos ⟨.inl h1, by omega, by omega⟩, if_pos h1, hn, Int.toNat_natCast]⟩
                rw [h1] at hx0
                have HDL := Aside0.mk hdl
                clear h3 hb3 h1 hkk hn hdl
                go_wp2_with (at_builtin; go_loud (refine Kd.R_append_rows (Kd.int .i64) (Rr := fun x cs => cs = [.int .i64 x]) (w0 := w) w.heap.size rfl (.tmp 61) (.tmp 64) 22 3 (.int .i64 0) 8 rfl Try.underlying22 info3 rfl (by decide) (by omega) (.slice Ao o.length co) o (r.take n) _ _ _ (fun _ => True) (fun _ => False) rfl rfl HO.out (by have := Kd.C_take (m := n) (Kd.C_below HC.out HB.out) (by omega); rw [List.length_take, Nat.min_eq_left (by omega)] at this; exact this) (fun _ _ h => h) (fun _ h => h.elim) (fun _ _ => trivial) HB.out HB.out.size (by have := HLen.out; omega) ?_; intro v2 w2 hR2 hB2 _ _; have HF := Aside0.mk (show ∀ v0, v0 = .slice _ _ _ → RARel a l w v0 v2 (k + 1) (r.drop n) w2 from fun v0 hv0 => ⟨_, _, ca - n, by rw [hv0, HDL.out], by rw [HDL.out]; omega, HD.out, HN.out, by have := HLen.out; have := HDL.out; simp; omega, hR2, hB2⟩); clear hR2 hB2))
                go_roundw
                case rel => exact ⟨k + 1, r.drop n, by go_num, by omega, by rw [HDL.out]; omega, ⟨HF.out _ rfl⟩⟩
                case measure => simp [intOf]; omega
              · have HN : Aside0 (runE a (l.take (k + 1)) = some (o, r.drop n)) := ⟨by
                  rw [HS.out, HRun.out]; unfold stepE; simp only []
                  rw [if_neg h3, if_pos ⟨hkk, by omega, by omega⟩, if_neg h1, hn, Int.toNat_natCast, List.append_nil]⟩
                have e1 : ((ed l k).kind == 1) = false := by simpa using h1
                have e1' : ((ed l k).kind != 1) = true := by simpa using h1
                have e2 : ((ed l k).kind != 2) = false := by simp; omega
                have HDL := Aside0.mk hdl
                clear h3 hb3 h1 hkk hn hdl
                go_wp2
                go_roundw
                case rel => exact ⟨k + 1, r.drop n, by go_num, by omega, by rw [HDL.out]; omega, ⟨o, _, ca - n, by rw [HDL.out], by rw [HDL.out]; omega, HD.out, HN.out, by have := HLen.out; have := HDL.out; omega, HO.out, HB.out⟩⟩
                case measure => simp [intOf]; omega
        · have HBad := Aside0.mk (runE_bad hlt HRun.out h3 (fun h => hkk h.1))
          have e1 : ((ed l k).kind != 1) = true := by simp; omega
          have e2 : ((ed l k).kind != 2) = true := by simp; omega
          clear h3 hkk
          go_wp2
          go_ret2
          exact ⟨_, ret_app (by rw [HBad.out]), by rw [HBad.out]; exact Kd.R_nil _ _ _ _ _, HB.out⟩
    · have HFin := Aside0.mk (app_some (a := a) (l := l) (o := o) (r := r) (by have := HRun.out; rwa [List.take_of_length_le (by omega)] at this))
      by_cases hpe : 0 < r.length
      · have hbe : decide (0 < r.length) = true := decide_eq_true hpe
        have HFin2 : Aside0 (app a l = ([], false)) := ⟨by rw [HFin.out, if_neg (fun h => by rw [h] at hpe; simp at hpe)]⟩
        clear hpe
        go_wp2
        go_ret2
        exact ⟨_, ret_app (by rw [HFin2.out]), by rw [HFin2.out]; exact Kd.R_nil _ _ _ _ _, HB.out⟩
      · have hbe : decide (0 < r.length) = false := decide_eq_false hpe
        have HFin2 : Aside0 (app a l = (o, true)) := ⟨by rw [HFin.out, if_pos (List.eq_nil_of_length_eq_zero (by omega))]⟩
        clear hpe
        go_wp2
        go_ret2
        exact ⟨_, ret_app (by rw [HFin2.out]), by rw [HFin2.out]; exact HO.out, HB.out⟩
/-! ### the reference's Best -/
def IsRow (a b : List Int) (i : Nat) (r : List Int) : Prop := r.length = b.length + 1 ∧ ∀ k, k ≤ b.length → rd r (k : Int) = Pc a b i k
/-- row i is read; of row i + 1 the first k entries are there. -/
def BRel (a b : List Int) (w : World) (v5 v7 : Value) (i k : Nat) (w' : World) : Prop :=
  ∃ r nx, IsRow a b i r ∧ nx.length = b.length + 1 ∧ (∀ j, j < k → rd nx (j : Int) = Pc a b (i + 1) j) ∧ Kd.R (Kd.int .i64) 3 w' w.heap.size (fun q => True ∧ some q ≠ v7.ownBlock) v5 r ∧ Kd.R (Kd.int .i64) 3 w' w.heap.size (fun _ => True) v7 nx ∧ Below w.heap.size w w'
theorem BRel.drewN {a b : List Int} {w w' : World} {v5 v7 : Value} {i k : Nat} (h : BRel a b w v5 v7 i k w') (n : Nat) : BRel a b w v5 v7 i k (w'.drewN n) := by
  obtain ⟨r, nx, h1, h2, h3, h4, h5, h6⟩ := h
  exact ⟨r, nx, h1, h2, h3, Kd.R_drewN h4 n, Kd.R_drewN h5 n, pw_below_drewN h6 n⟩
theorem rd_repl (n k : Nat) : rd (List.replicate n (0 : Int)) (k : Int) = 0 := by
  unfold rd
  rw [Int.toNat_natCast, List.getD_eq_getElem?_getD, List.getElem?_replicate]
  split <;> rfl
theorem BRel.store {a b : List Int} {w w' : World} {g7 cap : Nat} {v5 : Value} {i k : Nat} (h : BRel a b w v5 (.slice (some ⟨g7, 0, none⟩) (b.length + 1) cap) i k w') (hk : k ≤ b.length) (v : Int) (hv : v = Pc a b (i + 1) k) :
    BRel a b w v5 (.slice (some ⟨g7, 0, none⟩) (b.length + 1) cap) i (k + 1) (w'.setCell ⟨g7, k, none⟩ (.int .i64 v)) := by
  obtain ⟨r, nx, h1, h2, h3, h4, h5, h6⟩ := h
  obtain ⟨c, hcl, hM, hcc, hfr⟩ := R_elemN h5 0 k (by omega)
  obtain ⟨hs, hg⟩ := R_segN h5 k (by omega) (seg := [.int .i64 v]) (j := 0) hcl hcc (Nat.le_refl 1) (x' := v) (okp := fun _ => False) (by simp [hcl, show (Kd.int .i64).sz = 1 from rfl, List.drop_eq_nil_of_le]; rfl) (fun _ h => h.elim)
  have e : w'.setCells g7 (k * (Kd.int .i64).sz + 0) [.int .i64 v] = w'.setCell ⟨g7, k, none⟩ (.int .i64 v) := by
    rw [show (Kd.int .i64).sz = 1 from rfl, Nat.mul_one]; rfl
  rw [e] at hs hg
  refine ⟨r, nx.set k v, h1, by rw [List.length_set]; exact h2, fun j hj => ?_, Kd.R_grown h4 hg (fun q hq => hq.2), hs, below_set h6 (Kd.R_base h5 g7 (by simp [Value.ownBlock]))⟩
  rw [rd_set _ _ _ _ (by omega)]
  by_cases hjk : j = k
  · rw [if_pos hjk, hv, hjk]
  · rw [if_neg hjk]; exact h3 j (by omega)
theorem BRel.below {a b : List Int} {w w' : World} {v5 v7 : Value} {i k : Nat} (h : BRel a b w v5 v7 i k w') : Below w.heap.size w w' := by
  obtain ⟨r, nx, h1, h2, h3, h4, h5, h6⟩ := h
  exact h6
theorem ints_cell {W : World} {base g n cap : Nat} {ok : Nat → Prop} {xs : List Int} (h : (Kd.int .i64).R 3 W base ok (.slice (some ⟨g, 0, none⟩) n cap) xs) (k : Nat) (hk : k < n) : W.cell? ⟨g, k, none⟩ = some (.int .i64 (rd xs (k : Int))) ∧ W.frozen? ⟨g, k, none⟩ = false := by
  obtain ⟨c, hcl, hM, hcc, hfr⟩ := R_elemN h 0 k hk
  obtain rfl : c = [.int .i64 (xs.getD k 0)] := hM
  have h1 := hcc 0 _ rfl
  have h2 := hfr 0
  exact ⟨by simpa [show (Kd.int .i64).sz = 1 from rfl, rd] using h1, by simpa [show (Kd.int .i64).sz = 1 from rfl] using h2⟩
theorem BRel.cells {a b : List Int} {w w' : World} {g5 c5 g7 c7 : Nat} {i k : Nat} (h : BRel a b w (.slice (some ⟨g5, 0, none⟩) (b.length + 1) c5) (.slice (some ⟨g7, 0, none⟩) (b.length + 1) c7) i (k + 1) w') (hk : k < b.length) :
    w'.cell? ⟨g5, k + 1, none⟩ = some (.int .i64 (Pc a b i (k + 1))) ∧ w'.cell? ⟨g5, k, none⟩ = some (.int .i64 (Pc a b i k)) ∧ w'.cell? ⟨g7, k, none⟩ = some (.int .i64 (Pc a b (i + 1) k)) ∧ (∃ x, w'.cell? ⟨g7, k + 1, none⟩ = some x) ∧ w'.frozen? ⟨g7, k + 1, none⟩ = false := by
  obtain ⟨r, nx, h1, h2, h3, h4, h5, h6⟩ := h
  have e1 := (ints_cell h4 (k + 1) (by omega)).1
  have e2 := (ints_cell h4 k (by omega)).1
  have e3 := (ints_cell h5 k (by omega)).1
  rw [h1.2 _ (by omega)] at e1 e2
  rw [h3 k (by omega)] at e3
  exact ⟨e1, e2, e3, ⟨_, (ints_cell h5 (k + 1) (by omega)).1⟩, (ints_cell h5 (k + 1) (by omega)).2⟩
set_option maxRecDepth 100000 in
set_option maxHeartbeats 8000000 in
theorem best_any (A0 : Option Addr) (c0 : Nat) (a : List Int) (A1 : Option Addr) (c1 : Nat) (b : List Int) (w : World) (hr0 : Kd.C (Kd.int .i64) w A0 a.length a) (hr1 : Kd.C (Kd.int .i64) w A1 b.length b)
    (ha : a.length ≤ 400000) (hb : b.length ≤ 400000) : Calls Try.prog 15 #[.slice A0 a.length c0, .slice A1 b.length c1] w fun e w' => e = .returned (.int .i64 (lcs a b)) ∧ Below w.heap.size w w' := by
  have HR0 := Aside0.mk hr0
  have HR1 := Aside0.mk hr1
  have HB := Aside0.mk (Below.refl w.heap.size w)
  clear hr0 hr1
  have EB := Aside0.mk (show ((b.length : Int) + 1).toNat = b.length + 1 by omega)
  go_enter Try.func15, Try.ntmps15
  go_wp2_with (refine Kd.R_make (Kd.int .i64) (w0 := w) w.heap.size 3 rfl (N := 13) rfl 22 _ _ rfl ((b.length : Int) + 1) rfl rfl Try.underlying22 (.int .i64 0) 8 info3 rfl (by decide) (by omega) 0 (ok := fun _ => True) (okp := fun _ => True) rfl (fun _ hk => hk) trivial (by omega) (by omega) HB.out HB.out.size ?_; intro v1 w1 ho hb1 _ _; rw [EB.out] at ho; have HO := Aside0.mk ho; have HB1 := Aside0.mk hb1; clear ho hb1 HB)
  go_loopw [5, 6, 7, 8, 9] (fun v5 v6 v7 v8 v9 w' => ∃ (i : Nat) (r : List Int), v6 = .int .i64 i ∧ i ≤ a.length ∧ Aside0 (IsRow a b i r) ∧ Aside0 (Kd.R (Kd.int .i64) 3 w' w.heap.size (fun _ => True) v5 r) ∧ Aside0 (Below w.heap.size w w')) (fun _ v6 _ _ _ _ => a.length - (intOf v6).toNat)
  case atStart => exact ⟨0, _, rfl, by omega, ⟨by simp, fun k _ => by rw [rd_repl, Pc_zero_left]⟩, HO, HB1⟩
  case round =>
    clear HO HB1
    obtain ⟨i, r, rfl, hi, HI, HO, HB⟩ := hrel
    have hrl := HI.out.1
    obtain ⟨g5, cap5, rfl, -, hl5, -⟩ := Kd.R_form HO.out (by omega)
    have HRL := Aside0.mk hrl
    clear hrl
    by_cases hin : i < a.length
    · go_wp2_with (refine Kd.R_make (Kd.int .i64) (w0 := w) w.heap.size 3 rfl (N := 23) rfl 22 _ _ rfl ((b.length : Int) + 1) rfl rfl Try.underlying22 (.int .i64 0) 8 info3 rfl (by decide) (by omega) 0 (ok := fun _ => True) (okp := fun _ => True) rfl (fun _ hk => hk) trivial (by omega) (by omega) HB.out HB.out.size ?_; intro v1 w1 ho hb1 hg1 hn1; rw [EB.out] at ho; have HBR := Aside0.mk (show BRel a b w (.slice (some ⟨g5, 0, none⟩) r.length cap5) v1 i 1 w1 from ⟨r, _, HI.out, by simp, fun j hj => by rw [rd_repl, show j = 0 from by omega, Pc_zero_right], Kd.R_mono (Kd.R_grown (Kd.R_bound HO.out) hg1 (fun k _ => by simp)) (fun k hk => ⟨trivial, fun he => by obtain ⟨b', hb', hle⟩ := hn1; rw [hb'] at he; injection he with he; have := hk.2.2.1; omega⟩), ho, hb1⟩); obtain ⟨g7, cap7, ev, -, -, -⟩ := Kd.R_form ho (by rw [List.length_replicate]; omega); rw [List.length_replicate] at ev; subst ev; clear ho hb1 hg1 hn1 HO HB)
      rw [HRL.out] at HBR
      rw [HRL.out]
      go_loopw [8, 9] (fun v8 v9 w' => ∃ k : Nat, v8 = .int .i64 ((k : Int) + 1) ∧ k ≤ b.length ∧ Aside0 (BRel a b w (.slice (some ⟨g5, 0, none⟩) (b.length + 1) cap5) (.slice (some ⟨g7, 0, none⟩) (b.length + 1) cap7) i (k + 1) w')) (fun v8 _ _ => b.length + 1 - (intOf v8).toNat)
      case atStart => exact ⟨0, by simp, by omega, HBR⟩
      case round =>
        clear HBR
        obtain ⟨k, rfl, hk, HBR⟩ := hrel
        by_cases hkb : k < b.length
        · obtain ⟨ad0, rfl, hx0⟩ := at_nat (Kd.C_below HR0.out HBR.out.below) i hin
          obtain ⟨ad1, rfl, hx1⟩ := at_nat (Kd.C_below HR1.out HBR.out.below) k hkb
          obtain ⟨y1, y2, y3, y4, y5⟩ := HBR.out.cells hkb
          have n1 : ((k : Int) + 1).toNat = k + 1 := by omega
          have q1 : (k : Int) + 1 ≤ (b.length : Int) := by omega
          have b1 := Pc_bound a b i (k + 1)
          have b2 := Pc_bound a b (i + 1) k
          have b3 := Pc_bound a b i k
          obtain ⟨y4, hy4⟩ := y4
          have b3a := b3.1
          have b3b := b3.2
          clear b1 b2 b3
          by_cases h12 : Pc a b i (k + 1) < Pc a b (i + 1) k
          · have d12 : decide (Pc a b i (k + 1) < Pc a b (i + 1) k) = true := decide_eq_true h12
            by_cases he : rd a (i : Int) = rd b (k : Int)
            · have de : (rd a (i : Int) == rd b (k : Int)) = true := by simpa using he
              have HQ := Pc_eq hin hkb he
              by_cases hg : Pc a b (i + 1) k < Pc a b i k + 1
              · have dg : decide (Pc a b (i + 1) k < Pc a b i k + 1) = true := decide_eq_true hg
                have HV : Aside0 (Pc a b i k + 1 = Pc a b (i + 1) (k + 1)) := ⟨by rw [HQ.1]⟩
                clear h12 he hg HQ
                go_wp2
                go_quiet (fail)
                have HN := Aside0.mk ((HBR.out.drewN nq).store (by omega) _ HV.out)
                go_wp2
                go_roundw
                case rel => exact ⟨k + 1, by simp, by omega, HN⟩
                case measure => simp [intOf]; omega
              · have dg : decide (Pc a b (i + 1) k < Pc a b i k + 1) = false := decide_eq_false hg
                have HV : Aside0 (Pc a b (i + 1) k = Pc a b (i + 1) (k + 1)) := ⟨by rw [HQ.1]; have := HQ.2; omega⟩
                clear h12 he hg HQ
                go_wp2
                go_quiet (fail)
                have HN := Aside0.mk ((HBR.out.drewN nq).store (by omega) _ HV.out)
                go_wp2
                go_roundw
                case rel => exact ⟨k + 1, by simp, by omega, HN⟩
                case measure => simp [intOf]; omega
            · have de : (rd a (i : Int) == rd b (k : Int)) = false := by simpa using he
              have HV : Aside0 (Pc a b (i + 1) k = Pc a b (i + 1) (k + 1)) := ⟨by rw [Pc_ne hin hkb he]; omega⟩
              clear h12 he
              go_wp2
              go_quiet (fail)
              have HN := Aside0.mk ((HBR.out.drewN nq).store (by omega) _ HV.out)
              go_wp2
              go_roundw
              case rel => exact ⟨k + 1, by simp, by omega, HN⟩
              case measure => simp [intOf]; omega
          · have d12 : decide (Pc a b i (k + 1) < Pc a b (i + 1) k) = false := decide_eq_false h12
            by_cases he : rd a (i : Int) = rd b (k : Int)
            · have de : (rd a (i : Int) == rd b (k : Int)) = true := by simpa using he
              have HQ := Pc_eq hin hkb he
              by_cases hg : Pc a b i (k + 1) < Pc a b i k + 1
              · have dg : decide (Pc a b i (k + 1) < Pc a b i k + 1) = true := decide_eq_true hg
                have HV : Aside0 (Pc a b i k + 1 = Pc a b (i + 1) (k + 1)) := ⟨by rw [HQ.1]⟩
                clear h12 he hg HQ
                go_wp2
                go_quiet (fail)
                have HN := Aside0.mk ((HBR.out.drewN nq).store (by omega) _ HV.out)
                go_wp2
                go_roundw
                case rel => exact ⟨k + 1, by simp, by omega, HN⟩
                case measure => simp [intOf]; omega
              · have dg : decide (Pc a b i (k + 1) < Pc a b i k + 1) = false := decide_eq_false hg
                have HV : Aside0 (Pc a b i (k + 1) = Pc a b (i + 1) (k + 1)) := ⟨by rw [HQ.1]; have := HQ.2; omega⟩
                clear h12 he hg HQ
                go_wp2
                go_quiet (fail)
                have HN := Aside0.mk ((HBR.out.drewN nq).store (by omega) _ HV.out)
                go_wp2
                go_roundw
                case rel => exact ⟨k + 1, by simp, by omega, HN⟩
                case measure => simp [intOf]; omega
            · have de : (rd a (i : Int) == rd b (k : Int)) = false := by simpa using he
              have HV : Aside0 (Pc a b i (k + 1) = Pc a b (i + 1) (k + 1)) := ⟨by rw [Pc_ne hin hkb he]; omega⟩
              clear h12 he
              go_wp2
              go_quiet (fail)
              have HN := Aside0.mk ((HBR.out.drewN nq).store (by omega) _ HV.out)
              go_wp2
              go_roundw
              case rel => exact ⟨k + 1, by simp, by omega, HN⟩
              case measure => simp [intOf]; omega
        · have HK : Aside0 (k = b.length) := ⟨by omega⟩
          have q1 : ¬ (k : Int) + 1 ≤ (b.length : Int) := by omega
          obtain ⟨_, nx, -, hnl, hnx, -, hR, hB2⟩ := HBR.out
          have HF := Aside0.mk (show IsRow a b (i + 1) nx from ⟨hnl, fun j hj => hnx j (by rw [HK.out]; omega)⟩)
          have HR := Aside0.mk hR
          have HB := Aside0.mk hB2
          clear hnl hnx hR hB2 HBR
          go_wp2
          go_roundw
          case rel => exact ⟨i + 1, nx, by go_num, by omega, HF, HR, HB⟩
          case measure => simp [intOf]; omega
    · have HI2 : Aside0 (rd r (b.length : Int) = (lcs a b : Int)) := ⟨by rw [HI.out.2 _ (Nat.le_refl _), show i = a.length from by omega, Pc_full]⟩
      have hx := (ints_cell HO.out b.length (by rw [HRL.out]; omega)).1
      rw [HI2.out] at hx
      rw [HRL.out]
      have q : (b.length : Int) < (b.length : Int) + 1 := by omega
      go_wp2
      go_ret
      exact ⟨rfl, HB.out⟩
/-! ### two lists of edits -/
theorem ed_step {l0 l1 : List Ed} {k : Nat} (h0 : k < l0.length) (h1 : k < l1.length) (ht : l0.take k = l1.take k) (he : (ed l0 k).kind = (ed l1 k).kind) (hn : (ed l0 k).n = (ed l1 k).n) : l0.take (k + 1) = l1.take (k + 1) := by
  rw [List.take_succ_eq_append_getElem h0, List.take_succ_eq_append_getElem h1, ht, ← ed_eq h0, ← ed_eq h1]
  congr 2
  cases h : ed l0 k; cases h' : ed l1 k; rw [h, h'] at he hn; simp only [] at he hn; rw [he, hn]
theorem eqA34 (d : Nat) (w : World) (x0 y0 : Int) (x1 y1 : Int) :
    (Op.equalIn (d + 2) 34 (.agg #[.int .i64 x0, .int .i64 x1]) (.agg #[.int .i64 y0, .int .i64 y1])).run Try.prog w = .ok (x0 == y0 && (x1 == y1)) w := by
  refine eqA_of Try.underlying34 (by kernel_rfl) ?_
  refine eqf_cons (by rfl) (by go_simp; rfl) (by go_simp; rfl) (by go_simp) ?_
  exact eqf_last (by rfl) (by go_simp; rfl) (by go_simp; rfl) (by go_simp)
attribute [local go_sem high] eqA34
theorem same_any (A0 : Option Addr) (c0 : Nat) (l0 : List Ed) (A1 : Option Addr) (c1 : Nat) (l1 : List Ed) (w : World) (hr0 : Kd.C kEd w A0 l0.length l0) (hr1 : Kd.C kEd w A1 l1.length l1) :
    Calls Try.prog 16 #[.slice A0 l0.length c0, .slice A1 l1.length c1] w fun e w' => e = .returned (.bool (decide (l0 = l1))) ∧ Drawn0 w w' := by
  have HR0 := Aside0.mk hr0
  have HR1 := Aside0.mk hr1
  have b0 := hr0.2.1
  have b1 := hr1.2.1
  clear hr0 hr1
  have hu34 := Try.underlying34
  by_cases c3 : l0.length = l1.length
  · go_enter Try.func16, Try.ntmps16
    go_wp2
    go_loopw [5] (fun v5 w' => ∃ k : Nat, k ≤ l0.length ∧ v5 = .int .i64 k ∧ Aside0 (l0.take k = l1.take k) ∧ Drawn0 w w') (fun v5 _ => l0.length - (intOf v5).toNat)
    case atStart => exact ⟨0, by omega, rfl, ⟨by simp⟩, Drawn0.refl _⟩
    case round =>
      obtain ⟨k, hk, rfl, HT, ⟨m, rfl⟩⟩ := hrel
      by_cases hlt : k < l0.length
      · obtain ⟨ad0, rfl, hx0, hy0⟩ := at_ed HR0.out k (by omega)
        obtain ⟨ad1, rfl, hx1, hy1⟩ := at_ed HR1.out k (by omega)
        have hlt1 : k < l1.length := by omega
        by_cases he : (ed l0 k).kind = (ed l1 k).kind
        · have hb : ((ed l0 k).kind == (ed l1 k).kind) = true := by simpa using he
          by_cases hn : (ed l0 k).n = (ed l1 k).n
          · have hbn : ((ed l0 k).n == (ed l1 k).n) = true := by simpa using hn
            have HN := Aside0.mk (ed_step hlt hlt1 HT.out he hn)
            clear he hn
            go_wp2
            go_quiet (fail)
            go_wp2
            go_roundw
            case rel => exact ⟨k + 1, by omega, by go_num, HN, by repeat (first | exact Drawn0.refl _ | apply Drawn0.step)⟩
            case measure => simp [intOf]; omega
          · have hbn : ((ed l0 k).n == (ed l1 k).n) = false := by simpa using hn
            have HD := Aside0.mk (decide_eq_false (fun h : l0 = l1 => hn (by rw [h])))
            clear he hn
            go_wp2
            go_quiet (fail)
            go_wp2
            go_ret
            exact ⟨ret_bool HD.out.symm, by repeat (first | exact Drawn0.refl _ | apply Drawn0.step)⟩
        · have hb : ((ed l0 k).kind == (ed l1 k).kind) = false := by simpa using he
          have HD := Aside0.mk (decide_eq_false (fun h : l0 = l1 => he (by rw [h])))
          clear he
          go_wp2
          go_quiet (fail)
          go_wp2
          go_ret
          exact ⟨ret_bool HD.out.symm, by repeat (first | exact Drawn0.refl _ | apply Drawn0.step)⟩
      · have HD : Aside0 (decide (l0 = l1) = true) := ⟨by
          have ht := HT.out
          rw [List.take_of_length_le (by omega), List.take_of_length_le (by omega)] at ht
          simpa using ht⟩
        go_wp2
        go_ret
        exact ⟨ret_bool HD.out.symm, by repeat (first | exact Drawn0.refl _ | apply Drawn0.step)⟩
  · have HD := Aside0.mk (decide_eq_false (fun h : l0 = l1 => c3 (by rw [h])))
    go_enter Try.func16, Try.ntmps16
    go_wp2
    go_ret
    exact ⟨ret_bool HD.out.symm, Drawn0.refl _⟩
/-! ### literals -/
theorem reps_more {α : Type} {R : α → List Value → Prop} {size : Nat} (f : α → List Value) (h : ∀ p, R p (f p)) (hl : ∀ p, (f p).length = size) : ∀ (ps qs : List α) (cs : List Value), Reps R size qs cs → Reps R size (qs ++ ps) (cs ++ ps.flatMap f) := by
  intro ps
  induction ps with
  | nil => intro qs cs hr; simpa using hr
  | cons p ps ih =>
    intro qs cs hr
    have := ih (qs ++ [p]) (cs ++ f p) (Reps.snoc hr (h p) (hl p))
    simpa using this
theorem reps_flatMap {α : Type} {R : α → List Value → Prop} {size : Nat} (f : α → List Value) (h : ∀ p, R p (f p)) (hl : ∀ p, (f p).length = size) (ps : List α) : Reps R size ps (ps.flatMap f) := by
  simpa using reps_more f h hl ps [] [] (Reps.none _ _)
theorem R_lits {α : Type} (d : Kd α) (e : Nat) (f : α → List Value) (W : World) (base : Nat) (ps : List α) (h : ∀ p, d.M W base (fun _ => False) p (f p)) (hl : ∀ p, (f p).length = d.sz) (hb : base ≤ W.heap.size) (hm : ps.length ≤ 9223372036854775807) {cs : Array Value} (hcs : cs = (ps.flatMap f).toArray) :
    d.R e (W.alloc (.cells cs e)) base (fun _ => True) (.slice (some ⟨W.heap.size, 0, none⟩) ps.length ps.length) ps := by
  subst hcs
  exact ⟨fun _ _ => trivial, OwnRow.imp_ (OwnRow.lit (R := fun p c => d.M W base (fun _ => False) p c) W base (reps_flatMap f h hl ps) hb hm) (fun p c hp => d.M_mono (fun _ h => h.elim) (Kd.M_alloc hp _))⟩
theorem C_ints (W : World) (n : Nat) (hn : W.heap.size = n) (ps : List Int) (hm : ps.length ≤ 9223372036854775807) {cs : Array Value} (hcs : cs = (ps.flatMap fun x => [.int .i64 x]).toArray) : Kd.C (Kd.int .i64) (W.alloc (.cells cs 3)) (some ⟨n, 0, none⟩) ps.length ps := by
  subst hn
  exact (Kd.R_reads' (R_lits (Kd.int .i64) 3 (fun x => [.int .i64 x]) W W.heap.size ps (fun _ => rfl) (fun _ => rfl) (Nat.le_refl _) hm hcs)).2.2
theorem C_eds (W : World) (n : Nat) (hn : W.heap.size = n) (ps : List Ed) (hm : ps.length ≤ 9223372036854775807) {cs : Array Value} (hcs : cs = (ps.flatMap fun x => [.int .i64 x.kind, .int .i64 x.n]).toArray) : Kd.C kEd (W.alloc (.cells cs 34)) (some ⟨n, 0, none⟩) ps.length ps := by
  subst hn
  exact (Kd.R_reads' (R_lits kEd 34 (fun x => [.int .i64 x.kind, .int .i64 x.n]) W W.heap.size ps (fun _ => kEd_mkM _ _ _ _) (fun _ => rfl) (Nat.le_refl _) hm hcs)).2.2
end Go.Proofs.Ytapoajpmmfddmaa.Sc
