/- What awake and the laws ScriptLeast and ScriptMakes come to. Conditions: those that each theorem states. -/
import Derived.Test.YtapoajpmmfddmaaScD
namespace Go.Proofs.Ytapoajpmmfddmaa.Sc
open Go.RowKit Go.Proofs.YtapoajpmmfddmaaW.PrintWords Go.Proofs.YtapoajpmmfddmaaW.PrintLast Go.Proofs.YtapoajpmmfddmaaW.PrintMore
attribute [local go_sem] max2_int min2_int max_two min_two max_three min_three max_four min_four
/-! ### awake -/
def wakeL : List Ed := [⟨2, 1⟩, ⟨1, 1⟩, ⟨3, 4⟩, ⟨1, 1⟩]
theorem lcs_wake : lcs [1, 2, 3] [2, 4, 3] = 2 := by simp [lcs_cons, lcs_nil_left, lcs_nil_right]
theorem MInv.kept_eq {a b : List Int} {l : List Ed} (h : MInv a b l a.length b.length) : kept l = lcs a b := by
  have := h.keeps
  rw [Lc_last_left _ _ _ _ (Nat.le_refl _), Lc_zero] at this
  omega
set_option maxRecDepth 100000 in
set_option maxHeartbeats 4000000 in
theorem awake_any (w : World) : Calls Try.prog 8 #[] w fun e w' => e = .returned (.bool true) ∧ Below w.heap.size w w' := by
  have hu34 := Try.underlying34
  have HL := Aside0.mk (C_eds w _ rfl wakeL (by decide) rfl)
  go_enter Try.func8, Try.ntmps8
  go_wp2_with fail
  refine (apply_any (some ⟨w.heap.size + 1, 0, none⟩) 3 [1, 2, 3] (some ⟨w.heap.size, 0, none⟩) 4 wakeL _ (C_ints (w.alloc _) _ (by simp) [1, 2, 3] (by decide) rfl) (by decide) (Kd.C_alloc HL.out _) (by decide) (by decide)).mono ?_
  rintro e w1 ⟨v1, rfl, hR1, hB1⟩
  have HL1 := Aside0.mk (Kd.C_below (Kd.C_alloc HL.out _) hB1)
  have HR1 := Aside0.mk (show (Kd.int .i64).R 3 w1 0 (fun _ => True) v1 [2, 4, 3] from Kd.R_lower hR1 (Nat.zero_le _))
  have HB1 := Aside0.mk (show Below w.heap.size w w1 from below_weaken (below_alloc (below_alloc (Below.refl _ _) _) _) (by simp; omega) hB1)
  rw [show (app [1, 2, 3] wakeL).2 = true from by decide]
  clear hR1 hB1 HL
  go_wp2_with fail
  refine (apply_any (some ⟨w1.heap.size, 0, none⟩) 3 [1, 2, 3] (some ⟨w.heap.size, 0, none⟩) 4 (wakeL.take 3) _ (C_ints w1 _ rfl [1, 2, 3] (by decide) rfl) (by decide) (Kd.C_alloc (Kd.C_take HL1.out (by decide)) _) (by decide) (by decide)).mono ?_
  rintro e w2 ⟨v2, rfl, -, hB2⟩
  have HL2 := Aside0.mk (Kd.C_below (Kd.C_alloc HL1.out _) hB2)
  have HR2 := Aside0.mk (Kd.R_below (Kd.R_alloc HR1.out _) hB2)
  have HB2 := Aside0.mk (show Below w.heap.size w w2 from below_weaken (below_alloc HB1.out _) (below_alloc HB1.out _).size hB2)
  rw [show (app [1, 2, 3] (wakeL.take 3)).2 = false from by decide]
  clear hB2 HL1 HR1 HB1
  obtain ⟨Ar, cr, rfl⟩ := Kd.R_slice HR2.out
  go_wp2_with fail
  refine (ints_eq Ar cr [2, 4, 3] (some ⟨w2.heap.size, 0, none⟩) 3 [2, 4, 3] _ (Kd.C_alloc (Kd.R_reads' HR2.out).2.2 _) (C_ints w2 _ rfl [2, 4, 3] (by decide) rfl)).mono ?_
  rintro e w3 ⟨rfl, ⟨n3, rfl⟩⟩
  rw [show decide (([2, 4, 3] : List Int) = [2, 4, 3]) = true from by decide]
  go_wp2_with fail
  refine (kept_any (some ⟨w.heap.size, 0, none⟩) 4 wakeL _ (Kd.C_drewN (Kd.C_alloc HL2.out _) _)).mono ?_
  rintro e w4 ⟨rfl, hB4⟩
  have HB4 := Aside0.mk (show Below w.heap.size w w4 from below_weaken (pw_below_drewN (below_alloc HB2.out _) _) (pw_below_drewN (below_alloc HB2.out _) _).size hB4)
  rw [show keptW wakeL = 2 from by simp [keptW, wakeL, wrap64]]
  clear hB4 HL2 HR2 HB2
  go_wp2_with fail
  refine (make_any (some ⟨w4.heap.size, 0, none⟩) 3 [1, 2, 3] (some ⟨w4.heap.size + 1, 0, none⟩) 3 [2, 4, 3] _ (Kd.C_alloc (C_ints w4 _ rfl [1, 2, 3] (by decide) rfl) _) (C_ints (w4.alloc _) _ (by simp) [2, 4, 3] (by decide) rfl) (by decide) (by decide)).mono ?_
  rintro e w5 ⟨v5, l5, rfl, hR5, hB5, hM5⟩
  have HB5 := Aside0.mk (show Below w.heap.size w w5 from below_weaken (below_alloc (below_alloc HB4.out _) _) (below_alloc (below_alloc HB4.out _) _).size hB5)
  have HK := Aside0.mk hM5.kept_eq
  obtain ⟨Am, cm, rfl⟩ := Kd.R_slice hR5
  have HR5 := Aside0.mk (Kd.R_reads' hR5).2.2
  clear hR5 hB5 hM5 HB4
  go_wp2_with fail
  refine (kept_any Am cm l5 _ HR5.out).mono ?_
  rintro e w6 ⟨rfl, hB6⟩
  have HB6 := Aside0.mk (below_step HB5.out hB6)
  rw [show keptW l5 = 2 from by rw [keptW_eq (by rw [HK.out, lcs_wake]; decide), HK.out, lcs_wake]; rfl]
  clear hB6 HB5 HR5
  go_wp2
  go_ret
  exact ⟨rfl, HB6.out⟩
/-! ### the law ScriptLeast -/
set_option maxRecDepth 100000 in
set_option maxHeartbeats 4000000 in
theorem least_law (A0 : Option Addr) (c0 : Nat) (a : List Int) (A1 : Option Addr) (c1 : Nat) (b : List Int) (w : World) (hr0 : Kd.C (Kd.int .i64) w A0 a.length a) (hr1 : Kd.C (Kd.int .i64) w A1 b.length b) :
    Calls Try.prog 5 #[.slice A0 a.length c0, .slice A1 b.length c1] w fun e w' => e = .returned (.bool true) ∧ Below w.heap.size w w' := by
  have HR0 := Aside0.mk hr0
  have HR1 := Aside0.mk hr1
  have b0 := hr0.2.1
  have b1 := hr1.2.1
  clear hr0 hr1
  by_cases ha : 200 < a.length
  · have da : decide ((200 : Int) < (a.length : Int)) = true := decide_eq_true (by omega)
    clear ha
    go_enter Try.func5, Try.ntmps5
    go_wp2_with fail
    refine (awake_any _).mono ?_
    rintro e w1 ⟨rfl, hB1⟩
    go_wp2_with fail
    refine (awake_any _).mono ?_
    rintro e w2 ⟨rfl, hB2⟩
    have HB := Aside0.mk (below_step hB1 hB2)
    clear hB1 hB2
    go_wp2
    go_ret
    exact ⟨rfl, HB.out⟩
  · have da : decide ((200 : Int) < (a.length : Int)) = false := decide_eq_false (by omega)
    by_cases hb : 200 < b.length
    · have db : decide ((200 : Int) < (b.length : Int)) = true := decide_eq_true (by omega)
      clear ha hb
      go_enter Try.func5, Try.ntmps5
      go_wp2_with fail
      refine (awake_any _).mono ?_
      rintro e w1 ⟨rfl, hB1⟩
      go_wp2_with fail
      refine (awake_any _).mono ?_
      rintro e w2 ⟨rfl, hB2⟩
      have HB := Aside0.mk (below_step hB1 hB2)
      clear hB1 hB2
      go_wp2
      go_ret
      exact ⟨rfl, HB.out⟩
    · have db : decide ((200 : Int) < (b.length : Int)) = false := decide_eq_false (by omega)
      go_enter Try.func5, Try.ntmps5
      go_wp2_with fail
      refine (awake_any _).mono ?_
      rintro e w1 ⟨rfl, hB1⟩
      have HB1 := Aside0.mk hB1
      clear hB1
      go_wp2_with fail
      refine (make_any A0 c0 a A1 c1 b _ (Kd.C_below HR0.out HB1.out) (Kd.C_below HR1.out HB1.out) (by omega) (by omega)).mono ?_
      rintro e w2 ⟨v2, l, rfl, hR2, hB2, hM2⟩
      have HB2 := Aside0.mk (below_step HB1.out hB2)
      have HK : Aside0 (keptW l = (lcs a b : Int)) := ⟨by
        have h := hM2.kept_eq
        have := lcs_le_left a b
        rw [keptW_eq (by omega), h]⟩
      obtain ⟨Am, cm, rfl⟩ := Kd.R_slice hR2
      have HR2 := Aside0.mk (Kd.R_reads' hR2).2.2
      clear hR2 hB2 hM2 HB1
      go_wp2_with fail
      refine (kept_any Am cm l _ HR2.out).mono ?_
      rintro e w3 ⟨rfl, hB3⟩
      have HB3 := Aside0.mk (below_step HB2.out hB3)
      have HR3 := Aside0.mk (Kd.C_below HR2.out hB3)
      rw [HK.out]
      clear hB3 HR2 HB2
      go_wp2_with fail
      refine (best_any A0 c0 a A1 c1 b _ (Kd.C_below HR0.out HB3.out) (Kd.C_below HR1.out HB3.out) (by omega) (by omega)).mono ?_
      rintro e w4 ⟨rfl, hB4⟩
      have HB4 := Aside0.mk (below_step HB3.out hB4)
      have HR4 := Aside0.mk (Kd.C_below HR3.out hB4)
      clear hB4 HR3 HB3
      go_wp2_with fail
      refine (rkept_any Am cm l _ HR4.out).mono ?_
      rintro e w5 ⟨rfl, ⟨n5, rfl⟩⟩
      rw [HK.out]
      go_wp2_with fail
      refine (best_any A0 c0 a A1 c1 b _ (Kd.C_below HR0.out (pw_below_drewN HB4.out _)) (Kd.C_below HR1.out (pw_below_drewN HB4.out _)) (by omega) (by omega)).mono ?_
      rintro e w6 ⟨rfl, hB6⟩
      have HB6 := Aside0.mk (below_step (pw_below_drewN HB4.out _) hB6)
      clear hB6 HB4
      go_wp2
      go_ret
      exact ⟨rfl, HB6.out⟩
/-! ### the law ScriptMakes -/
theorem MInv.app_eq {a b : List Int} {l : List Ed} (h : MInv a b l a.length b.length) : app a l = (b, true) := by
  have := h.run
  rw [List.take_length, List.drop_length] at this
  rw [app_some this, if_pos rfl]
set_option maxRecDepth 100000 in
set_option maxHeartbeats 8000000 in
theorem makes_law (A0 : Option Addr) (c0 : Nat) (a : List Int) (A1 : Option Addr) (c1 : Nat) (b : List Int) (w : World) (hr0 : Kd.C (Kd.int .i64) w A0 a.length a) (hc0 : a.length ≤ c0) (hr1 : Kd.C (Kd.int .i64) w A1 b.length b) :
    Calls Try.prog 4 #[.slice A0 a.length c0, .slice A1 b.length c1] w fun e w' => e = .returned (.bool true) ∧ Below w.heap.size w w' := by
  have HR0 := Aside0.mk hr0
  have HR1 := Aside0.mk hr1
  have HC0 := Aside0.mk hc0
  have b0 := hr0.2.1
  have b1 := hr1.2.1
  clear hr0 hr1 hc0
  have hu34 := Try.underlying34
  by_cases ha : 200 < a.length
  · have da : decide ((200 : Int) < (a.length : Int)) = true := decide_eq_true (by omega)
    clear ha
    go_enter Try.func4, Try.ntmps4
    go_wp2_with fail
    refine (awake_any _).mono ?_
    rintro e w1 ⟨rfl, hB1⟩
    go_wp2_with fail
    refine (awake_any _).mono ?_
    rintro e w2 ⟨rfl, hB2⟩
    have HB := Aside0.mk (below_step hB1 hB2)
    clear hB1 hB2
    go_wp2
    go_ret
    exact ⟨rfl, HB.out⟩
  · have da : decide ((200 : Int) < (a.length : Int)) = false := decide_eq_false (by omega)
    by_cases hb : 200 < b.length
    · have db : decide ((200 : Int) < (b.length : Int)) = true := decide_eq_true (by omega)
      clear ha hb
      go_enter Try.func4, Try.ntmps4
      go_wp2_with fail
      refine (awake_any _).mono ?_
      rintro e w1 ⟨rfl, hB1⟩
      go_wp2_with fail
      refine (awake_any _).mono ?_
      rintro e w2 ⟨rfl, hB2⟩
      have HB := Aside0.mk (below_step hB1 hB2)
      clear hB1 hB2
      go_wp2
      go_ret
      exact ⟨rfl, HB.out⟩
    · have db : decide ((200 : Int) < (b.length : Int)) = false := decide_eq_false (by omega)
      go_enter Try.func4, Try.ntmps4
      go_wp2_with fail
      refine (awake_any _).mono ?_
      rintro e w1 ⟨rfl, hB1⟩
      have HB1 := Aside0.mk hB1
      clear hB1
      go_wp2_with (first | (go_at_call 14; fail) | (at_builtin; refine Kd.R_append_rows (Kd.int .i64) (Rr := fun x cs => cs = [.int .i64 x]) (w0 := w1) w1.heap.size rfl (.tmp 25) (.tmp 26) 22 3 (.int .i64 0) 8 rfl Try.underlying22 info3 rfl (by decide) (by omega) (.slice (some ⟨w1.heap.size, 0, none⟩) 0 0) [] a _ _ _ (fun _ => True) (fun _ => False) rfl rfl (R_empty _ _ _ _ (Nat.le_refl _)) (Kd.C_alloc (Kd.C_below HR0.out HB1.out) _) (fun _ _ h => h) (fun _ h => h.elim) (fun _ _ => trivial) (below_alloc (Below.refl _ _) _) (below_alloc (Below.refl _ _) _).size (by simp; omega) ?_; intro v2 w2 hR2 hB2 _ _; rw [List.nil_append] at hR2; obtain ⟨A2, c2, ev⟩ := Kd.R_slice hR2; subst ev; have HR2 := Aside0.mk (Kd.R_reads' hR2).2.2; have HR2c := Aside0.mk (Kd.R_reads' hR2).2.1; have HB2 := Aside0.mk hB2; clear hR2 hB2) | (at_builtin; refine Kd.R_append_rows (Kd.int .i64) (Rr := fun x cs => cs = [.int .i64 x]) (w0 := w2) w2.heap.size rfl (.tmp 28) (.tmp 29) 22 3 (.int .i64 0) 8 rfl Try.underlying22 info3 rfl (by decide) (by omega) (.slice (some ⟨w2.heap.size, 0, none⟩) 0 0) [] b _ _ _ (fun _ => True) (fun _ => False) rfl rfl (R_empty _ _ _ _ (Nat.le_refl _)) (Kd.C_alloc (Kd.C_below HR1.out (below_step HB1.out HB2.out)) _) (fun _ _ h => h) (fun _ h => h.elim) (fun _ _ => trivial) (below_alloc (Below.refl _ _) _) (below_alloc (Below.refl _ _) _).size (by simp; omega) ?_; intro v3 w3 hR3 hB3 _ _; rw [List.nil_append] at hR3; obtain ⟨A3, c3, ev⟩ := Kd.R_slice hR3; subst ev; have HR3 := Aside0.mk (Kd.R_reads' hR3).2.2; have HR3c := Aside0.mk (Kd.R_reads' hR3).2.1; have HB3 := Aside0.mk hB3; clear hR3 hB3))
      refine (make_any A2 c2 a A3 c3 b _ (Kd.C_below HR2.out HB3.out) HR3.out (by omega) (by omega)).mono ?_
      rintro e w4 ⟨v4, l, rfl, hR4, hB4, hM4⟩
      have HB4 := Aside0.mk (below_step (below_step (below_step HB1.out HB2.out) HB3.out) hB4)
      have HM := Aside0.mk hM4
      have hll := hM4.len
      obtain ⟨Am, cm, rfl⟩ := Kd.R_slice hR4
      have HR4 := Aside0.mk (Kd.R_reads' hR4).2.2
      clear hR4 hB4 hM4 HB1 HB2 HB3 HR2 HR3 HR2c HR3c
      go_wp2_with fail
      refine (rapply_any A0 c0 a Am cm l _ (Kd.C_below HR0.out HB4.out) HC0.out HR4.out (by omega) (by omega)).mono ?_
      rintro e w5 ⟨v5, rfl, hR5, hB5⟩
      have HB5 := Aside0.mk (below_step HB4.out hB5)
      have HR5 := Aside0.mk (Kd.C_below HR4.out hB5)
      rw [HM.out.app_eq] at hR5 ⊢
      obtain ⟨Ac, cc, rfl⟩ := Kd.R_slice hR5
      have HC5 := Aside0.mk (Kd.R_reads' hR5).2.2
      clear hR5 hB5 HR4 HB4
      go_wp2_with fail
      refine (apply_any A0 c0 a Am cm l _ (Kd.C_below HR0.out HB5.out) HC0.out HR5.out (by omega) (by omega)).mono ?_
      rintro e w6 ⟨v6, rfl, hR6, hB6⟩
      have HB6 := Aside0.mk (below_step HB5.out hB6)
      have HR6 := Aside0.mk (Kd.C_below HR5.out hB6)
      have HC6 := Aside0.mk (Kd.C_below HC5.out hB6)
      rw [HM.out.app_eq] at hR6 ⊢
      obtain ⟨Ad, cd, rfl⟩ := Kd.R_slice hR6
      have HD6 := Aside0.mk (Kd.R_reads' hR6).2.2
      clear hR6 hB6 HR5 HB5 HC5
      go_wp2
      go_loopw [10, 11, 46] (fun v10 v11 v46 w' => ∃ k : Nat, v46 = .int .i64 k ∧ k ≤ l.length ∧ Aside0 (Below w6.heap.size w6 w')) (fun _ _ v46 _ => l.length - (intOf v46).toNat)
      case atStart => exact ⟨0, rfl, by omega, ⟨Below.refl _ _⟩⟩
      case round =>
        obtain ⟨k, rfl, hk, HB⟩ := hrel
        by_cases hlt : k < l.length
        · obtain ⟨ad0, rfl, hx0, hx1⟩ := at_ed (Kd.C_below HR6.out HB.out) k hlt
          by_cases hk0 : k = 0
          · have dk : decide ((0 : Int) < (k : Int)) = false := decide_eq_false (by omega)
            have dkn : decide (0 < k) = false := decide_eq_false (by omega)
            clear hk0
            go_wp2
            go_quiet (fail)
            go_wp2
            go_roundw
            case rel => exact ⟨k + 1, by go_num, by omega, ⟨pw_below_drewN (below_alloc HB.out _) _⟩⟩
            case measure => simp [intOf]; omega
          · obtain ⟨j, rfl⟩ : ∃ j, k = j + 1 := ⟨k - 1, by omega⟩
            have dk : decide ((0 : Int) < (j : Int) + 1) = true := decide_eq_true (by omega)
            have q1 : (0 : Int) ≤ (j : Int) := by omega
            have q2 : (j : Int) < (l.length : Int) := by omega
            have q3 : IntKind.i64.wrap (j : Int) = (j : Int) := (i64_w _).trans (wrap_id (by omega) (by omega))
            have q4 : IntKind.i64.wrap ((j : Int) + 1 - 1) = (j : Int) := by rw [show (j : Int) + 1 - 1 = j from by omega]; exact q3
            by_cases h3 : (ed l (j + 1)).kind = 3
            · have d3 : ((ed l (j + 1)).kind != 3) = false := by simpa using h3
              clear h3 hk0
              go_wp2
              go_quiet (fail)
              go_wp2
              go_roundw
              case rel => exact ⟨j + 2, by go_num, by omega, ⟨pw_below_drewN (below_alloc HB.out _) _⟩⟩
              case measure => simp [intOf]; omega
            · have d3 : ((ed l (j + 1)).kind != 3) = true := by simpa using h3
              obtain ⟨ad1, e1, hy0, hy1⟩ := at_ed (Kd.C_alloc (Kd.C_below HR6.out HB.out) (.cells #[.int .i64 (ed l (j + 1)).kind, .int .i64 (ed l (j + 1)).n] 34)) j (by omega)
              obtain rfl := Option.some.inj e1
              clear e1
              have hs := HM.out.sep j (by omega) h3
              have ds : ((ed l j).kind == (ed l (j + 1)).kind) = false := by simpa using hs
              clear h3 hs hk0
              go_wp2
              go_quiet (fail)
              go_wp2
              go_roundw
              case rel => exact ⟨j + 2, by go_num, by omega, ⟨pw_below_drewN (below_alloc HB.out _) _⟩⟩
              case measure => simp [intOf]; omega
        · have HBf := Aside0.mk (below_step HB6.out HB.out)
          go_wp2_with fail
          refine (ints_eq Ac cc b A1 c1 b _ (Kd.C_below HC6.out HB.out) (Kd.C_below HR1.out HBf.out)).mono ?_
          rintro e w8 ⟨rfl, ⟨n8, rfl⟩⟩
          rw [show decide (b = b) = true from decide_eq_true rfl]
          go_wp2_with fail
          refine (ints_eq Ad cd b A1 c1 b _ (Kd.C_drewN (Kd.C_below HD6.out HB.out) _) (Kd.C_drewN (Kd.C_below HR1.out HBf.out) _)).mono ?_
          rintro e w9 ⟨rfl, ⟨n9, rfl⟩⟩
          rw [show decide (b = b) = true from decide_eq_true rfl]
          go_wp2
          go_ret
          exact ⟨rfl, pw_below_drewN HBf.out _⟩
end Go.Proofs.Ytapoajpmmfddmaa.Sc
