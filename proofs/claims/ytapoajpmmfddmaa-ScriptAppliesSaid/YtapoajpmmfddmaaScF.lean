/- What the laws ScriptBack, ScriptSame and ScriptApplies come to. Conditions: those that each theorem states. -/
import Derived.Test.YtapoajpmmfddmaaScE
import Derived.Test.YtapoajpmmfddmaaWGuard
namespace Go.Proofs.Ytapoajpmmfddmaa.Sc
open Go.RowKit Go.Proofs.YtapoajpmmfddmaaW.PrintWords Go.Proofs.YtapoajpmmfddmaaW.PrintLast Go.Proofs.YtapoajpmmfddmaaW.PrintMore
attribute [local go_sem] max2_int min2_int max_two min_two max_three min_three max_four min_four
/-! ### the law ScriptBack -/
theorem keptW_lcs {a b : List Int} {l : List Ed} (h : MInv a b l a.length b.length) (ha : a.length ≤ 1000000) : keptW l = (lcs a b : Int) := by
  have h := h.kept_eq
  have := lcs_le_left a b
  rw [keptW_eq (by omega), h]
set_option maxRecDepth 100000 in
set_option maxHeartbeats 8000000 in
theorem back_law (A0 : Option Addr) (c0 : Nat) (a : List Int) (A1 : Option Addr) (c1 : Nat) (b : List Int) (A2 : Option Addr) (c2 : Nat) (m : List Int) (w : World) (hr0 : Kd.C (Kd.int .i64) w A0 a.length a) (hr1 : Kd.C (Kd.int .i64) w A1 b.length b) (hr2 : Kd.C (Kd.int .i64) w A2 m.length m) :
    Calls Try.prog 7 #[.slice A0 a.length c0, .slice A1 b.length c1, .slice A2 m.length c2] w fun e w' => e = .returned (.bool true) ∧ Below w.heap.size w w' := by
  have HR0 := Aside0.mk hr0
  have HR1 := Aside0.mk hr1
  have HR2 := Aside0.mk hr2
  have b0 := hr0.2.1
  have b1 := hr1.2.1
  have b2 := hr2.2.1
  clear hr0 hr1 hr2
  by_cases ha : 100 < a.length
  · have da : decide ((100 : Int) < (a.length : Int)) = true := decide_eq_true (by omega)
    clear ha
    go_enter Try.func7, Try.ntmps7
    go_wp2_with fail
    refine (awake_any _).mono ?_
    rintro e w1 ⟨rfl, hB1⟩
    go_wp2_with fail
    refine (awake_any _).mono ?_
    rintro e w2 ⟨rfl, hB2⟩
    have HB := Aside0.mk (below_step hB1 hB2)
    clear hB1 hB2
    go_wp2
    go_ret
    exact ⟨rfl, HB.out⟩
  · have da : decide ((100 : Int) < (a.length : Int)) = false := decide_eq_false (by omega)
    by_cases hb : 100 < b.length
    · have db : decide ((100 : Int) < (b.length : Int)) = true := decide_eq_true (by omega)
      clear ha hb
      go_enter Try.func7, Try.ntmps7
      go_wp2_with fail
      refine (awake_any _).mono ?_
      rintro e w1 ⟨rfl, hB1⟩
      go_wp2_with fail
      refine (awake_any _).mono ?_
      rintro e w2 ⟨rfl, hB2⟩
      have HB := Aside0.mk (below_step hB1 hB2)
      clear hB1 hB2
      go_wp2
      go_ret
      exact ⟨rfl, HB.out⟩
    · have db : decide ((100 : Int) < (b.length : Int)) = false := decide_eq_false (by omega)
      by_cases hm : 50 < m.length
      · have dm : decide ((50 : Int) < (m.length : Int)) = true := decide_eq_true (by omega)
        clear ha hb hm
        go_enter Try.func7, Try.ntmps7
        go_wp2_with fail
        refine (awake_any _).mono ?_
        rintro e w1 ⟨rfl, hB1⟩
        go_wp2_with fail
        refine (awake_any _).mono ?_
        rintro e w2 ⟨rfl, hB2⟩
        have HB := Aside0.mk (below_step hB1 hB2)
        clear hB1 hB2
        go_wp2
        go_ret
        exact ⟨rfl, HB.out⟩
      · have dm : decide ((50 : Int) < (m.length : Int)) = false := decide_eq_false (by omega)
        have l1 := lcs_le_left a b
        have l2 := lcs_le_right a b
        have l3 := lcs_ahead m a b
        have LC := Aside0.mk (lcs_comm b a)
        go_enter Try.func7, Try.ntmps7
        go_wp2_with fail
        refine (awake_any _).mono ?_
        rintro e w1 ⟨rfl, hB1⟩
        have HB1 := Aside0.mk hB1
        clear hB1
        go_wp2_with fail
        refine (make_any A0 c0 a A1 c1 b _ (Kd.C_below HR0.out HB1.out) (Kd.C_below HR1.out HB1.out) (by omega) (by omega)).mono ?_
        rintro e w2 ⟨v2, l, rfl, hR2, hB2, hM2⟩
        have HB2 := Aside0.mk (below_step HB1.out hB2)
        have HK := Aside0.mk (keptW_lcs hM2 (by omega))
        obtain ⟨Am, cm, rfl⟩ := Kd.R_slice hR2
        have HL2 := Aside0.mk (Kd.R_reads' hR2).2.2
        clear hR2 hB2 hM2 HB1
        go_wp2_with fail
        refine (kept_any Am cm l _ HL2.out).mono ?_
        rintro e w3 ⟨rfl, hB3⟩
        have HB3 := Aside0.mk (below_step HB2.out hB3)
        rw [HK.out]
        clear hB3 HL2 HB2 HK
        go_wp2_with (first | (go_at_call 14; fail) | (at_builtin; refine Kd.R_append_rows (Kd.int .i64) (Rr := fun x cs => cs = [.int .i64 x]) (w0 := w3) w3.heap.size rfl (.tmp 32) (.tmp 33) 22 3 (.int .i64 0) 8 rfl Try.underlying22 info3 rfl (by decide) (by omega) (.slice (some ⟨w3.heap.size, 0, none⟩) 0 0) [] m _ _ _ (fun _ => True) (fun _ => False) rfl rfl (R_empty _ _ _ _ (Nat.le_refl _)) (Kd.C_alloc (Kd.C_below HR2.out HB3.out) _) (fun _ _ h => h) (fun _ h => h.elim) (fun _ _ => trivial) (below_alloc (Below.refl _ _) _) (below_alloc (Below.refl _ _) _).size (by first | omega | (simp; omega)) ?_; intro v4 w4 hR4 hB4 _ _; rw [List.nil_append] at hR4; obtain ⟨A4, c4, ev⟩ := Kd.R_slice hR4; subst ev; have HR4 := Aside0.mk (Kd.R_reads' hR4).2.2; have HR4c := Aside0.mk (Kd.R_reads' hR4).2.1; have HB4 := Aside0.mk hB4; have HO4 := Aside0.mk hR4; clear hR4 hB4) | (at_builtin; refine Kd.R_append_rows (Kd.int .i64) (Rr := fun x cs => cs = [.int .i64 x]) (w0 := w3) w3.heap.size rfl (.tmp 34) (.tmp 35) 22 3 (.int .i64 0) 8 rfl Try.underlying22 info3 rfl (by decide) (by omega) (.slice A4 m.length c4) m a _ _ _ (fun _ => True) (fun _ => False) rfl rfl HO4.out (Kd.C_below HR0.out (below_step HB3.out HB4.out)) (fun _ _ h => h) (fun _ h => h.elim) (fun _ _ => trivial) HB4.out HB4.out.size (by first | omega | (simp; omega)) ?_; intro v5 w5 hR5 hB5 _ _; obtain ⟨X5, hX5⟩ : ∃ X, m ++ a = X := ⟨_, rfl⟩; rw [hX5] at hR5; have HX5 := Aside0.mk hX5; clear hX5; obtain ⟨A5, c5, ev⟩ := Kd.R_slice hR5; subst ev; have HR5 := Aside0.mk (Kd.R_reads' hR5).2.2; have HB5 := Aside0.mk hB5; clear hR5 hB5) | (at_builtin; refine Kd.R_append_rows (Kd.int .i64) (Rr := fun x cs => cs = [.int .i64 x]) (w0 := w5) w5.heap.size rfl (.tmp 37) (.tmp 38) 22 3 (.int .i64 0) 8 rfl Try.underlying22 info3 rfl (by decide) (by omega) (.slice (some ⟨w5.heap.size, 0, none⟩) 0 0) [] m _ _ _ (fun _ => True) (fun _ => False) rfl rfl (R_empty _ _ _ _ (Nat.le_refl _)) (Kd.C_alloc (Kd.C_below HR2.out (below_step HB3.out HB5.out)) _) (fun _ _ h => h) (fun _ h => h.elim) (fun _ _ => trivial) (below_alloc (Below.refl _ _) _) (below_alloc (Below.refl _ _) _).size (by first | omega | (simp; omega)) ?_; intro v6 w6 hR6 hB6 _ _; rw [List.nil_append] at hR6; obtain ⟨A6, c6, ev⟩ := Kd.R_slice hR6; subst ev; have HR6 := Aside0.mk (Kd.R_reads' hR6).2.2; have HR6c := Aside0.mk (Kd.R_reads' hR6).2.1; have HB6 := Aside0.mk hB6; have HO6 := Aside0.mk hR6; clear hR6 hB6) | (at_builtin; refine Kd.R_append_rows (Kd.int .i64) (Rr := fun x cs => cs = [.int .i64 x]) (w0 := w5) w5.heap.size rfl (.tmp 39) (.tmp 40) 22 3 (.int .i64 0) 8 rfl Try.underlying22 info3 rfl (by decide) (by omega) (.slice A6 m.length c6) m b _ _ _ (fun _ => True) (fun _ => False) rfl rfl HO6.out (Kd.C_below HR1.out (below_step (below_step HB3.out HB5.out) HB6.out)) (fun _ _ h => h) (fun _ h => h.elim) (fun _ _ => trivial) HB6.out HB6.out.size (by first | omega | (simp; omega)) ?_; intro v7 w7 hR7 hB7 _ _; obtain ⟨X7, hX7⟩ : ∃ X, m ++ b = X := ⟨_, rfl⟩; rw [hX7] at hR7; have HX7 := Aside0.mk hX7; clear hX7; obtain ⟨A7, c7, ev⟩ := Kd.R_slice hR7; subst ev; have HR7 := Aside0.mk (Kd.R_reads' hR7).2.2; have HB7 := Aside0.mk hB7; clear hR7 hB7))
        have x5 : X5.length ≤ 150 := by rw [← HX5.out, List.length_append]; omega
        have x7 : X7.length ≤ 150 := by rw [← HX7.out, List.length_append]; omega
        have HR5b := Aside0.mk (Kd.C_below HR5.out HB7.out)
        have HB7' := Aside0.mk (below_step (below_step HB3.out HB5.out) HB7.out)
        clear HB3 HB4 HB5 HB6 HB7 HR4 HR4c HO4 HR5 HR6 HR6c HO6
        go_wp2_with fail
        refine (make_any A1 c1 b A0 c0 a _ (Kd.C_below HR1.out HB7'.out) (Kd.C_below HR0.out HB7'.out) (by omega) (by omega)).mono ?_
        rintro e w8 ⟨v8, l8, rfl, hR8, hB8, hM8⟩
        have HB8 := Aside0.mk (below_step HB7'.out hB8)
        have HR5c := Aside0.mk (Kd.C_below HR5b.out hB8)
        have HR7c := Aside0.mk (Kd.C_below HR7.out hB8)
        have HK := Aside0.mk (keptW_lcs hM8 (by omega))
        obtain ⟨A8, c8, rfl⟩ := Kd.R_slice hR8
        have HL8 := Aside0.mk (Kd.R_reads' hR8).2.2
        clear hR8 hB8 hM8 HB7' HR5b HR7
        go_wp2_with fail
        refine (kept_any A8 c8 l8 _ HL8.out).mono ?_
        rintro e w9 ⟨rfl, hB9⟩
        have HB9 := Aside0.mk (below_step HB8.out hB9)
        have HR5d := Aside0.mk (Kd.C_below HR5c.out hB9)
        have HR7d := Aside0.mk (Kd.C_below HR7c.out hB9)
        rw [HK.out, LC.out]
        clear hB9 HL8 HB8 HK HR5c HR7c
        go_wp2_with fail
        refine (make_any A5 c5 X5 A7 c7 X7 _ HR5d.out HR7d.out (by omega) (by omega)).mono ?_
        rintro e w10 ⟨v10, l10, rfl, hR10, hB10, hM10⟩
        have HB10 := Aside0.mk (below_step HB9.out hB10)
        have HK := Aside0.mk (keptW_lcs hM10 (by omega))
        obtain ⟨A10, c10, rfl⟩ := Kd.R_slice hR10
        have HL10 := Aside0.mk (Kd.R_reads' hR10).2.2
        clear hR10 hB10 hM10 HB9 HR5d HR7d
        go_wp2_with fail
        refine (kept_any A10 c10 l10 _ HL10.out).mono ?_
        rintro e w11 ⟨rfl, hB11⟩
        have HB11 := Aside0.mk (below_step HB10.out hB11)
        rw [HK.out]
        clear hB11 HL10 HB10 HK
        have d1 : decide ((lcs a b : Int) + (m.length : Int) ≤ (lcs X5 X7 : Int)) = true := decide_eq_true (by rw [← HX5.out, ← HX7.out]; omega)
        have d2 : decide ((lcs a b : Int) ≤ (a.length : Int)) = true := decide_eq_true (by omega)
        have d3 : decide ((lcs a b : Int) ≤ (b.length : Int)) = true := decide_eq_true (by omega)
        have d2n : decide (lcs a b ≤ a.length) = true := decide_eq_true (by omega)
        have d3n : decide (lcs a b ≤ b.length) = true := decide_eq_true (by omega)
        clear LC HX5 HX7 HR0 HR1 HR2 l3
        by_cases hab : b.length < a.length
        · go_wp2
          go_ret
          exact ⟨rfl, HB11.out⟩
        · go_wp2
          go_ret
          exact ⟨rfl, HB11.out⟩
/-! ### the law ScriptSame -/
theorem C_nil {α : Type} (d : Kd α) (w : World) : Kd.C d w none ([] : List α).length [] := ⟨rfl, by simp, fun h => by simp at h⟩
attribute [local go_sem high] eqA34
set_option maxRecDepth 100000 in
set_option maxHeartbeats 8000000 in
theorem same_law (A0 : Option Addr) (c0 : Nat) (a : List Int) (w : World) (hr0 : Kd.C (Kd.int .i64) w A0 a.length a) :
    Calls Try.prog 6 #[.slice A0 a.length c0] w fun e w' => e = .returned (.bool true) ∧ Below w.heap.size w w' := by
  have HR0 := Aside0.mk hr0
  have b0 := hr0.2.1
  clear hr0
  have hu34 := Try.underlying34
  by_cases ha : 200 < a.length
  · have da : decide ((200 : Int) < (a.length : Int)) = true := decide_eq_true (by omega)
    clear ha
    go_enter Try.func6, Try.ntmps6
    go_wp2_with fail
    refine (awake_any _).mono ?_
    rintro e w1 ⟨rfl, hB1⟩
    go_wp2_with fail
    refine (awake_any _).mono ?_
    rintro e w2 ⟨rfl, hB2⟩
    have HB := Aside0.mk (below_step hB1 hB2)
    clear hB1 hB2
    go_wp2
    go_ret
    exact ⟨rfl, HB.out⟩
  · have da : decide ((200 : Int) < (a.length : Int)) = false := decide_eq_false (by omega)
    by_cases hz : a.length = 0
    · have dz : ((a.length : Int) == 0) = true := by rw [beq_iff_eq]; omega
      have HZ := Aside0.mk hz
      clear hz
      go_enter Try.func6, Try.ntmps6
      go_wp2_with fail
      refine (awake_any _).mono ?_
      rintro e w1 ⟨rfl, hB1⟩
      have HB1 := Aside0.mk hB1
      clear hB1
      go_wp2_with fail
      refine (make_any A0 c0 a A0 c0 a _ (Kd.C_below HR0.out HB1.out) (Kd.C_below HR0.out HB1.out) (by omega) (by omega)).mono ?_
      rintro e w2 ⟨v2, l, rfl, hR2, hB2, hM2⟩
      have HB2 := Aside0.mk (below_step HB1.out hB2)
      obtain ⟨Am, cm, rfl⟩ := Kd.R_slice hR2
      rw [show l = [] from by rw [(hM2.same rfl).2, if_pos HZ.out]]
      clear hR2 hB2 hM2 HB1 HZ
      go_wp2
      go_ret
      exact ⟨rfl, HB2.out⟩
    · have dz : ((a.length : Int) == 0) = false := by rw [beq_eq_false_iff_ne]; omega
      have HZ := Aside0.mk hz
      clear hz
      go_enter Try.func6, Try.ntmps6
      go_wp2_with fail
      refine (awake_any _).mono ?_
      rintro e w1 ⟨rfl, hB1⟩
      have HB1 := Aside0.mk hB1
      clear hB1
      go_wp2_with fail
      refine (make_any none 0 [] A0 c0 a _ (C_nil _ _) (Kd.C_below HR0.out HB1.out) (by decide) (by omega)).mono ?_
      rintro e w2 ⟨v2, l, rfl, hR2, hB2, hM2⟩
      have HB2 := Aside0.mk (below_step HB1.out hB2)
      have HL := Aside0.mk (hM2.nil_left rfl)
      rw [List.take_length] at HL
      have hll : l.length = a.length := by rw [HL.out, List.length_map]
      have HLL := Aside0.mk hll
      obtain ⟨Am, cm, rfl⟩ := Kd.R_slice hR2
      have HR2 := Aside0.mk (Kd.R_reads' hR2).2.2
      rw [hll] at HR2 ⊢
      clear hR2 hB2 hM2 HB1 hll
      go_wp2
      go_loopw [5, 6, 28] (fun v5 v6 v28 w' => ∃ k : Nat, v28 = .int .i64 k ∧ k ≤ a.length ∧ Aside0 (Below w2.heap.size w2 w')) (fun _ _ v28 _ => a.length - (intOf v28).toNat)
      case atStart => exact ⟨0, rfl, by omega, ⟨Below.refl _ _⟩⟩
      case round =>
        obtain ⟨k, rfl, hk, HB⟩ := hrel
        by_cases hlt : k < a.length
        · have HE : Aside0 (ed l k = ⟨3, rd a (k : Int)⟩) := ⟨by rw [ed_eq (by rw [HLL.out]; exact hlt), rd_eq hlt]; simp [HL.out]⟩
          obtain ⟨ad0, rfl, hx0, hx1⟩ := at_ed (n := a.length) (Kd.C_below HR2.out HB.out) k hlt
          rw [HE.out] at hx0 hx1
          obtain ⟨ad1, rfl, hy⟩ := at_nat (Kd.C_alloc (Kd.C_below HR0.out (below_step HB2.out HB.out)) (.cells #[.int .i64 3, .int .i64 (rd a (k : Int))] 34)) k hlt
          have q0 : decide ((a.length : Int) ≤ (k : Int)) = false := decide_eq_false (by omega)
          have q0n : decide (a.length ≤ k) = false := decide_eq_false (by omega)
          have q1 : (0 : Int) ≤ (k : Int) := by omega
          have q2 : (k : Int) < (a.length : Int) := by omega
          have q3 : (rd a (k : Int) == rd a (k : Int)) = true := by simp
          go_wp2
          go_quiet (fail)
          go_wp2
          go_roundw
          case rel => exact ⟨k + 1, by go_num, by omega, ⟨pw_below_drewN (below_alloc HB.out _) _⟩⟩
          case measure => simp [intOf]; omega
        · have HBf := Aside0.mk (below_step HB2.out HB.out)
          go_wp2_with (first | (go_at_call 14; fail) | (refine gate_guard (by rfl) ?_; dsimp only; at_builtin; refine Kd.R_append_rows (Kd.int .i64) (Rr := fun x cs => cs = [.int .i64 x]) (w0 := wr) wr.heap.size rfl (.tmp 52) (.tmp 53) 22 3 (.int .i64 0) 8 rfl Try.underlying22 info3 rfl (by decide) (by omega) (.slice (some ⟨wr.heap.size, 0, none⟩) 0 0) [] a _ _ _ (fun _ => True) (fun _ => False) rfl rfl (R_empty _ _ _ _ (Nat.le_refl _)) (Kd.C_alloc (Kd.C_below HR0.out HBf.out) _) (fun _ _ h => h) (fun _ h => h.elim) (fun _ _ => trivial) (below_alloc (Below.refl _ _) _) (below_alloc (Below.refl _ _) _).size (by first | omega | (simp; omega)) ?_; intro v4 w4 hR4 hB4 _ _; rw [List.nil_append] at hR4; obtain ⟨A4, c4, ev⟩ := Kd.R_slice hR4; subst ev; have HR4 := Aside0.mk (Kd.R_reads' hR4).2.2; have HR4c := Aside0.mk (Kd.R_reads' hR4).2.1; have HB4 := Aside0.mk hB4; clear hR4 hB4))
          refine (make_any A0 c0 a A4 c4 a _ (Kd.C_below HR0.out (below_step HBf.out HB4.out)) HR4.out (by omega) (by omega)).mono ?_
          rintro e w5 ⟨v5, l5, rfl, hR5, hB5, hM5⟩
          have HB5 := Aside0.mk (below_step (below_step HBf.out HB4.out) hB5)
          obtain ⟨A5, c5, rfl⟩ := Kd.R_slice hR5
          have HR5 := Aside0.mk (Kd.R_reads' hR5).2.2
          have HE5 : Aside0 (l5 = [⟨1, (a.length : Int)⟩]) := ⟨by rw [(hM5.same rfl).2, if_neg HZ.out]⟩
          clear hR5 hB5 hM5 HB4 HBf HR4 HR4c
          go_wp2_with fail
          refine (same_any A5 c5 l5 (some ⟨w5.heap.size, 0, none⟩) 1 [⟨1, (a.length : Int)⟩] _ (Kd.C_alloc HR5.out _) (C_eds w5 _ rfl [⟨1, (a.length : Int)⟩] (by simp) rfl)).mono ?_
          rintro e w6 ⟨rfl, ⟨n6, rfl⟩⟩
          rw [show decide (l5 = [⟨1, (a.length : Int)⟩]) = true from decide_eq_true HE5.out]
          have HB6 := Aside0.mk (pw_below_drewN (below_alloc HB5.out (.cells #[.int .i64 1, .int .i64 (a.length : Int)] 34)) n6)
          clear HB5 HR5 HE5
          go_wp2_with fail
          refine (make_any A0 c0 a none 0 [] _ (Kd.C_below HR0.out HB6.out) (C_nil _ _) (by omega) (by simp)).mono ?_
          rintro e w7 ⟨v7, l7, rfl, hR7, hB7, hM7⟩
          have HB7 := Aside0.mk (below_step HB6.out hB7)
          obtain ⟨A7, c7, rfl⟩ := Kd.R_slice hR7
          have HR7 := Aside0.mk (Kd.R_reads' hR7).2.2
          have HE7 : Aside0 (l7 = [⟨2, (a.length : Int)⟩]) := ⟨by rw [hM7.nil_right rfl, if_neg HZ.out]⟩
          clear hR7 hB7 hM7 HB6
          go_wp2_with fail
          refine (same_any A7 c7 l7 (some ⟨w7.heap.size, 0, none⟩) 1 [⟨2, (a.length : Int)⟩] _ (Kd.C_alloc HR7.out _) (C_eds w7 _ rfl [⟨2, (a.length : Int)⟩] (by simp) rfl)).mono ?_
          rintro e w8 ⟨rfl, ⟨n8, rfl⟩⟩
          rw [show decide (l7 = [⟨2, (a.length : Int)⟩]) = true from decide_eq_true HE7.out]
          have HB8 := Aside0.mk (pw_below_drewN (below_alloc HB7.out (.cells #[.int .i64 2, .int .i64 (a.length : Int)] 34)) n8)
          clear HB7 HR7 HE7
          go_wp2
          go_ret
          exact ⟨rfl, HB8.out⟩
/-! ### the law ScriptApplies -/
theorem C_edsR {w : World} {A : Option Addr} {n : Nat} {l : List Ed} (h : Kd.C kEd w A n l) : ReadsRow (fun x cs => cs = [.int .i64 x.kind, .int .i64 x.n]) kEd.sz w A n l := by
  refine ⟨h.1, h.2.1, fun hp => ?_⟩
  obtain ⟨ad, e, hc⟩ := h.2.2 hp
  refine ⟨ad, e, fun j p hj => ?_⟩
  obtain ⟨c, h1, h2, h3⟩ := hc j p hj
  exact ⟨c, h1, kEd_open h2, h3⟩
set_option maxRecDepth 100000 in
set_option maxHeartbeats 8000000 in
theorem applies_law (A0 : Option Addr) (c0 : Nat) (a : List Int) (A1 : Option Addr) (c1 : Nat) (l : List Ed) (w : World) (hr0 : Kd.C (Kd.int .i64) w A0 a.length a) (hc0 : a.length ≤ c0) (hr1 : Kd.C kEd w A1 l.length l) :
    Calls Try.prog 3 #[.slice A0 a.length c0, .slice A1 l.length c1] w fun e w' => e = .returned (.bool true) ∧ Below w.heap.size w w' := by
  have HR0 := Aside0.mk hr0
  have HR1 := Aside0.mk hr1
  have HC0 := Aside0.mk hc0
  have b0 := hr0.2.1
  have b1 := hr1.2.1
  clear hr0 hr1 hc0
  have hu34 := Try.underlying34
  by_cases ha : 500 < a.length
  · have da : decide ((500 : Int) < (a.length : Int)) = true := decide_eq_true (by omega)
    clear ha
    go_enter Try.func3, Try.ntmps3
    go_wp2_with fail
    refine (awake_any _).mono ?_
    rintro e w1 ⟨rfl, hB1⟩
    go_wp2_with fail
    refine (awake_any _).mono ?_
    rintro e w2 ⟨rfl, hB2⟩
    have HB := Aside0.mk (below_step hB1 hB2)
    clear hB1 hB2
    go_wp2
    go_ret
    exact ⟨rfl, HB.out⟩
  · have da : decide ((500 : Int) < (a.length : Int)) = false := decide_eq_false (by omega)
    by_cases hb : 500 < l.length
    · have db : decide ((500 : Int) < (l.length : Int)) = true := decide_eq_true (by omega)
      clear ha hb
      go_enter Try.func3, Try.ntmps3
      go_wp2_with fail
      refine (awake_any _).mono ?_
      rintro e w1 ⟨rfl, hB1⟩
      go_wp2_with fail
      refine (awake_any _).mono ?_
      rintro e w2 ⟨rfl, hB2⟩
      have HB := Aside0.mk (below_step hB1 hB2)
      clear hB1 hB2
      go_wp2
      go_ret
      exact ⟨rfl, HB.out⟩
    · have db : decide ((500 : Int) < (l.length : Int)) = false := decide_eq_false (by omega)
      go_enter Try.func3, Try.ntmps3
      go_wp2_with fail
      refine (awake_any _).mono ?_
      rintro e w1 ⟨rfl, hB1⟩
      have HB1 := Aside0.mk hB1
      clear hB1
      go_wp2_with (first | (go_at_call 9; fail) | (at_builtin; refine Kd.R_append_rows (Kd.int .i64) (Rr := fun x cs => cs = [.int .i64 x]) (w0 := w1) w1.heap.size rfl (.tmp 23) (.tmp 24) 22 3 (.int .i64 0) 8 rfl Try.underlying22 info3 rfl (by decide) (by omega) (.slice (some ⟨w1.heap.size, 0, none⟩) 0 0) [] a _ _ _ (fun _ => True) (fun _ => False) rfl rfl (R_empty _ _ _ _ (Nat.le_refl _)) (Kd.C_alloc (Kd.C_below HR0.out HB1.out) _) (fun _ _ h => h) (fun _ h => h.elim) (fun _ _ => trivial) (below_alloc (Below.refl _ _) _) (below_alloc (Below.refl _ _) _).size (by first | omega | (simp; omega)) ?_; intro v2 w2 hR2 hB2 _ _; rw [List.nil_append] at hR2; obtain ⟨A2, c2, ev⟩ := Kd.R_slice hR2; subst ev; have HR2 := Aside0.mk (Kd.R_reads' hR2).2.2; have HR2c := Aside0.mk (Kd.R_reads' hR2).2.1; have HB2 := Aside0.mk hB2; clear hR2 hB2) | (at_builtin; refine Kd.R_append_rows kEd (Rr := fun x cs => cs = [.int .i64 x.kind, .int .i64 x.n]) (w0 := w2) w2.heap.size rfl (.tmp 26) (.tmp 27) 23 34 (.agg #[(.int .i64 0), (.int .i64 0)]) 16 rfl Try.underlying23 info34 rfl (by decide) (by omega) (.slice (some ⟨w2.heap.size, 0, none⟩) 0 0) [] l _ _ _ (fun _ => True) (fun _ => False) rfl rfl (R_empty _ _ _ _ (Nat.le_refl _)) (C_edsR (Kd.C_alloc (Kd.C_below HR1.out (below_step HB1.out HB2.out)) _)) (fun x cs h => by rw [h]; exact kEd_mkM _ _ _ x) (fun _ h => h.elim) (fun _ _ => trivial) (below_alloc (Below.refl _ _) _) (below_alloc (Below.refl _ _) _).size (by first | omega | (simp; omega)) ?_; intro v3 w3 hR3 hB3 _ _; rw [List.nil_append] at hR3; obtain ⟨A3, c3, ev⟩ := Kd.R_slice hR3; subst ev; have HR3 := Aside0.mk (Kd.R_reads' hR3).2.2; have HB3 := Aside0.mk hB3; clear hR3 hB3))
      have HB3' := Aside0.mk (below_step (below_step HB1.out HB2.out) HB3.out)
      refine (apply_any A2 c2 a A3 c3 l _ (Kd.C_below HR2.out HB3.out) HR2c.out HR3.out (by omega) (by omega)).mono ?_
      rintro e w4 ⟨v4, rfl, hR4, hB4⟩
      have HB4 := Aside0.mk (below_step HB3'.out hB4)
      obtain ⟨A4, c4, rfl⟩ := Kd.R_slice hR4
      have HR4 := Aside0.mk (Kd.R_reads' hR4).2.2
      clear hR4 hB4 HB1 HB2 HB3 HB3' HR2 HR2c HR3
      go_wp2_with fail
      refine (rapply_any A0 c0 a A1 c1 l _ (Kd.C_below HR0.out HB4.out) HC0.out (Kd.C_below HR1.out HB4.out) (by omega) (by omega)).mono ?_
      rintro e w5 ⟨v5, rfl, hR5, hB5⟩
      have HB5 := Aside0.mk (below_step HB4.out hB5)
      have HR4' := Aside0.mk (Kd.C_below HR4.out hB5)
      obtain ⟨A5, c5, rfl⟩ := Kd.R_slice hR5
      have HR5 := Aside0.mk (Kd.R_reads' hR5).2.2
      clear hR5 hB5 HB4 HR4
      obtain ⟨r, hr⟩ : ∃ r, app a l = r := ⟨_, rfl⟩
      rw [hr] at HR4' HR5 ⊢
      clear hr
      obtain ⟨r1, r2⟩ := r
      go_wp2_with fail
      refine (ints_eq A4 c4 r1 A5 c5 r1 _ HR4'.out HR5.out).mono ?_
      rintro e w6 ⟨rfl, ⟨n6, rfl⟩⟩
      rw [show decide (r1 = r1) = true from decide_eq_true rfl]
      have HB6 := Aside0.mk (pw_below_drewN HB5.out n6)
      clear HB5 HR4' HR5
      generalize w5.drewN n6 = W6 at HB6 ⊢
      cases r2 with
      | false =>
        go_wp2
        go_ret
        exact ⟨rfl, HB6.out⟩
      | true =>
        go_wp2_with (first | (go_at_call 12; fail) | (refine gate_guard (by rfl) ?_; dsimp only; at_builtin; refine Kd.R_append_rows kEd (Rr := fun x cs => cs = [.int .i64 x.kind, .int .i64 x.n]) (w0 := W6) W6.heap.size rfl (.tmp 50) (.tmp 51) 23 34 (.agg #[(.int .i64 0), (.int .i64 0)]) 16 rfl Try.underlying23 info34 rfl (by decide) (by omega) (.slice (some ⟨W6.heap.size, 0, none⟩) 0 0) [] l _ _ _ (fun _ => True) (fun _ => False) rfl rfl (R_empty _ _ _ _ (Nat.le_refl _)) (C_edsR (Kd.C_alloc (Kd.C_below HR1.out HB6.out) _)) (fun x cs h => by rw [h]; exact kEd_mkM _ _ _ x) (fun _ h => h.elim) (fun _ _ => trivial) (below_alloc (Below.refl _ _) _) (below_alloc (Below.refl _ _) _).size (by first | omega | (simp; omega)) ?_; intro v7 w7 hR7 hB7 _ _; rw [List.nil_append] at hR7; obtain ⟨A7, c7, ev⟩ := Kd.R_slice hR7; subst ev; have HR7 := Aside0.mk (Kd.R_reads' hR7).2.2; have HB7 := Aside0.mk hB7; clear hR7 hB7))
        refine (kept_any A7 c7 l _ HR7.out).mono ?_
        rintro e w8 ⟨rfl, hB8⟩
        have HB8 := Aside0.mk (below_step (below_step HB6.out HB7.out) hB8)
        clear hB8 HB6 HB7 HR7
        go_wp2_with fail
        refine (rkept_any A1 c1 l _ (Kd.C_below HR1.out HB8.out)).mono ?_
        rintro e w9 ⟨rfl, ⟨n9, rfl⟩⟩
        go_wp2
        go_ret
        exact ⟨rfl, pw_below_drewN HB8.out _⟩
end Go.Proofs.Ytapoajpmmfddmaa.Sc
