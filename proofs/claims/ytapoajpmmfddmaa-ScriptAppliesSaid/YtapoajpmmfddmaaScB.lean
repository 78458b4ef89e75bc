/- What common comes to: the table of the longest common parts of both lists' ends. Conditions: those that each theorem states. -/
import Derived.Test.YtapoajpmmfddmaaScA
namespace Go.Proofs.Ytapoajpmmfddmaa.Sc
open Go.RowKit Go.Proofs.YtapoajpmmfddmaaW.PrintWords Go.Proofs.YtapoajpmmfddmaaW.PrintLast Go.Proofs.YtapoajpmmfddmaaW.PrintMore
attribute [local go_sem] max2_int min2_int max_two min_two max_three min_three max_four min_four
/-! ### the table, made -/
def CommonPost (a b : List Int) (w : World) (e : Ending) (w' : World) : Prop :=
  ∃ (v : Value) (t : List (List Int)), e = .returned v ∧ Kd.S kGrid 22 w' w.heap.size (fun _ => True) v t ∧ Below w.heap.size w w' ∧ Full a b t
def ComRel (a b : List Int) (w : World) (g cap : Nat) (i j : Int) (w' : World) : Prop :=
  ∃ t, Kd.S kGrid 22 w' w.heap.size (fun _ => True) (.slice (some ⟨g, 0, none⟩) (a.length + 1) cap) t ∧ Below w.heap.size w w' ∧ Part a b t i j
theorem ComRel.drewN {a b : List Int} {w w' : World} {g cap : Nat} {i j : Int} (h : ComRel a b w g cap i j w') (n : Nat) : ComRel a b w g cap i j (w'.drewN n) := by
  obtain ⟨t, h1, h2, h3⟩ := h
  exact ⟨t, Kd.S_drewN h1 n, pw_below_drewN h2 n, h3⟩
set_option maxHeartbeats 4000000 in
theorem common_any (A0 : Option Addr) (c0 : Nat) (a : List Int) (A1 : Option Addr) (c1 : Nat) (b : List Int) (w : World) (hr0 : Kd.C (Kd.int .i64) w A0 a.length a) (hr1 : Kd.C (Kd.int .i64) w A1 b.length b)
    (ha : a.length ≤ 1000000) (hb : b.length ≤ 1000000) : Calls Try.prog 17 #[.slice A0 a.length c0, .slice A1 b.length c1] w (CommonPost a b w) := by
  have HR0 := Aside0.mk hr0
  have HR1 := Aside0.mk hr1
  have HB := Aside0.mk (Below.refl w.heap.size w)
  clear hr0 hr1
  have hu22 := Try.underlying22
  have ea : ((a.length : Int) + 1).toNat = a.length + 1 := by omega
  have eb : ((b.length : Int) + 1).toNat = b.length + 1 := by omega
  have EA := Aside0.mk ea
  have EB := Aside0.mk eb
  clear ea eb
  go_enter Try.func17, Try.ntmps17
  go_wp2_with (refine Kd.S_make kGrid (w0 := w) w.heap.size 22 rfl (N := 12) rfl 39 _ _ rfl ((a.length : Int) + 1) rfl rfl Try.underlying39 (.slice none 0 0) 24 info22 rfl (by decide) (by omega) [] (ok := fun _ => True) (okp := fun _ => True) ⟨_, rfl, Kd.R_nil _ _ _ _ _⟩ (fun _ hk => hk) trivial (by omega) (by omega) HB.out HB.out.size ?_; intro v1 w1 ho hb1 _ _; rw [EA.out] at ho; have HO := Aside0.mk ho; have HB1 := Aside0.mk hb1; clear ho hb1 HB; obtain ⟨g, cap, hv1, hbg, -⟩ := Kd.S_form HO.out (by rw [List.length_replicate]; omega); rw [List.length_replicate] at hv1; subst hv1)
  have HG := Aside0.mk hbg
  clear hbg
  go_loopw [6, 15] (fun v6 v15 w' => ∃ k : Nat, k ≤ a.length + 1 ∧ v15 = .int .i64 k ∧ Aside0 (Kd.S kGrid 22 w' w.heap.size (fun _ => True) (.slice (some ⟨g, 0, none⟩) (a.length + 1) cap) (List.replicate k (List.replicate (b.length + 1) 0) ++ List.replicate (a.length + 1 - k) [])) ∧ Aside0 (Below w.heap.size w w')) (fun _ v15 _ => a.length + 1 - (intOf v15).toNat)
  case atStart => exact ⟨0, by omega, rfl, by simpa using HO, HB1⟩
  case round =>
    clear HO HB1
    obtain ⟨k, hk, rfl, HO, HB⟩ := hrel
    by_cases hlt : k < a.length + 1
    · obtain ⟨gl, _, eg, -, hgl, -⟩ := Kd.S_form HO.out (by simp; omega)
      obtain rfl : g = gl := by injection eg with e1; injection e1 with e1; injection e1
      clear eg
      go_wp2_with (refine Kd.R_make (Kd.int .i64) (w0 := w) w.heap.size 3 rfl (N := 23) rfl 22 _ _ rfl ((b.length : Int) + 1) rfl rfl Try.underlying22 (.int .i64 0) 8 info3 rfl (by decide) (by omega) 0 (ok := fun _ => True) (okp := fun _ => True) rfl (fun _ hk => hk) trivial (by omega) (by omega) HB.out HB.out.size ?_; intro v1 w1 ho hb1 hg1 hn1; rw [EB.out] at ho; obtain ⟨Av, cv, ev⟩ := Kd.R_slice ho; subst ev; rw [List.length_replicate] at ho hn1; have HO1 := Aside0.mk (grid_put (S_elder HO.out hg1 hn1) ho (fun k hk he => by obtain ⟨b', h1, h2⟩ := hn1; rw [h1] at hk; injection hk with hk; omega) k hlt); have hc1 := HO1.out.1; have hf1 := HO1.out.2.1; obtain ⟨x1, hc1⟩ := hc1; have HB1 := Aside0.mk hb1; clear ho hb1 hg1 hn1)
      go_roundw
      case rel => exact ⟨k + 1, by omega, by go_num, ⟨by rw [← repl_set _ _ _ hlt]; exact HO1.out.2.2⟩, ⟨below_set HB1.out HG.out⟩⟩
      case measure => simp [intOf]; omega
    · have HC : Aside0 (ComRel a b w g cap ((a.length : Int) - 1) ((b.length : Int) - 1) wr) := ⟨_, HO.out, HB.out, part_first a b _ (by rw [show k = a.length + 1 from by omega, Nat.sub_self]; simp)⟩
      clear HO HB
      go_wp2
      go_loopw [7, 8] (fun v7 v8 w' => ∃ x : Int, v7 = .int .i64 x ∧ -1 ≤ x ∧ x < (a.length : Int) ∧ Aside0 (ComRel a b w g cap x ((b.length : Int) - 1) w')) (fun v7 _ _ => (intOf v7 + 1).toNat)
      case atStart => exact ⟨_, rfl, by omega, by omega, HC⟩
      case round =>
        clear HC
        obtain ⟨x, rfl, hx0, hx1, HC⟩ := hrel
        by_cases hx : 0 ≤ x
        · obtain ⟨i, rfl⟩ := Int.eq_ofNat_of_zero_le hx
          go_wp2
          go_loopw [8] (fun v8 w' => ∃ y : Int, v8 = .int .i64 y ∧ -1 ≤ y ∧ y < (b.length : Int) ∧ Aside0 (ComRel a b w g cap (i : Int) y w')) (fun v8 _ => (intOf v8 + 1).toNat)
          case atStart => exact ⟨_, rfl, by omega, by omega, HC⟩
          case round =>
            clear HC
            obtain ⟨y, rfl, hy0, hy1, HC⟩ := hrel
            by_cases hy : 0 ≤ y
            · obtain ⟨j, rfl⟩ := Int.eq_ofNat_of_zero_le hy
              obtain ⟨ad0, rfl, hx0⟩ := at_nat (Kd.C_below HR0.out HC.out.choose_spec.2.1) i (by omega)
              obtain ⟨ad1, rfl, hx1⟩ := at_nat (Kd.C_below HR1.out HC.out.choose_spec.2.1) j (by omega)
              by_cases he : rd a (i : Int) = rd b (j : Int)
              · have hbe : (rd a (i : Int) == rd b (j : Int)) = true := by simpa using he
                have HE := Aside0.mk (Lc_eq (a := a) (b := b) (i := i) (j := j) (by omega) (by omega) he)
                clear he
                go_wp2
                go_quiet (fail)
                go_wp2
                have HC2 := ComRel.drewN HC.out nq
                clear HC hx0 hx1
                generalize wr.drewN nq = W2 at HC2 ⊢
                obtain ⟨t, hS, hB, hP⟩ := HC2
                have hs := hP.1
                obtain ⟨gi, ci, hg0, hg1, hg2, hg3, hg4⟩ := grid_at hS i j (by omega) (by rw [hs.2 i (by omega)]; omega)
                obtain ⟨gn, cn, hn0, hn1, -, -, -⟩ := grid_at hS (i + 1) j (by omega) (by rw [hs.2 (i + 1) (by omega)]; omega)
                rw [hs.2 i (by omega)] at hg0 hg1
                rw [hs.2 (i + 1) (by omega)] at hn0 hn1
                have hn1' := hn1 (j + 1) (by omega)
                have hg1'' := hg1 j (by omega)
                have e1 : rd (row t (i + 1)) ((j + 1 : Nat) : Int) = Lc a b (i + 1) (j + 1) := hP.2.1 (i + 1) (j + 1) (by omega) (by omega) (by omega)
                rw [e1] at hn1'
                have l1 := Lc_bound a b (i + 1) (j + 1)
                have HN : Aside0 (ComRel a b w g cap (i : Int) ((j : Int) - 1) (W2.drew.setCell ⟨gi, j, none⟩ (.int .i64 (Lc a b (i + 1) (j + 1) + 1)))) := ⟨by
                  rw [← HE.out]
                  exact ⟨_, hg4 _ _ rfl, below_set (below_drew hB) hg3, part_step hP (by omega) (by omega)⟩⟩
                have q1 : (i : Int) < (a.length : Int) + 1 := by omega
                have q2 : (i : Int) < (a.length : Int) := by omega
                have q3 : (j : Int) < (b.length : Int) + 1 := by omega
                have q4 : (j : Int) < (b.length : Int) := by omega
                have w1 : IntKind.i64.wrap ((i : Int) + 1) = (i : Int) + 1 := (i64_w _).trans (wrap_id (by omega) (by omega))
                have w2 : IntKind.i64.wrap ((j : Int) + 1) = (j : Int) + 1 := (i64_w _).trans (wrap_id (by omega) (by omega))
                have w3 : IntKind.i64.wrap (Lc a b (i + 1) (j + 1) + 1) = Lc a b (i + 1) (j + 1) + 1 := (i64_w _).trans (wrap_id (by omega) (by omega))
                have n1 : ((i : Int) + 1).toNat = i + 1 := by omega
                have n2 : ((j : Int) + 1).toNat = j + 1 := by omega
                have p1 : (0 : Int) ≤ (i : Int) + 1 := by omega
                have p2 : (0 : Int) ≤ (j : Int) + 1 := by omega
                clear hS hB hP hs hg1 hn1 hg4 hg3 e1 l1
                go_still_tail 16, (by kernel_rfl)
                change wpList _ _ _ _ _ W2.drew
                go_wp2
                go_roundw
                case rel => exact ⟨_, rfl, by omega, by omega, HN⟩
                case measure => simp [intOf]
              · have hbe : (rd a (i : Int) == rd b (j : Int)) = false := by simpa using he
                have HE := Aside0.mk (Lc_ne (a := a) (b := b) (i := i) (j := j) (by omega) (by omega) he)
                clear he
                go_wp2
                go_quiet (fail)
                go_wp2
                have HC2 := ComRel.drewN HC.out nq
                clear HC hx0 hx1
                generalize wr.drewN nq = W2 at HC2 ⊢
                obtain ⟨t, hS, hB, hP⟩ := HC2
                have hs := hP.1
                obtain ⟨gi, ci, hg0, hg1, hg2, hg3, hg4⟩ := grid_at hS i j (by omega) (by rw [hs.2 i (by omega)]; omega)
                obtain ⟨gn, cn, hn0, hn1, -, -, -⟩ := grid_at hS (i + 1) j (by omega) (by rw [hs.2 (i + 1) (by omega)]; omega)
                rw [hs.2 i (by omega)] at hg0 hg1
                rw [hs.2 (i + 1) (by omega)] at hn0 hn1
                have hn1' := hn1 j (by omega)
                have hg1' := hg1 (j + 1) (by omega)
                have hg1'' := hg1 j (by omega)
                have e1 : rd (row t (i + 1)) (j : Int) = Lc a b (i + 1) j := hP.2.1 (i + 1) j (by omega) (by omega) (by omega)
                have e2 : rd (row t i) ((j + 1 : Nat) : Int) = Lc a b i (j + 1) := hP.2.1 i (j + 1) (by omega) (by omega) (by omega)
                rw [e1] at hn1'
                rw [e2] at hg1'
                have q1 : (i : Int) < (a.length : Int) + 1 := by omega
                have q2 : (i : Int) < (a.length : Int) := by omega
                have q3 : (j : Int) < (b.length : Int) + 1 := by omega
                have q4 : (j : Int) < (b.length : Int) := by omega
                have w1 : IntKind.i64.wrap ((i : Int) + 1) = (i : Int) + 1 := (i64_w _).trans (wrap_id (by omega) (by omega))
                have w2 : IntKind.i64.wrap ((j : Int) + 1) = (j : Int) + 1 := (i64_w _).trans (wrap_id (by omega) (by omega))
                have n1 : ((i : Int) + 1).toNat = i + 1 := by omega
                have n2 : ((j : Int) + 1).toNat = j + 1 := by omega
                have p1 : (0 : Int) ≤ (i : Int) + 1 := by omega
                have p2 : (0 : Int) ≤ (j : Int) + 1 := by omega
                by_cases hm : Lc a b (i + 1) j < Lc a b i (j + 1)
                all_goals
                  have HN : Aside0 (ComRel a b w g cap (i : Int) ((j : Int) - 1) (W2.drew.setCell ⟨gi, j, none⟩ (.int .i64 (Lc a b i j)))) := ⟨_, hg4 _ _ rfl, below_set (below_drew hB) hg3, part_step hP (by omega) (by omega)⟩
                  first | rw [show Lc a b i j = Lc a b i (j + 1) from by rw [HE.out]; omega] at HN | rw [show Lc a b i j = Lc a b (i + 1) j from by rw [HE.out]; omega] at HN
                  clear hS hB hP hs hg1 hn1 hg4 hg3 e1 e2
                  go_still_tail 23, (by kernel_rfl)
                  change wpList _ _ _ _ _ W2.drew
                  go_wp2
                  go_roundw
                  case rel => exact ⟨_, rfl, by omega, by omega, HN⟩
                  case measure => simp [intOf]
            · have HP : Aside0 (∃ t, Kd.S kGrid 22 wr w.heap.size (fun _ => True) (.slice (some ⟨g, 0, none⟩) (a.length + 1) cap) t ∧ Below w.heap.size w wr ∧ Part a b t ((i : Int) - 1) ((b.length : Int) - 1)) := ⟨by
                obtain ⟨t, h1, h2, h3⟩ := HC.out
                exact ⟨t, h1, h2, part_next h3 (by omega)⟩⟩
              go_wp2
              go_roundw
              case rel => exact ⟨_, rfl, by omega, by omega, HP⟩
              case measure => simp [intOf]
        · go_wp2
          go_ret
          obtain ⟨t, h1, h2, h3⟩ := HC.out
          exact ⟨_, t, rfl, h1, h2, part_full h3 (by omega)⟩
end Go.Proofs.Ytapoajpmmfddmaa.Sc
