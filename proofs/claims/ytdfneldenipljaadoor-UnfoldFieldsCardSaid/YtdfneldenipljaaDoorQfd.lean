/- Part 4 of the texts that the rows of this seat rest on, joined by a program: what its functions come to. Conditions: those that each theorem states. -/
import Derived.Test.YtdfneldenipljaaDoorQfc
import Derived.BigQuiet
set_option linter.unusedVariables false
set_option linter.unusedSimpArgs false
section
-- PRINTED BY print.sh 35421559b90ae4d0a3588c463048766b98c2df88dd9212a6774a882060cdf62d: not written by this session
namespace Go.Proofs.YtdfneldenipljaaDoor.PClassNumbers
open Go.RowKit Go.Proofs.YtdfneldenipljaaDoorW.PrintWords Go.Proofs.YtdfneldenipljaaDoorW.PrintLast Go.Proofs.YtdfneldenipljaaDoorW.PrintMore
attribute [local go_sem] max2_int min2_int max_two min_two max_three min_three max_four min_four   -- for this text's walks alone
set_option linter.unusedVariables false
set_option linter.unusedSimpArgs false
def dioramaref09_Led.l0 : Nat → List Bool → List Int → List (S52) → Int → Option (List Bool)
  | 0, _, _, _, _ => none
  | k + 1, x5, x6, x238000, x238001 => if (x6.length : Int) > 0 then (if 0 < (x6.length : Int) then (if 1 ≤ (x6.length : Int) then ((some (x6.drop (1 : Int).toNat : List Int)).bind fun y249 => (if 0 ≤ (rd x6 0) then (if (rd x6 0) < (x5.length : Int) then (if (rdOf false x5 (rd x6 0) = true) then (dioramaref09_Led.l0 k x5 y249 x238000 x238001) else ((some (([] : List Int) : List Int)).bind fun y254 => (if y254.length + y249.length < 17592186044416 then ((some (y254 ++ y249 : List Int)).bind fun y257 => (if (rd x6 0) < (x238000.length : Int) then (if y257.length + ((rd_T52 x238000 (rd x6 0)).f3).length < 17592186044416 then (dioramaref09_Led.l0 k (x5.set ((rd x6 0) : Int).toNat true) (y257 ++ ((rd_T52 x238000 (rd x6 0)).f3)) x238000 x238001) else (none)) else (none))) else (none)))) else (none)) else (none))) else (none)) else (none)) else (some x5)
def dioramaref09_Led.f (k : Nat) (l0_0 : List (S52)) (a0_1 : Int) (a1 : Int) : Option (List Bool) := if 0 ≤ (l0_0.length : Int) then (if ((l0_0.length : Int) : Int).toNat ≤ 281474976710656 then ((some (([] : List Int) : List Int)).bind fun y241 => (if 0 ≤ a1 then (if a1 < (l0_0.length : Int) then (if y241.length + ((rd_T52 l0_0 a1).f3).length < 17592186044416 then (dioramaref09_Led.l0 k (List.replicate ((l0_0.length : Int) : Int).toNat false) (y241 ++ ((rd_T52 l0_0 a1).f3)) l0_0 a0_1) else (none)) else (none)) else (none))) else (none)) else (none)
def dioramaref09_Led.T8 : Bool × List (List Nat × List Nat) := (true, [([], []), ([], []), ([0, 1], [0, 1]), ([], []), ([3], [3]), ([], []), ([4, 5], [4, 5]), ([6], [6]), ([7], [7]), ([2, 8, 2], [2, 8]), ([9, 9, 0, 1, 2, 3, 4, 5, 6, 7, 8, 9], [1, 9])])
def dioramaref09_Led.B8 : List Nat := [0, 0, 3, 0, 8, 0, 56, 120, 248, 511, 1023]
theorem dioramaref09_Led.tab8 : rtab .any (opsOf Tryd.f45 8) = dioramaref09_Led.T8 := by kernel_rfl
theorem dioramaref09_Led.bits8 : waitsOk dioramaref09_Led.T8.2 dioramaref09_Led.B8 = true := by kernel_rfl
set_option maxHeartbeats 8000000 in
set_option maxRecDepth 100000 in
theorem dioramaref09_Led.calls (k : Nat) (A0_0 : Option Addr) (c0_0 : Nat) (l0_0 : List (S52)) (a0_1 : Int) (a1 : Int) (r : List Bool) (w : World) (hr0_0 : Kd.C k52 w A0_0 l0_0.length l0_0) (hc0_0 : l0_0.length ≤ c0_0) (h : dioramaref09_Led.f k l0_0 a0_1 a1 = some r) :
    Calls Tryd.prog 45 #[.agg #[.slice A0_0 l0_0.length c0_0, .int .i64 a0_1], .int .i64 a1] w fun e w' => ∃ v0_ : Value, e = .returned (v0_) ∧ Kd.R Kd.bool 4 w' w.heap.size (fun _ => True) v0_ r ∧ Below w.heap.size w w' := by
  have hu34 := Tryd.underlying34
  have HR0_0 := Aside0.mk hr0_0
  have HC0_0 := Aside0.mk hc0_0
  clear hr0_0 hc0_0
  have HB := Aside0.mk (Below.refl w.heap.size w)
  have H : (if 0 ≤ (l0_0.length : Int) then (if ((l0_0.length : Int) : Int).toNat ≤ 281474976710656 then ((some (([] : List Int) : List Int)).bind fun y241 => (if 0 ≤ a1 then (if a1 < (l0_0.length : Int) then (if y241.length + ((rd_T52 l0_0 a1).f3).length < 17592186044416 then (dioramaref09_Led.l0 k (List.replicate ((l0_0.length : Int) : Int).toNat false) (y241 ++ ((rd_T52 l0_0 a1).f3)) l0_0 a0_1) else (none)) else (none)) else (none))) else (none)) else (none)) = some r := h
  clear h
  by_cases c3 : 0 ≤ (l0_0.length : Int)
  · rw [if_pos c3] at H
    have c3b0 := eq_true c3
    have c3b1 : decide (0 ≤ (l0_0.length : Int)) = true := decide_eq_true c3
    clear c3
    by_cases c4 : ((l0_0.length : Int) : Int).toNat ≤ 281474976710656
    · rw [if_pos c4] at H
      have c4b0 := eq_true c4
      have c4b1 : decide (((l0_0.length : Int) : Int).toNat ≤ 281474976710656) = true := decide_eq_true c4
      clear c4
      obtain ⟨y238, hy238⟩ : ∃ y_ : List Bool, y_ = (List.replicate ((l0_0.length : Int) : Int).toNat false) := ⟨_, rfl⟩
      replace H : ((some (([] : List Int) : List Int)).bind fun y241 => (if 0 ≤ a1 then (if a1 < (l0_0.length : Int) then (if y241.length + ((rd_T52 l0_0 a1).f3).length < 17592186044416 then (dioramaref09_Led.l0 k y238 (y241 ++ ((rd_T52 l0_0 a1).f3)) l0_0 a0_1) else (none)) else (none)) else (none))) = some r := by first | (rw [hy238]; with_reducible exact H) | (have H2_ := (Option.bind_some _ _).symm.trans H; rw [hy238]; with_reducible exact H2_) | (have H2_ := (Option.bind_some _ _).symm.trans H; with_reducible exact H2_) | with_reducible exact H | (rw [hy238]; exact H) | exact H
      have Ny238 := Aside0.mk hy238
      clear hy238
      obtain ⟨y241, hy241⟩ : ∃ y_ : List Int, y_ = (([] : List Int)) := ⟨_, rfl⟩
      replace H : (if 0 ≤ a1 then (if a1 < (l0_0.length : Int) then (if y241.length + ((rd_T52 l0_0 a1).f3).length < 17592186044416 then (dioramaref09_Led.l0 k y238 (y241 ++ ((rd_T52 l0_0 a1).f3)) l0_0 a0_1) else (none)) else (none)) else (none)) = some r := by first | (rw [hy241]; with_reducible exact H) | (have H2_ := (Option.bind_some _ _).symm.trans H; rw [hy241]; with_reducible exact H2_) | (have H2_ := (Option.bind_some _ _).symm.trans H; with_reducible exact H2_) | with_reducible exact H | (rw [hy241]; exact H) | exact H
      have Ny241 := Aside0.mk hy241
      clear hy241
      by_cases c5 : 0 ≤ a1
      · rw [if_pos c5] at H
        have c5b0 : decide (0 ≤ a1) = true := decide_eq_true c5
        clear c5
        by_cases c6 : a1 < (l0_0.length : Int)
        · rw [if_pos c6] at H
          have c6b0 : decide (a1 < (l0_0.length : Int)) = true := decide_eq_true c6
          clear c6
          by_cases c7 : y241.length + ((rd_T52 l0_0 a1).f3).length < 17592186044416
          · rw [if_pos c7] at H
            have LMc7 := Aside0.mk c7
            clear c7
            obtain ⟨y245, hy245⟩ : ∃ y_ : List Int, y_ = (y241 ++ ((rd_T52 l0_0 a1).f3)) := ⟨_, rfl⟩
            replace H : (dioramaref09_Led.l0 k y238 y245 l0_0 a0_1) = some r := by first | (rw [hy245]; with_reducible exact H) | (have H2_ := (Option.bind_some _ _).symm.trans H; rw [hy245]; with_reducible exact H2_) | (have H2_ := (Option.bind_some _ _).symm.trans H; with_reducible exact H2_) | with_reducible exact H | (rw [hy245]; exact H) | exact H
            have Ny245 := Aside0.mk hy245
            clear hy245
            have H' := Aside0.mk H
            clear H
            go_enter Tryd.func45, Tryd.ntmps45
            go_wp2_with (first | ((with_reducible refine gate_dst (N := 2) rfl ?_); refine box_event ?hg (N := 2) ?hd (cs := #[.slice A0_0 l0_0.length c0_0, .int .i64 a0_1]) (t := 34) ?hr ?_; (case hd => rfl); (case hg => rfl); (case hr => first | (go_simp; done) | (go_simp; rfl)); intro gb237 hg w8 hbox hb; have n0_ := Aside0.mk (below_step (by repeat (first | (with_reducible first | exact HB.out | apply below_alloc | apply pw_below_drewN | apply below_drew1) | exact HB.out)) hb); have n1_ := Aside0.mk (hbox); have n2_ := Aside0.mk ((by rw [hg]; exact (below_size (by repeat (first | (with_reducible first | exact HB.out | apply below_alloc | apply pw_below_drewN | apply below_drew1) | exact HB.out))) : w.heap.size ≤ gb237)); have n3_ := Aside0.mk ((by rw [hg]; exact (below_size (by repeat (first | (with_reducible first | exact HB.out | apply below_alloc | apply pw_below_drewN | apply below_drew1) | exact HB.out))) : w.heap.size ≤ gb237)); clear HB; have HB := n0_; have BK237 := n1_; have GW237 := n2_; have GE237 := n3_; clear n0_ n1_ n2_ n3_; clear hb hbox hg; have hcz9_0 : w8.cell? ⟨gb237, 0, none⟩ = some (.slice A0_0 l0_0.length c0_0) := (blk_cell BK237.out 0).trans rfl; have hcz9_1 : w8.cell? ⟨gb237, 1, none⟩ = some (.int .i64 a0_1) := (blk_cell BK237.out 1).trans rfl; have hfz9_0 := blk_frozen BK237.out 0; have hfz9_1 := blk_frozen BK237.out 1) | ((with_reducible refine gate_dst (N := 11) rfl ?_); refine Kd.R_make Kd.bool _ 4 rfl (N := 11) rfl 38 _ _ rfl (l0_0.length : Int) rfl rfl Tryd.underlying38 (.bool false) 1 info4 rfl (by decide) (by omega) false (ok := fun _ => True) (okp := fun _ => True) rfl (fun _ hk => hk) trivial (of_decide_eq_true (by first | (with_reducible assumption) | assumption)) (Nat.le_trans (Nat.mul_le_mul_right _ (of_decide_eq_true (by first | (with_reducible assumption) | assumption) : (l0_0.length : Int).toNat ≤ 281474976710656)) (by omega)) (Below.refl _ _) (Nat.le_refl _) ?_; intro v239 w10 ho11 hb hg_ hnew_; clear hg_ hnew_; (first | rw [← Ny238.out] at ho11 | (simp only [Int.reduceToNat] at ho11; rw [← Ny238.out] at ho11)); have n0_ := Aside0.mk (Kd.R_lower ho11 (below_size (by repeat (first | (with_reducible first | exact HB.out | apply below_alloc | apply pw_below_drewN | apply below_drew1 | refine below_set ?_ GE237.out) | exact HB.out)))); have n1_ := Aside0.mk (blk_below (g := gb237) (o := .cells #[.slice A0_0 l0_0.length c0_0, .int .i64 a0_1] 34 (0, 0)) (by (with_reducible repeat (first | refine blk_drewN ?_ _ | refine blk_drew ?_ | refine blk_alloc ?_ _)); exact BK237.out) hb); have n2_ := Aside0.mk (below_step (by repeat (first | (with_reducible first | exact HB.out | apply below_alloc | apply pw_below_drewN | apply below_drew1 | refine below_set ?_ GE237.out) | exact HB.out)) hb); clear BK237; clear HB; have HO240 := n0_; have BK237 := n1_; have HB := n2_; clear n0_ n1_ n2_; clear hb ho11) | ((with_reducible refine gate_dst (N := 12) rfl ?_); refine Kd.R_lit (Kd.int .i64) _ 3 ?hg (N := 12) ?hd (xs := ([] : List Int)) (inner := []) (ok := fun _ => True) (okp := fun _ => True) ?hr ?hp (fun _ hk => hk) trivial (Below.refl _ _) (Nat.le_refl _) (by simp) ?_; (case hd => rfl); (case hg => rfl); (case hr => first | (go_simp; done) | (go_simp; rfl)); (case hp => exact (Reps.none _ _)); intro v242 w12 ho13 hb hg_ hnew_; clear hg_ hnew_; (first | rw [← Ny241.out] at ho13 | (simp only [Int.reduceToNat] at ho13; rw [← Ny241.out] at ho13)); have n0_ := Aside0.mk (Kd.R_below (by (with_reducible repeat (first | apply Kd.R_alloc | apply Kd.R_drewN | apply Kd.R_drew)); exact HO240.out) hb); have n1_ := Aside0.mk (Kd.R_lower ho13 (below_size (by repeat (first | (with_reducible first | exact HB.out | apply below_alloc | apply pw_below_drewN | apply below_drew1 | refine below_set ?_ GE237.out) | exact HB.out)))); have n2_ := Aside0.mk (blk_below (g := gb237) (o := .cells #[.slice A0_0 l0_0.length c0_0, .int .i64 a0_1] 34 (0, 0)) (by (with_reducible repeat (first | refine blk_drewN ?_ _ | refine blk_drew ?_ | refine blk_alloc ?_ _)); exact BK237.out) hb); have n3_ := Aside0.mk (below_step (by repeat (first | (with_reducible first | exact HB.out | apply below_alloc | apply pw_below_drewN | apply below_drew1 | refine below_set ?_ GE237.out) | exact HB.out)) hb); clear HO240; clear BK237; clear HB; have HO240 := n0_; have HO243 := n1_; have BK237 := n2_; have HB := n3_; clear n0_ n1_ n2_ n3_; clear hb ho13; have hcz14_0 : w12.cell? ⟨gb237, 0, none⟩ = some (.slice A0_0 l0_0.length c0_0) := (blk_cell BK237.out 0).trans rfl; have hcz14_1 : w12.cell? ⟨gb237, 1, none⟩ = some (.int .i64 a0_1) := (blk_cell BK237.out 1).trans rfl; have hfz14_0 := blk_frozen BK237.out 0; have hfz14_1 := blk_frozen BK237.out 1; have p244 : 0 ≤ (a1 : Int) := of_decide_eq_true (by first | (with_reducible assumption) | assumption); have q244 : a1 < (l0_0.length : Int) := of_decide_eq_true (by first | (with_reducible assumption) | assumption); obtain ⟨ad244, A244_1, c244_1, A244_2, c244_2, A244_3, c244_3, e244, hx244_0, hx244_1, hx244_2, hx244_3, hl244_1, hi244_1, hl244_2, hi244_2, hl244_3, hi244_3⟩ := at_T52 HR0_0.out a1 p244 q244; cases e244; replace hx244_0 := (HB.out.cell (World.block_lt_of_cell? w _ hx244_0)).trans hx244_0; replace hx244_1 := (HB.out.cell (World.block_lt_of_cell? w _ hx244_1)).trans hx244_1; replace hx244_2 := (HB.out.cell (World.block_lt_of_cell? w _ hx244_2)).trans hx244_2; replace hx244_3 := (HB.out.cell (World.block_lt_of_cell? w _ hx244_3)).trans hx244_3; have HR244_1 := Aside0.mk hi244_1; have HC244_1 := Aside0.mk hl244_1; clear hi244_1 hl244_1; have HR244_2 := Aside0.mk hi244_2; have HC244_2 := Aside0.mk hl244_2; clear hi244_2 hl244_2; have HR244_3 := Aside0.mk hi244_3; have HC244_3 := Aside0.mk hl244_3; clear hi244_3 hl244_3; replace p244 := eq_true p244; replace q244 := eq_true q244) | ((with_reducible refine gate_builtin (b := .append) (xs := #[.tmp 12, .tmp 18]) rfl ?_); at_builtin; refine Kd.R_append_rows (Kd.int .i64) (w0 := w) w.heap.size rfl (.tmp 12) (.tmp 18) 31 3 (.int .i64 0) 8 rfl Tryd.underlying31 info3 rfl (by decide) (by omega) v242 y241 ((rd_T52 l0_0 a1).f3) _ _ _ (fun _ => True) (fun _ => False) rfl rfl ?aO ?aR (fun _ _ h => h) (fun _ h => h.elim) ?aF ?aB ?aS ?aL ?_; (case aR => repeat (first | exact (Kd.C_below HR244_3.out HB.out) | (with_reducible refine Kd.C_alloc ?_ _) | (with_reducible refine Kd.C_drewN ?_ _) | (with_reducible refine Kd.C_drew ?_))); (case aB => exact (by repeat (first | (with_reducible first | exact HB.out | apply below_alloc | apply pw_below_drewN | apply below_drew1 | refine below_set ?_ GE237.out) | exact HB.out))); (case aF => exact (fun _ _ => trivial)); (case aO => exact (by (with_reducible repeat (first | apply Kd.R_alloc | apply Kd.R_drewN | apply Kd.R_drew)); exact HO243.out)); (case aS => exact (below_size (by repeat (first | (with_reducible first | exact HB.out | apply below_alloc | apply pw_below_drewN | apply below_drew1 | refine below_set ?_ GE237.out) | exact HB.out)))); (case aL => have := LMc7.out; omega); intro v246 w15 ho hb hg hat; rw [← Ny245.out] at ho; have n0_ := Aside0.mk (blk_grown (g := gb237) (o := .cells #[.slice (some ad244) l0_0.length c0_0, .int .i64 a0_1] 34 (0, 0)) (by (with_reducible repeat (first | refine blk_drewN ?_ _ | refine blk_drew ?_ | refine blk_alloc ?_ _)); exact BK237.out) hg (Kd.R_ne HO243.out BK237.out (by decide))); have n1_ := Aside0.mk (Kd.R_over' (by (with_reducible repeat (first | apply Kd.R_alloc | apply Kd.R_drewN | apply Kd.R_drew)); exact HO240.out) (Kd.R_typed (by (with_reducible repeat (first | apply Kd.R_alloc | apply Kd.R_drewN | apply Kd.R_drew)); exact HO243.out)) (by decide) hg); have n2_ := Aside0.mk (hb); have n3_ := Aside0.mk (ho); clear BK237; clear HO240; clear HB; clear HO243; have BK237 := n0_; have HO240 := n1_; have HB := n2_; have HO247 := n3_; clear n0_ n1_ n2_ n3_; clear ho hb hg hat))
            go_loopg [6] k (fun kq v6 w' => ∃ (x5_1 : List Bool) (x6_1 : List Int), Aside0 (dioramaref09_Led.l0 kq x5_1 x6_1 l0_0 a0_1 = some r) ∧ Aside0 (kq ≤ k) ∧ Aside0 (Kd.R Kd.bool 4 w' w.heap.size (fun _ => True) v239 x5_1) ∧ Aside0 (Kd.Q (Kd.int .i64) 3 w' w.heap.size (fun _ => True) v6 x6_1) ∧ Aside0 (w'.heap[gb237]? = some (.cells #[(.slice (some ad244) l0_0.length c0_0), .int .i64 a0_1] 34 (0, 0))) ∧ Aside0 (Below w.heap.size w w'))
            case atStart => exact ⟨(y238), (y245), H', ⟨Nat.le_refl _⟩, ⟨by (with_reducible repeat (first | apply Kd.R_alloc | apply Kd.R_drewN | apply Kd.R_drew)); exact HO240.out⟩, ⟨Kd.Q_of_R (by (with_reducible repeat (first | apply Kd.R_alloc | apply Kd.R_drewN | apply Kd.R_drew)); exact HO247.out)⟩, ⟨by (with_reducible repeat (first | refine blk_drewN ?_ _ | refine blk_drew ?_ | refine blk_alloc ?_ _)); exact BK237.out⟩, ⟨by repeat (first | (with_reducible first | exact HB.out | apply below_alloc | apply pw_below_drewN | apply below_drew1 | refine below_set ?_ GE237.out) | exact HB.out)⟩⟩
            case round =>
              clear H'
              try clear c2
              try clear p2
              try clear q2
              try clear hx2
              try clear c3
              try clear c3b0
              try clear c3b1
              try clear c4
              try clear c4b0
              try clear c4b1
              try clear c5
              try clear c5b0
              try clear c6
              try clear c6b0
              try clear c7
              try clear hcz14_0
              try clear hcz14_1
              try clear hcz9_0
              try clear hcz9_1
              try clear hfz14_0
              try clear hfz14_1
              try clear hfz9_0
              try clear hfz9_1
              try clear hx244_0
              try clear hx244_1
              try clear hx244_2
              try clear hx244_3
              try clear p244
              try clear q244
              obtain ⟨x5_1, x6_1, HA, HK1, HO_5, HO_6, BK237, HB⟩ := hrel
              cases gk with
              | zero => exact absurd HA.out (by simp [dioramaref09_Led.l0])
              | succ k1 =>
                have H := HA.out
                clear HA
                simp only [dioramaref09_Led.l0] at H
                by_cases c16 : (x6_1.length : Int) > 0
                · rw [if_pos c16] at H
                  have c16b0 : decide (0 < (x6_1.length : Int)) = true := decide_eq_true c16
                  have c16b1 : decide (0 < x6_1.length) = true := decide_eq_true (by omega)
                  clear c16
                  by_cases c17 : 0 < (x6_1.length : Int)
                  · rw [if_pos c17] at H
                    have c17b0 : decide (0 < (x6_1.length : Int)) = true := decide_eq_true c17
                    have c17b1 : decide (0 < x6_1.length) = true := decide_eq_true (by omega)
                    clear c17
                    by_cases c18 : 1 ≤ (x6_1.length : Int)
                    · rw [if_pos c18] at H
                      have c18b0 := eq_true c18
                      have c18b1 : decide (1 ≤ (x6_1.length : Int)) = true := decide_eq_true c18
                      clear c18
                      obtain ⟨y249, hy249⟩ : ∃ y_ : List Int, y_ = (x6_1.drop (1 : Int).toNat) := ⟨_, rfl⟩
                      replace H : (if 0 ≤ (rd x6_1 0) then (if (rd x6_1 0) < (x5_1.length : Int) then (if (rdOf false x5_1 (rd x6_1 0) = true) then (dioramaref09_Led.l0 k1 x5_1 y249 l0_0 a0_1) else ((some (([] : List Int) : List Int)).bind fun y254 => (if y254.length + y249.length < 17592186044416 then ((some (y254 ++ y249 : List Int)).bind fun y257 => (if (rd x6_1 0) < (l0_0.length : Int) then (if y257.length + ((rd_T52 l0_0 (rd x6_1 0)).f3).length < 17592186044416 then (dioramaref09_Led.l0 k1 (x5_1.set ((rd x6_1 0) : Int).toNat true) (y257 ++ ((rd_T52 l0_0 (rd x6_1 0)).f3)) l0_0 a0_1) else (none)) else (none))) else (none)))) else (none)) else (none)) = some r := by first | (rw [hy249]; with_reducible exact H) | (have H2_ := (Option.bind_some _ _).symm.trans H; rw [hy249]; with_reducible exact H2_) | (have H2_ := (Option.bind_some _ _).symm.trans H; with_reducible exact H2_) | with_reducible exact H | (rw [hy249]; exact H) | exact H
                      have Ny249 := Aside0.mk hy249
                      clear hy249
                      by_cases c19 : 0 ≤ (rd x6_1 0)
                      · rw [if_pos c19] at H
                        have c19b0 : decide (0 ≤ (rd x6_1 0)) = true := decide_eq_true c19
                        clear c19
                        by_cases c20 : (rd x6_1 0) < (x5_1.length : Int)
                        · rw [if_pos c20] at H
                          have c20b0 : decide ((rd x6_1 0) < (x5_1.length : Int)) = true := decide_eq_true c20
                          clear c20
                          obtain ⟨bq21, hbq21⟩ : ∃ b_ : Bool, b_ = (rdOf false x5_1 (rd x6_1 0)) := ⟨_, rfl⟩
                          replace H : (if (bq21 = true) then (dioramaref09_Led.l0 k1 x5_1 y249 l0_0 a0_1) else ((some (([] : List Int) : List Int)).bind fun y254 => (if y254.length + y249.length < 17592186044416 then ((some (y254 ++ y249 : List Int)).bind fun y257 => (if (rd x6_1 0) < (l0_0.length : Int) then (if y257.length + ((rd_T52 l0_0 (rd x6_1 0)).f3).length < 17592186044416 then (dioramaref09_Led.l0 k1 (x5_1.set ((rd x6_1 0) : Int).toNat true) (y257 ++ ((rd_T52 l0_0 (rd x6_1 0)).f3)) l0_0 a0_1) else (none)) else (none))) else (none)))) = some r := by rw [← hbq21] at H; exact H
                          have Nbq21 := Aside0.mk hbq21
                          clear hbq21
                          by_cases c22 : (bq21 = true)
                          · subst c22
                            have H1 : (dioramaref09_Led.l0 k1 x5_1 y249 l0_0 a0_1) = some r := by rw [if_pos rfl] at H; exact H
                            clear H
                            have H := H1
                            clear H1
                            have H' := Aside0.mk H
                            clear H
                            obtain ⟨Ao23, co23, eo23, _⟩ := Kd.Q_slice HO_6.out
                            subst eo23
                            have p248 : 0 ≤ (0 : Int) := (by omega)
                            have q248 : 0 < (x6_1.length : Int) := of_decide_eq_true (by first | (with_reducible assumption) | assumption)
                            obtain ⟨ad248, e248, hx248_0⟩ := Kd.at_int (Kd.Q_reads' HO_6.out).2.2 0 p248 q248
                            cases e248
                            have qi248 : (0 < x6_1.length) = True := eq_true (by omega)
                            (try rw [show ((0 : Int)).toNat = 0 from rfl] at hx248_0)
                            (try rw [Addr.add_zero'] at hx248_0)
                            replace p248 := eq_true p248
                            replace q248 := eq_true q248
                            have q24 : (1 : Int) ≤ ((x6_1.length : Int) : Int) := of_decide_eq_true (by first | (with_reducible assumption) | assumption)
                            obtain ⟨i024, hi024, _, hsz24, _⟩ := info_parts info3
                            have hcut24 := cut_from (P := Tryd.prog) 31 3 .i64 Tryd.underlying31 hi024 1 hsz24 (some ad248) x6_1.length co23 1 (by omega) q24
                            have hr24 := Kd.Q_drop (k := (1 : Int).toNat) HO_6.out (by omega)
                            obtain ⟨A24, hA24⟩ : ∃ A1, A1 = (if co23 = (1 : Int).toNat then (some ad248) else ((some ad248) : Option Addr).map (·.add ((1 : Int).toNat * 1))) := ⟨_, rfl⟩
                            obtain ⟨c24, hc24⟩ : ∃ c1, c1 = co23 - (1 : Int).toNat := ⟨_, rfl⟩
                            have hy24 : y249.length = x6_1.length - (1 : Int).toNat := (by rw [Ny249.out, List.length_drop])
                            rw [← Ny249.out] at hr24
                            rw [← hy24, ← hA24, ← hc24] at hcut24
                            replace hr24 : Kd.Q (Kd.int .i64) 3 wr w.heap.size (fun _ => True) (.slice A24 y249.length c24) y249 := (by rw [hA24, hc24, hy24]; exact hr24)
                            have HE24 : Aside0 ((Value.slice A24 y249.length c24).ownBlock = (.slice (some ad248) x6_1.length co23 : Value).ownBlock) := ⟨by rw [hA24]; split <;> (cases ((some ad248) : Option Addr) <;> rfl)⟩
                            clear hy24 hi024 hsz24 HO_6 hA24 hc24
                            have HO251 := Aside0.mk hr24
                            clear hr24
                            replace q24 := eq_true q24
                            obtain ⟨Ao25, co25, eo25⟩ := Kd.R_slice HO_5.out
                            subst eo25
                            have p252 : 0 ≤ ((rd x6_1 0) : Int) := of_decide_eq_true (by first | (with_reducible assumption) | assumption)
                            have q252 : (rd x6_1 0) < (x5_1.length : Int) := of_decide_eq_true (by first | (with_reducible assumption) | assumption)
                            obtain ⟨ad252, e252, hx252_0⟩ := Kd.at_bool (Kd.R_reads' HO_5.out).2.2 (rd x6_1 0) p252 q252
                            (try rw [← Nbq21.out] at hx252_0)
                            cases e252
                            replace p252 := eq_true p252
                            replace q252 := eq_true q252
                            go_wp2
                            go_roundg k1
                            case measure => have := HK1.out; omega
                            case rel => exact ⟨(x5_1), (y249), H', ⟨by have := HK1.out; omega⟩, ⟨by (with_reducible repeat (first | apply Kd.R_alloc | apply Kd.R_drewN | apply Kd.R_drew)); exact HO_5.out⟩, ⟨by (with_reducible repeat (first | apply Kd.Q_alloc | apply Kd.Q_drewN | apply Kd.Q_drew)); exact HO251.out⟩, ⟨by (with_reducible repeat (first | refine blk_drewN ?_ _ | refine blk_drew ?_ | refine blk_alloc ?_ _)); exact BK237.out⟩, ⟨by repeat (first | (with_reducible first | exact HB.out | apply below_alloc | apply pw_below_drewN | apply below_drew1 | refine below_set ?_ GE237.out) | exact HB.out)⟩⟩
                          · replace c22 := Bool.eq_false_iff.mpr c22
                            subst c22
                            have H1 : ((some (([] : List Int) : List Int)).bind fun y254 => (if y254.length + y249.length < 17592186044416 then ((some (y254 ++ y249 : List Int)).bind fun y257 => (if (rd x6_1 0) < (l0_0.length : Int) then (if y257.length + ((rd_T52 l0_0 (rd x6_1 0)).f3).length < 17592186044416 then (dioramaref09_Led.l0 k1 (x5_1.set ((rd x6_1 0) : Int).toNat true) (y257 ++ ((rd_T52 l0_0 (rd x6_1 0)).f3)) l0_0 a0_1) else (none)) else (none))) else (none))) = some r := by rw [if_neg (show ¬ (false = true) by decide)] at H; exact H
                            clear H
                            have H := H1
                            clear H1
                            obtain ⟨y253, hy253⟩ : ∃ y_ : List Bool, y_ = (x5_1.set ((rd x6_1 0) : Int).toNat true) := ⟨_, rfl⟩
                            replace H : ((some (([] : List Int) : List Int)).bind fun y254 => (if y254.length + y249.length < 17592186044416 then ((some (y254 ++ y249 : List Int)).bind fun y257 => (if (rd x6_1 0) < (l0_0.length : Int) then (if y257.length + ((rd_T52 l0_0 (rd x6_1 0)).f3).length < 17592186044416 then (dioramaref09_Led.l0 k1 y253 (y257 ++ ((rd_T52 l0_0 (rd x6_1 0)).f3)) l0_0 a0_1) else (none)) else (none))) else (none))) = some r := by first | (rw [hy253]; with_reducible exact H) | (have H2_ := (Option.bind_some _ _).symm.trans H; rw [hy253]; with_reducible exact H2_) | (have H2_ := (Option.bind_some _ _).symm.trans H; with_reducible exact H2_) | with_reducible exact H | (rw [hy253]; exact H) | exact H
                            have Ny253 := Aside0.mk hy253
                            clear hy253
                            obtain ⟨y254, hy254⟩ : ∃ y_ : List Int, y_ = (([] : List Int)) := ⟨_, rfl⟩
                            replace H : (if y254.length + y249.length < 17592186044416 then ((some (y254 ++ y249 : List Int)).bind fun y257 => (if (rd x6_1 0) < (l0_0.length : Int) then (if y257.length + ((rd_T52 l0_0 (rd x6_1 0)).f3).length < 17592186044416 then (dioramaref09_Led.l0 k1 y253 (y257 ++ ((rd_T52 l0_0 (rd x6_1 0)).f3)) l0_0 a0_1) else (none)) else (none))) else (none)) = some r := by first | (rw [hy254]; with_reducible exact H) | (have H2_ := (Option.bind_some _ _).symm.trans H; rw [hy254]; with_reducible exact H2_) | (have H2_ := (Option.bind_some _ _).symm.trans H; with_reducible exact H2_) | with_reducible exact H | (rw [hy254]; exact H) | exact H
                            have Ny254 := Aside0.mk hy254
                            clear hy254
                            by_cases c27 : y254.length + y249.length < 17592186044416
                            · rw [if_pos c27] at H
                              have LMc27 := Aside0.mk c27
                              clear c27
                              obtain ⟨y257, hy257⟩ : ∃ y_ : List Int, y_ = (y254 ++ y249) := ⟨_, rfl⟩
                              replace H : (if (rd x6_1 0) < (l0_0.length : Int) then (if y257.length + ((rd_T52 l0_0 (rd x6_1 0)).f3).length < 17592186044416 then (dioramaref09_Led.l0 k1 y253 (y257 ++ ((rd_T52 l0_0 (rd x6_1 0)).f3)) l0_0 a0_1) else (none)) else (none)) = some r := by first | (rw [hy257]; with_reducible exact H) | (have H2_ := (Option.bind_some _ _).symm.trans H; rw [hy257]; with_reducible exact H2_) | (have H2_ := (Option.bind_some _ _).symm.trans H; with_reducible exact H2_) | with_reducible exact H | (rw [hy257]; exact H) | exact H
                              have Ny257 := Aside0.mk hy257
                              clear hy257
                              by_cases c28 : (rd x6_1 0) < (l0_0.length : Int)
                              · rw [if_pos c28] at H
                                have c28b0 : decide ((rd x6_1 0) < (l0_0.length : Int)) = true := decide_eq_true c28
                                clear c28
                                by_cases c29 : y257.length + ((rd_T52 l0_0 (rd x6_1 0)).f3).length < 17592186044416
                                · rw [if_pos c29] at H
                                  have LMc29 := Aside0.mk c29
                                  clear c29
                                  obtain ⟨y261, hy261⟩ : ∃ y_ : List Int, y_ = (y257 ++ ((rd_T52 l0_0 (rd x6_1 0)).f3)) := ⟨_, rfl⟩
                                  replace H : (dioramaref09_Led.l0 k1 y253 y261 l0_0 a0_1) = some r := by first | (rw [hy261]; with_reducible exact H) | (have H2_ := (Option.bind_some _ _).symm.trans H; rw [hy261]; with_reducible exact H2_) | (have H2_ := (Option.bind_some _ _).symm.trans H; with_reducible exact H2_) | with_reducible exact H | (rw [hy261]; exact H) | exact H
                                  have Ny261 := Aside0.mk hy261
                                  clear hy261
                                  have H' := Aside0.mk H
                                  clear H
                                  obtain ⟨Ao30, co30, eo30, _⟩ := Kd.Q_slice HO_6.out
                                  subst eo30
                                  have p248 : 0 ≤ (0 : Int) := (by omega)
                                  have q248 : 0 < (x6_1.length : Int) := of_decide_eq_true (by first | (with_reducible assumption) | assumption)
                                  obtain ⟨ad248, e248, hx248_0⟩ := Kd.at_int (Kd.Q_reads' HO_6.out).2.2 0 p248 q248
                                  cases e248
                                  have qi248 : (0 < x6_1.length) = True := eq_true (by omega)
                                  (try rw [show ((0 : Int)).toNat = 0 from rfl] at hx248_0)
                                  (try rw [Addr.add_zero'] at hx248_0)
                                  replace p248 := eq_true p248
                                  replace q248 := eq_true q248
                                  have q31 : (1 : Int) ≤ ((x6_1.length : Int) : Int) := of_decide_eq_true (by first | (with_reducible assumption) | assumption)
                                  obtain ⟨i031, hi031, _, hsz31, _⟩ := info_parts info3
                                  have hcut31 := cut_from (P := Tryd.prog) 31 3 .i64 Tryd.underlying31 hi031 1 hsz31 (some ad248) x6_1.length co30 1 (by omega) q31
                                  have hr31 := Kd.Q_drop (k := (1 : Int).toNat) HO_6.out (by omega)
                                  obtain ⟨A31, hA31⟩ : ∃ A1, A1 = (if co30 = (1 : Int).toNat then (some ad248) else ((some ad248) : Option Addr).map (·.add ((1 : Int).toNat * 1))) := ⟨_, rfl⟩
                                  obtain ⟨c31, hc31⟩ : ∃ c1, c1 = co30 - (1 : Int).toNat := ⟨_, rfl⟩
                                  have hy31 : y249.length = x6_1.length - (1 : Int).toNat := (by rw [Ny249.out, List.length_drop])
                                  rw [← Ny249.out] at hr31
                                  rw [← hy31, ← hA31, ← hc31] at hcut31
                                  replace hr31 : Kd.Q (Kd.int .i64) 3 wr w.heap.size (fun _ => True) (.slice A31 y249.length c31) y249 := (by rw [hA31, hc31, hy31]; exact hr31)
                                  have HE31 : Aside0 ((Value.slice A31 y249.length c31).ownBlock = (.slice (some ad248) x6_1.length co30 : Value).ownBlock) := ⟨by rw [hA31]; split <;> (cases ((some ad248) : Option Addr) <;> rfl)⟩
                                  clear hy31 hi031 hsz31 HO_6 hA31 hc31
                                  have HO251 := Aside0.mk hr31
                                  clear hr31
                                  replace q31 := eq_true q31
                                  obtain ⟨Ao32, co32, eo32⟩ := Kd.R_slice HO_5.out
                                  subst eo32
                                  have p252 : 0 ≤ ((rd x6_1 0) : Int) := of_decide_eq_true (by first | (with_reducible assumption) | assumption)
                                  have q252 : (rd x6_1 0) < (x5_1.length : Int) := of_decide_eq_true (by first | (with_reducible assumption) | assumption)
                                  obtain ⟨ad252, e252, hx252_0⟩ := Kd.at_bool (Kd.R_reads' HO_5.out).2.2 (rd x6_1 0) p252 q252
                                  (try rw [← Nbq21.out] at hx252_0)
                                  cases e252
                                  replace p252 := eq_true p252
                                  replace q252 := eq_true q252
                                  have p26 : 0 ≤ ((rd x6_1 0) : Int) := of_decide_eq_true (by first | (with_reducible assumption) | assumption)
                                  have q26 : ((rd x6_1 0) : Int) < ((x5_1.length : Int) : Int) := of_decide_eq_true (by first | (with_reducible assumption) | assumption)
                                  obtain ⟨go26, co26, eo26, gb26, gl26, cl26, HG26⟩ := Kd.R_form HO_5.out (by omega)
                                  (first | cases eo26 | (injection eo26 with ea_ en_ ec_; (first | subst ea_ | (injection ea_ with ea_; subst ea_)); subst ec_; clear en_))
                                  have GB26 := Aside0.mk gb26
                                  have GG26 := Aside0.mk HG26
                                  clear gb26 gl26 HG26
                                  (first | simp only [add_plain] at hx252_0 | skip)
                                  obtain ⟨hx26_0, hf26_0⟩ := Kd.R_celln false HO_5.out ((rd x6_1 0) : Int) p26 q26
                                  replace p26 := eq_true p26
                                  replace q26 := eq_true q26
                                  have HP33 := Kd.R_putg HO_5.out ((rd x6_1 0) : Int) true
                                  try go_wp2_with (first | ((with_reducible refine gate_store (t := 4) (p := 35) rfl ?_); refine store_event (t := 4) (p := 35) (v := ?vo_w34) (w1 := (wr.setCell ⟨go26, ((rd x6_1 0) : Int).toNat, none⟩ (.bool true))) ?hg ?ho ?hn ?hr ?_; (case ho => rfl); (case hg => rfl); (case hn => rfl); (case hr => first | (go_simp; done) | (go_simp; rfl)); intro w34 hw; have hg : wr.grownBy w34 (some go26) := (by rw [hw]; exact HP33.2); have hp_ : Kd.R Kd.bool 4 w34 w.heap.size (fun _ => True) (.slice (some ⟨go26, 0, none⟩) x5_1.length co32) y253 := (by rw [hw, Ny253.out]; exact HP33.1); clear HP33; have n0_ := Aside0.mk (hp_); have n1_ := Aside0.mk (Kd.Q_over' (v := (.slice (some ⟨go26, 0, none⟩) x5_1.length co32)) (by (with_reducible repeat (first | apply Kd.Q_alloc | apply Kd.Q_drewN | apply Kd.Q_drew)); exact HO251.out) (Kd.R_typed HO_5.out) (by decide) hg); have n2_ := Aside0.mk (blk_grown (g := gb237) (o := .cells #[.slice (some ad244) l0_0.length c0_0, .int .i64 a0_1] 34 (0, 0)) (by (with_reducible repeat (first | refine blk_drewN ?_ _ | refine blk_drew ?_ | refine blk_alloc ?_ _)); exact BK237.out) hg (Kd.R_ne HO_5.out BK237.out (by decide))); have n3_ := Aside0.mk ((by rw [hw]; exact below_set (HB.out) GB26.out : Below w.heap.size w w34)); clear HO_5; clear HO251; clear BK237; clear HB; have HO_5 := n0_; have HO251 := n1_; have BK237 := n2_; have HB := n3_; clear n0_ n1_ n2_ n3_; clear hg hw hp_))
                                  have n0_ := Aside0.mk (Kd.R_drew HO_5.out)
                                  have n1_ := Aside0.mk (Kd.Q_drew HO251.out)
                                  have n2_ := Aside0.mk (blk_drew BK237.out)
                                  have n3_ := Aside0.mk (below_drew1 HB.out)
                                  clear HO_5
                                  clear HO251
                                  clear BK237
                                  clear HB
                                  have HO_5 := n0_
                                  have HO251 := n1_
                                  have BK237 := n2_
                                  have HB := n3_
                                  clear n0_ n1_ n2_ n3_
                                  have p260 : 0 ≤ ((rd x6_1 0) : Int) := of_decide_eq_true (by first | (with_reducible assumption) | assumption)
                                  have q260 : (rd x6_1 0) < (l0_0.length : Int) := of_decide_eq_true (by first | (with_reducible assumption) | assumption)
                                  obtain ⟨ad260, A260_1, c260_1, A260_2, c260_2, A260_3, c260_3, e260, hx260_0, hx260_1, hx260_2, hx260_3, hl260_1, hi260_1, hl260_2, hi260_2, hl260_3, hi260_3⟩ := at_T52 HR0_0.out (rd x6_1 0) p260 q260
                                  have hw260_3 := hx260_3
                                  have hw260_2 := hx260_2
                                  have hw260_1 := hx260_1
                                  have hw260_0 := hx260_0
                                  obtain rfl : ad244 = ad260 := (by injection e260)
                                  replace hx260_0 := (HB.out.cell (World.block_lt_of_cell? w _ hx260_0)).trans hx260_0
                                  replace hx260_1 := (HB.out.cell (World.block_lt_of_cell? w _ hx260_1)).trans hx260_1
                                  replace hx260_2 := (HB.out.cell (World.block_lt_of_cell? w _ hx260_2)).trans hx260_2
                                  replace hx260_3 := (HB.out.cell (World.block_lt_of_cell? w _ hx260_3)).trans hx260_3
                                  have HR260_1 := Aside0.mk hi260_1
                                  have HC260_1 := Aside0.mk hl260_1
                                  clear hi260_1 hl260_1
                                  have HR260_2 := Aside0.mk hi260_2
                                  have HC260_2 := Aside0.mk hl260_2
                                  clear hi260_2 hl260_2
                                  have HR260_3 := Aside0.mk hi260_3
                                  have HC260_3 := Aside0.mk hl260_3
                                  clear hi260_3 hl260_3
                                  replace p260 := eq_true p260
                                  replace q260 := eq_true q260
                                  refine start_ (n := 11) (S := fun w' => w'.cell? ⟨gb237, 0, none⟩ = some (.slice (some ad244) l0_0.length c0_0) ∧ w'.cell? ⟨gb237, 1, none⟩ = some (.int .i64 a0_1) ∧ w'.cell? (ad244.add (((rd x6_1 0)).toNat * 4)) = some (.int .i64 ((rd_T52 l0_0 (rd x6_1 0)).f0)) ∧ w'.cell? ⟨(ad244.add (((rd x6_1 0)).toNat * 4)).block, (ad244.add (((rd x6_1 0)).toNat * 4)).off + 1, none⟩ = some (.slice A260_1 ((rd_T52 l0_0 (rd x6_1 0)).f1).length c260_1) ∧ w'.cell? ⟨(ad244.add (((rd x6_1 0)).toNat * 4)).block, (ad244.add (((rd x6_1 0)).toNat * 4)).off + 2, none⟩ = some (.slice A260_2 ((rd_T52 l0_0 (rd x6_1 0)).f2).length c260_2) ∧ w'.cell? ⟨(ad244.add (((rd x6_1 0)).toNat * 4)).block, (ad244.add (((rd x6_1 0)).toNat * 4)).off + 3, none⟩ = some (.slice A260_3 ((rd_T52 l0_0 (rd x6_1 0)).f3).length c260_3)) (ds := []) #[false, false, false, false, false, false, false, false, false, false, false] (by kernel_rfl) rfl rfl ⟨(blk_cell BK237.out 0).trans rfl, (blk_cell BK237.out 1).trans rfl, ((HB.out.cell (World.block_lt_of_cell? w _ hw260_0)).trans hw260_0), ((HB.out.cell (World.block_lt_of_cell? w _ hw260_1)).trans hw260_1), ((HB.out.cell (World.block_lt_of_cell? w _ hw260_2)).trans hw260_2), ((HB.out.cell (World.block_lt_of_cell? w _ hw260_3)).trans hw260_3)⟩ (fun hHeld => ?_); refine with_tabW dioramaref09_Led.tab8 dioramaref09_Led.bits8 (fun HT_ HW_ => ?_)
                                  generalize w34.drew = w35 at HO_5 HO251 BK237 HB HR260_1 HR260_2 HR260_3 hx260_0 hx260_1 hx260_2 hx260_3 hHeld ⊢
                                  refine pure_ (i := 1) (N := some 37) (v := ?_) (a' := ?_) #[false, true, false, false, false, false, false, false, false, false, false] rfl rfl (any_of HT_.out (by kernel_rfl)) (fun _ _ _ h => h) (Or.inl ⟨by rfl, ?_⟩) ?_ ?_
                                  rotate_left
                                  · intro w'
                                    go_simp
                                    with_reducible rfl
                                  rotate_left
                                  · simp only [Act.put, List.setIfInBounds_toArray, List.set_cons_zero, List.set_cons_succ, i64_w, i32_w]
                                    rfl
                                  refine pure_ (i := 3) (N := some 39) (v := ?_) (a' := ?_) #[false, true, false, true, false, false, false, false, false, false, false] rfl rfl (any_of HT_.out (by kernel_rfl)) (fun _ _ _ h => h) (Or.inl ⟨by rfl, ?_⟩) ?_ ?_
                                  rotate_left
                                  · intro w'
                                    go_simp
                                    with_reducible rfl
                                  rotate_left
                                  · simp only [Act.put, List.setIfInBounds_toArray, List.set_cons_zero, List.set_cons_succ, i64_w, i32_w]
                                    rfl
                                  refine pure_ (i := 5) (N := some 41) (v := ?_) (a' := ?_) #[false, true, false, true, false, true, false, false, false, false, false] rfl rfl (any_of HT_.out (by kernel_rfl)) (fun _ _ _ h => h) (Or.inl ⟨by rfl, ?_⟩) ?_ ?_
                                  rotate_left
                                  · intro w'
                                    go_simp
                                    with_reducible rfl
                                  rotate_left
                                  · simp only [Act.put, List.setIfInBounds_toArray, List.set_cons_zero, List.set_cons_succ, i64_w, i32_w]
                                    rfl
                                  refine take_ (i := 4) (N := some 40) (v := ?_) (a' := ?_) #[false, true, false, true, true, true, false, false, false, false, false] rfl rfl (take_ofW HT_.out HW_.out (by kernel_rfl)) (fun _ _ _ h => h) (Or.inl ⟨by rfl, ?_⟩) hHeld ?_ ?_
                                  rotate_left
                                  · rintro w' ⟨s0, s1, s2, s3, s4, s5⟩
                                    go_simp
                                    with_reducible rfl
                                  rotate_left
                                  · simp only [Act.put, List.setIfInBounds_toArray, List.set_cons_zero, List.set_cons_succ, i64_w, i32_w]
                                    rfl
                                  refine pure_ (i := 6) (N := some 42) (v := ?_) (a' := ?_) #[false, true, false, true, true, true, true, false, false, false, false] rfl rfl (any_of HT_.out (by kernel_rfl)) (fun _ _ _ h => h) (Or.inl ⟨by rfl, ?_⟩) ?_ ?_
                                  rotate_left
                                  · intro w'
                                    go_simp
                                    with_reducible rfl
                                  rotate_left
                                  · simp only [Act.put, List.setIfInBounds_toArray, List.set_cons_zero, List.set_cons_succ, i64_w, i32_w]
                                    rfl
                                  refine pure_ (i := 7) (N := some 43) (v := ?_) (a' := ?_) #[false, true, false, true, true, true, true, true, false, false, false] rfl rfl (any_of HT_.out (by kernel_rfl)) (fun _ _ _ h => h) (Or.inl ⟨by rfl, ?_⟩) ?_ ?_
                                  rotate_left
                                  · intro w'
                                    go_simp
                                    with_reducible rfl
                                  rotate_left
                                  · simp only [Act.put, List.setIfInBounds_toArray, List.set_cons_zero, List.set_cons_succ, i64_w, i32_w]
                                    rfl
                                  refine take_ (i := 8) (N := some 44) (v := ?_) (a' := ?_) #[false, true, false, true, true, true, true, true, true, false, false] rfl rfl (take_ofW HT_.out HW_.out (by kernel_rfl)) (fun _ _ _ h => h) (Or.inl ⟨by rfl, ?_⟩) hHeld ?_ ?_
                                  rotate_left
                                  · rintro w' ⟨s0, s1, s2, s3, s4, s5⟩
                                    go_simp
                                    with_reducible rfl
                                  rotate_left
                                  · simp only [Act.put, List.setIfInBounds_toArray, List.set_cons_zero, List.set_cons_succ, i64_w, i32_w]
                                    rfl
                                  refine one_ (i := 0) (N := some 36) #[true, true, false, true, true, true, true, true, true, false, false] rfl rfl (one_of HT_.out (by kernel_rfl)) (by decide) (fun K hK => ?_)
                                  refine Kd.R_lit_step (Kd.int .i64) _ 3 ?hg (N := 36) ?hd (xs := ([] : List Int)) (inner := []) (ok := fun _ => True) (okp := fun _ => True) ?hr ?hp (fun _ hk => hk) trivial (Below.refl _ _) (Nat.le_refl _) (by simp) ?_; (case hd => rfl); (case hg => rfl); (case hr => first | (go_simp; done) | (go_simp; rfl)); (case hp => exact (Reps.none _ _))
                                  intro v255 w36 ho37 hb hg_ hnew_
                                  clear hg_ hnew_
                                  (first | rw [← Ny254.out] at ho37 | (simp only [Int.reduceToNat] at ho37; rw [← Ny254.out] at ho37))
                                  have n0_ := Aside0.mk (Kd.R_below (by (with_reducible repeat (first | apply Kd.R_alloc | apply Kd.R_drewN | apply Kd.R_drew)); exact HO_5.out) hb)
                                  have n1_ := Aside0.mk (Kd.Q_elder' (by (with_reducible repeat (first | apply Kd.Q_alloc | apply Kd.Q_drewN | apply Kd.Q_drew)); exact HO251.out) (Kd.R_base ho37) hb)
                                  have n2_ := Aside0.mk (Kd.R_lower (Kd.R_new' ho37 (Kd.Q_lt (by (with_reducible repeat (first | apply Kd.Q_alloc | apply Kd.Q_drewN | apply Kd.Q_drew)); exact HO251.out))) (below_size (by repeat (first | (with_reducible first | exact HB.out | apply below_alloc | apply pw_below_drewN | apply below_drew1 | refine below_set ?_ GE237.out) | exact HB.out))))
                                  have n3_ := Aside0.mk (blk_below (g := gb237) (o := .cells #[.slice (some ad244) l0_0.length c0_0, .int .i64 a0_1] 34 (0, 0)) (by (with_reducible repeat (first | refine blk_drewN ?_ _ | refine blk_drew ?_ | refine blk_alloc ?_ _)); exact BK237.out) hb)
                                  have n4_ := Aside0.mk (below_step (by repeat (first | (with_reducible first | exact HB.out | apply below_alloc | apply pw_below_drewN | apply below_drew1 | refine below_set ?_ GE237.out) | exact HB.out)) hb)
                                  clear HO_5
                                  clear HO251
                                  clear BK237
                                  clear HB
                                  have HO_5 := n0_
                                  have HO251 := n1_
                                  have HO256 := n2_
                                  have BK237 := n3_
                                  have HB := n4_
                                  clear n0_ n1_ n2_ n3_ n4_
                                  clear hb ho37
                                  refine hK.out _ _ ⟨(blk_cell BK237.out 0).trans rfl, (blk_cell BK237.out 1).trans rfl, ((HB.out.cell (World.block_lt_of_cell? w _ hw260_0)).trans hw260_0), ((HB.out.cell (World.block_lt_of_cell? w _ hw260_1)).trans hw260_1), ((HB.out.cell (World.block_lt_of_cell? w _ hw260_2)).trans hw260_2), ((HB.out.cell (World.block_lt_of_cell? w _ hw260_3)).trans hw260_3)⟩ (fun hHeld => ?_)
                                  clear hK K
                                  refine norm_ (a' := ?_) ?_ ?_
                                  rotate_left
                                  · show Act.put _ (some 36) _ = _
                                    simp only [Act.put, List.setIfInBounds_toArray, List.set_cons_zero, List.set_cons_succ, i64_w, i32_w]
                                    rfl
                                  refine one_ (i := 2) (N := some 38) #[true, true, true, true, true, true, true, true, true, false, false] rfl rfl (one_of HT_.out (by kernel_rfl)) (by decide) (fun K hK => ?_)
                                  refine Kd.R_append_rows_step (Kd.int .i64) (w0 := w) w.heap.size (by rfl) (.tmp 36) (.tmp 37) 31 3 (.int .i64 0) 8 rfl Tryd.underlying31 info3 rfl (by decide) (by omega) v255 y254 y249 _ _ _ (fun k_ => some k_ ≠ (.slice A31 y249.length c31 : Value).ownBlock) (fun _ => False) rfl rfl ?aO ?aR (fun _ _ h => h) (fun _ h => h.elim) ?aF ?aB ?aS ?aL ?_
                                  (case aR => repeat (first | exact (Kd.Q_reads' HO251.out).2.2 | (with_reducible refine Kd.C_alloc ?_ _) | (with_reducible refine Kd.C_drewN ?_ _) | (with_reducible refine Kd.C_drew ?_)))
                                  (case aB => exact (by repeat (first | (with_reducible first | exact HB.out | apply below_alloc | apply pw_below_drewN | apply below_drew1 | refine below_set ?_ GE237.out) | exact HB.out)))
                                  (case aF => exact (fun k_ hk => Kd.fresh' (Kd.Q_lt (by (with_reducible repeat (first | apply Kd.Q_alloc | apply Kd.Q_drewN | apply Kd.Q_drew)); exact HO251.out)) k_ hk))
                                  (case aO => exact (by (with_reducible repeat (first | apply Kd.R_alloc | apply Kd.R_drewN | apply Kd.R_drew)); exact Kd.R_mono HO256.out (fun _ hk => hk.2)))
                                  (case aS => exact (below_size (by repeat (first | (with_reducible first | exact HB.out | apply below_alloc | apply pw_below_drewN | apply below_drew1 | refine below_set ?_ GE237.out) | exact HB.out))))
                                  (case aL => have := LMc27.out; omega)
                                  intro v258 w38 ho hb hg hat
                                  rw [← Ny257.out] at ho
                                  have n0_ := Aside0.mk (Kd.R_over' (by (with_reducible repeat (first | apply Kd.R_alloc | apply Kd.R_drewN | apply Kd.R_drew)); exact HO_5.out) (Kd.R_typed (by (with_reducible repeat (first | apply Kd.R_alloc | apply Kd.R_drewN | apply Kd.R_drew)); exact HO256.out)) (by decide) hg)
                                  have n1_ := Aside0.mk (Kd.Q_after (ok := (fun _ => True)) (by (with_reducible repeat (first | apply Kd.Q_alloc | apply Kd.Q_drewN | apply Kd.Q_drew)); exact HO251.out) hg hat)
                                  have n2_ := Aside0.mk (blk_grown (g := gb237) (o := .cells #[.slice (some ad244) l0_0.length c0_0, .int .i64 a0_1] 34 (0, 0)) (by (with_reducible repeat (first | refine blk_drewN ?_ _ | refine blk_drew ?_ | refine blk_alloc ?_ _)); exact BK237.out) hg (Kd.R_ne HO256.out BK237.out (by decide)))
                                  have n3_ := Aside0.mk (hb)
                                  have n4_ := Aside0.mk (ho)
                                  clear HO_5
                                  clear HO251
                                  clear BK237
                                  clear HB
                                  clear HO256
                                  have HO_5 := n0_
                                  have HO251 := n1_
                                  have BK237 := n2_
                                  have HB := n3_
                                  have HO259 := n4_
                                  clear n0_ n1_ n2_ n3_ n4_
                                  clear ho hb hg hat
                                  refine hK.out _ _ ⟨(blk_cell BK237.out 0).trans rfl, (blk_cell BK237.out 1).trans rfl, ((HB.out.cell (World.block_lt_of_cell? w _ hw260_0)).trans hw260_0), ((HB.out.cell (World.block_lt_of_cell? w _ hw260_1)).trans hw260_1), ((HB.out.cell (World.block_lt_of_cell? w _ hw260_2)).trans hw260_2), ((HB.out.cell (World.block_lt_of_cell? w _ hw260_3)).trans hw260_3)⟩ (fun hHeld => ?_)
                                  clear hK K
                                  refine norm_ (a' := ?_) ?_ ?_
                                  rotate_left
                                  · show Act.put _ (some 38) _ = _
                                    simp only [Act.put, List.setIfInBounds_toArray, List.set_cons_zero, List.set_cons_succ, i64_w, i32_w]
                                    rfl
                                  refine one_ (i := 9) (N := some 45) #[true, true, true, true, true, true, true, true, true, true, false] rfl rfl (one_of HT_.out (by kernel_rfl)) (by decide) (fun K hK => ?_)
                                  refine Kd.R_append_rows_step (Kd.int .i64) (w0 := w) w.heap.size (by rfl) (.tmp 38) (.tmp 44) 31 3 (.int .i64 0) 8 rfl Tryd.underlying31 info3 rfl (by decide) (by omega) v258 y257 ((rd_T52 l0_0 (rd x6_1 0)).f3) _ _ _ (fun k_ => some k_ ≠ (.slice A31 y249.length c31 : Value).ownBlock) (fun _ => False) rfl rfl ?aO ?aR (fun _ _ h => h) (fun _ h => h.elim) ?aF ?aB ?aS ?aL ?_
                                  (case aR => repeat (first | exact (Kd.C_below HR260_3.out HB.out) | (with_reducible refine Kd.C_alloc ?_ _) | (with_reducible refine Kd.C_drewN ?_ _) | (with_reducible refine Kd.C_drew ?_)))
                                  (case aB => exact (by repeat (first | (with_reducible first | exact HB.out | apply below_alloc | apply pw_below_drewN | apply below_drew1 | refine below_set ?_ GE237.out) | exact HB.out)))
                                  (case aF => exact (fun k_ hk => Kd.fresh' (Kd.Q_lt (by (with_reducible repeat (first | apply Kd.Q_alloc | apply Kd.Q_drewN | apply Kd.Q_drew)); exact HO251.out)) k_ hk))
                                  (case aO => exact (by (with_reducible repeat (first | apply Kd.R_alloc | apply Kd.R_drewN | apply Kd.R_drew)); exact HO259.out))
                                  (case aS => exact (below_size (by repeat (first | (with_reducible first | exact HB.out | apply below_alloc | apply pw_below_drewN | apply below_drew1 | refine below_set ?_ GE237.out) | exact HB.out))))
                                  (case aL => have := LMc29.out; omega)
                                  intro v262 w39 ho hb hg hat
                                  rw [← Ny261.out] at ho
                                  have n0_ := Aside0.mk (Kd.R_over' (by (with_reducible repeat (first | apply Kd.R_alloc | apply Kd.R_drewN | apply Kd.R_drew)); exact HO_5.out) (Kd.R_typed (by (with_reducible repeat (first | apply Kd.R_alloc | apply Kd.R_drewN | apply Kd.R_drew)); exact HO259.out)) (by decide) hg)
                                  have n1_ := Aside0.mk (Kd.Q_after (ok := (fun _ => True)) (by (with_reducible repeat (first | apply Kd.Q_alloc | apply Kd.Q_drewN | apply Kd.Q_drew)); exact HO251.out) hg hat)
                                  have n2_ := Aside0.mk (blk_grown (g := gb237) (o := .cells #[.slice (some ad244) l0_0.length c0_0, .int .i64 a0_1] 34 (0, 0)) (by (with_reducible repeat (first | refine blk_drewN ?_ _ | refine blk_drew ?_ | refine blk_alloc ?_ _)); exact BK237.out) hg (Kd.R_ne HO259.out BK237.out (by decide)))
                                  have n3_ := Aside0.mk (hb)
                                  have n4_ := Aside0.mk (ho)
                                  clear HO_5
                                  clear HO251
                                  clear BK237
                                  clear HB
                                  clear HO259
                                  have HO_5 := n0_
                                  have HO251 := n1_
                                  have BK237 := n2_
                                  have HB := n3_
                                  have HO263 := n4_
                                  clear n0_ n1_ n2_ n3_ n4_
                                  clear ho hb hg hat
                                  refine hK.out _ _ ⟨(blk_cell BK237.out 0).trans rfl, (blk_cell BK237.out 1).trans rfl, ((HB.out.cell (World.block_lt_of_cell? w _ hw260_0)).trans hw260_0), ((HB.out.cell (World.block_lt_of_cell? w _ hw260_1)).trans hw260_1), ((HB.out.cell (World.block_lt_of_cell? w _ hw260_2)).trans hw260_2), ((HB.out.cell (World.block_lt_of_cell? w _ hw260_3)).trans hw260_3)⟩ (fun hHeld => ?_)
                                  clear hK K
                                  refine norm_ (a' := ?_) ?_ ?_
                                  rotate_left
                                  · show Act.put _ (some 45) _ = _
                                    simp only [Act.put, List.setIfInBounds_toArray, List.set_cons_zero, List.set_cons_succ, i64_w, i32_w]
                                    rfl
                                  refine pure_ (i := 10) (N := some 6) (v := ?_) (a' := ?_) #[true, true, true, true, true, true, true, true, true, true, true] rfl rfl (any_of HT_.out (by kernel_rfl)) (fun _ _ _ h => h) (Or.inl ⟨by rfl, ?_⟩) ?_ ?_
                                  rotate_left
                                  · intro w'
                                    go_simp
                                    with_reducible rfl
                                  rotate_left
                                  · simp only [Act.put, List.setIfInBounds_toArray, List.set_cons_zero, List.set_cons_succ, i64_w, i32_w]
                                    rfl
                                  refine done_ (done_of HT_.out (by kernel_rfl)) ?_
                                  try go_wp2
                                  go_roundg k1
                                  case measure => have := HK1.out; omega
                                  case rel => exact ⟨(y253), (y261), H', ⟨by have := HK1.out; omega⟩, ⟨by (with_reducible repeat (first | apply Kd.R_alloc | apply Kd.R_drewN | apply Kd.R_drew)); exact HO_5.out⟩, ⟨Kd.Q_of_R (by (with_reducible repeat (first | apply Kd.R_alloc | apply Kd.R_drewN | apply Kd.R_drew)); exact Kd.R_mono HO263.out (fun _ hk => trivial))⟩, ⟨by (with_reducible repeat (first | refine blk_drewN ?_ _ | refine blk_drew ?_ | refine blk_alloc ?_ _)); exact BK237.out⟩, ⟨by repeat (first | (with_reducible first | exact HB.out | apply below_alloc | apply pw_below_drewN | apply below_drew1 | refine below_set ?_ GE237.out) | exact HB.out)⟩⟩
                                · rw [if_neg c29] at H
                                  exact absurd H (by simp)
                              · rw [if_neg c28] at H
                                exact absurd H (by simp)
                            · rw [if_neg c27] at H
                              exact absurd H (by simp)
                        · rw [if_neg c20] at H
                          exact absurd H (by simp)
                      · rw [if_neg c19] at H
                        exact absurd H (by simp)
                    · rw [if_neg c18] at H
                      exact absurd H (by simp)
                  · rw [if_neg c17] at H
                    exact absurd H (by simp)
                · rw [if_neg c16] at H
                  have c16b0 : decide (0 < (x6_1.length : Int)) = false := decide_eq_false c16
                  have c16b1 : decide (0 < x6_1.length) = false := decide_eq_false (by omega)
                  clear c16
                  obtain rfl := Option.some.inj H
                  obtain ⟨Ao40, co40, eo40, _⟩ := Kd.Q_slice HO_6.out
                  subst eo40
                  go_wp2
                  go_ret
                  exact ⟨_, by first | rfl | (simp [errW_none, errW_some] <;> rfl) | (simp [*, errW_none, errW_some] <;> rfl), by (with_reducible repeat (first | apply Kd.R_alloc | apply Kd.R_drewN | apply Kd.R_drew)); exact HO_5.out, by repeat (first | (with_reducible first | exact HB.out | apply below_alloc | apply pw_below_drewN | apply below_drew1 | refine below_set ?_ GE237.out) | exact HB.out)⟩
          · rw [if_neg c7] at H
            exact absurd H (by simp)
        · rw [if_neg c6] at H
          exact absurd H (by simp)
      · rw [if_neg c5] at H
        exact absurd H (by simp)
    · rw [if_neg c4] at H
      exact absurd H (by simp)
  · rw [if_neg c3] at H
    exact absurd H (by simp)

end Go.Proofs.YtdfneldenipljaaDoor.PClassNumbers
end
section
-- PRINTED BY print.sh 35421559b90ae4d0a3588c463048766b98c2df88dd9212a6774a882060cdf62d: not written by this session
namespace Go.Proofs.YtdfneldenipljaaDoor.PClassNumbers
open Go.RowKit Go.Proofs.YtdfneldenipljaaDoorW.PrintWords Go.Proofs.YtdfneldenipljaaDoorW.PrintLast Go.Proofs.YtdfneldenipljaaDoorW.PrintMore
attribute [local go_sem] max2_int min2_int max_two min_two max_three min_three max_four min_four   -- for this text's walks alone
set_option linter.unusedVariables false
set_option linter.unusedSimpArgs false
mutual
def dioramaref09_Check.l0 : Nat → Int → List (S52) → Int → Option (Int × Int)
  | 0, _, _, _ => none
  | k + 1, x5, x265000, x265001 => if x5 < (x265000.length : Int) then ((dioramaref09_Led.f k x265000 x265001 x5).bind fun t267 => (if 0 ≤ x5 then (if x5 < (t267.length : Int) then (if rdOf false t267 x5 = true then (some (14, x5)) else (dioramaref09_Check.l0 k (wrap64 (x5 + 1)) x265000 x265001)) else (none)) else (none))) else ((dioramaref09_Led.f k x265000 x265001 x265001).bind fun t271 => (dioramaref09_Check.l1 k t271 0 x265000 x265001))
def dioramaref09_Check.l1 : Nat → List Bool → Int → List (S52) → Int → Option (Int × Int)
  | 0, _, _, _, _ => none
  | k + 1, x6, x7, x265000, x265001 => if x7 < (x265000.length : Int) then (if x7 = x265001 then (dioramaref09_Check.l1 k x6 (wrap64 (x7 + 1)) x265000 x265001) else (if 0 ≤ x7 then (if x7 < (x6.length : Int) then (if rdOf false x6 x7 = true then (dioramaref09_Check.l1 k x6 (wrap64 (x7 + 1)) x265000 x265001) else (some (15, x7))) else (none)) else (none))) else (some (0, 0))
end
def dioramaref09_Check.f (k : Nat) (l0_0 : List (S52)) (a0_1 : Int) : Option (Int × Int) := (dioramaref09_Place.f l0_0 a0_1 a0_1).bind fun t265 => (if t265 = true then ((dioramaref09_Refs.f k l0_0 a0_1).bind fun t266 => (if t266 ≥ 0 then (some (13, t266)) else (dioramaref09_Check.l0 k 0 l0_0 a0_1))) else (some (13, (-1))))
set_option maxHeartbeats 8000000 in
set_option maxRecDepth 100000 in
theorem dioramaref09_Check.calls (k : Nat) (A0_0 : Option Addr) (c0_0 : Nat) (l0_0 : List (S52)) (a0_1 : Int) (r1 : Int) (r2 : Int) (w : World) (hr0_0 : Kd.C k52 w A0_0 l0_0.length l0_0) (hc0_0 : l0_0.length ≤ c0_0) (h : dioramaref09_Check.f k l0_0 a0_1 = some (r1, r2)) :
    Calls Tryd.prog 31 #[.agg #[.slice A0_0 l0_0.length c0_0, .int .i64 a0_1]] w fun e w' => e = .returned (.tuple #[.int .i64 r1, .int .i64 r2]) ∧ Below w.heap.size w w' := by
  have hu34 := Tryd.underlying34
  have HR0_0 := Aside0.mk hr0_0
  have HC0_0 := Aside0.mk hc0_0
  clear hr0_0 hc0_0
  have HB := Aside0.mk (Below.refl w.heap.size w)
  have H : ((dioramaref09_Place.f l0_0 a0_1 a0_1).bind fun t265 => (if t265 = true then ((dioramaref09_Refs.f k l0_0 a0_1).bind fun t266 => (if t266 ≥ 0 then (some (13, t266)) else (dioramaref09_Check.l0 k 0 l0_0 a0_1))) else (some (13, (-1))))) = some (r1, r2) := h
  clear h
  replace H := Option.bind_eq_some_iff.mp H
  obtain ⟨t265, A20, H⟩ := H
  replace H : (if t265 = true then ((dioramaref09_Refs.f k l0_0 a0_1).bind fun t266 => (if t266 ≥ 0 then (some (13, t266)) else (dioramaref09_Check.l0 k 0 l0_0 a0_1))) else (some (13, (-1)))) = some (r1, r2) := H
  have A2 := Aside0.mk A20
  clear A20
  by_cases c3 : t265 = true
  · subst c3
    have H1 : ((dioramaref09_Refs.f k l0_0 a0_1).bind fun t266 => (if t266 ≥ 0 then (some (13, t266)) else (dioramaref09_Check.l0 k 0 l0_0 a0_1))) = some (r1, r2) := by rw [if_pos rfl] at H; exact H
    clear H
    have H := H1
    clear H1
    replace H := Option.bind_eq_some_iff.mp H
    obtain ⟨t266, A40, H⟩ := H
    replace H : (if t266 ≥ 0 then (some (13, t266)) else (dioramaref09_Check.l0 k 0 l0_0 a0_1)) = some (r1, r2) := H
    have A4 := Aside0.mk A40
    clear A40
    by_cases c5 : t266 ≥ 0
    · rw [if_pos c5] at H
      have c5b0 : decide (0 ≤ t266) = true := decide_eq_true c5
      clear c5
      simp only [Option.some.injEq, Prod.mk.injEq] at H
      obtain ⟨rfl, rfl⟩ := H
      go_enter Tryd.func31, Tryd.ntmps31
      go_wp2_with (first | ((with_reducible refine gate_dst (N := 1) rfl ?_); refine box_event ?hg (N := 1) ?hd (cs := #[.slice A0_0 l0_0.length c0_0, .int .i64 a0_1]) (t := 34) ?hr ?_; (case hd => rfl); (case hg => rfl); (case hr => first | (go_simp; done) | (go_simp; rfl)); intro gb264 hg w6 hbox hb; have n0_ := Aside0.mk (below_step (by repeat (first | (with_reducible first | exact HB.out | apply below_alloc | apply pw_below_drewN | apply below_drew1) | exact HB.out)) hb); have n1_ := Aside0.mk (hbox); have n2_ := Aside0.mk ((by rw [hg]; exact (below_size (by repeat (first | (with_reducible first | exact HB.out | apply below_alloc | apply pw_below_drewN | apply below_drew1) | exact HB.out))) : w.heap.size ≤ gb264)); have n3_ := Aside0.mk ((by rw [hg]; exact (below_size (by repeat (first | (with_reducible first | exact HB.out | apply below_alloc | apply pw_below_drewN | apply below_drew1) | exact HB.out))) : w.heap.size ≤ gb264)); clear HB; have HB := n0_; have BK264 := n1_; have GW264 := n2_; have GE264 := n3_; clear n0_ n1_ n2_ n3_; clear hb hbox hg; have hcz7_0 : w6.cell? ⟨gb264, 0, none⟩ = some (.slice A0_0 l0_0.length c0_0) := (blk_cell BK264.out 0).trans rfl; have hcz7_1 : w6.cell? ⟨gb264, 1, none⟩ = some (.int .i64 a0_1) := (blk_cell BK264.out 1).trans rfl; have hfz7_0 := blk_frozen BK264.out 0; have hfz7_1 := blk_frozen BK264.out 1) | ((with_reducible refine gate_callee (f := 43) rfl ?_); refine goesL_ (some 11) rfl rfl Tryd.func43 (by kernel_rfl) rfl #[.agg #[.slice A0_0 l0_0.length c0_0, .int .i64 a0_1], .int .i64 a0_1] rfl (by (try simp only [List.map_toArray, List.map_cons, List.map_nil]); first | done | rfl | (simp only [List.length_drop, List.length_take]; rfl)) ?_; (with_reducible refine (dioramaref09_Place.calls _ _ l0_0 a0_1 a0_1 true _ ?side1 ?side2 A2.out).mono ?_); (case side1 => repeat (first | exact (Kd.C_below HR0_0.out HB.out) | (with_reducible refine Kd.C_alloc ?_ _) | (with_reducible refine Kd.C_drewN ?_ _) | (with_reducible refine Kd.C_drew ?_))); (case side2 => exact HC0_0.out); rintro e w8 ⟨rfl, hb⟩; refine ⟨_, rfl, ?_⟩; have n0_ := Aside0.mk (blk_below (g := gb264) (o := .cells #[.slice A0_0 l0_0.length c0_0, .int .i64 a0_1] 34 (0, 0)) (by (with_reducible repeat (first | refine blk_drewN ?_ _ | refine blk_drew ?_ | refine blk_alloc ?_ _)); exact BK264.out) hb); have n1_ := Aside0.mk (below_step (by repeat (first | (with_reducible first | exact HB.out | apply below_alloc | apply pw_below_drewN | apply below_drew1 | refine below_set ?_ GE264.out) | exact HB.out)) hb); clear BK264; clear HB; have BK264 := n0_; have HB := n1_; clear n0_ n1_; (try clear hb); (try clear hb2); (try clear hk); (try clear hi); have hcz9_0 : w8.cell? ⟨gb264, 0, none⟩ = some (.slice A0_0 l0_0.length c0_0) := (blk_cell BK264.out 0).trans rfl; have hcz9_1 : w8.cell? ⟨gb264, 1, none⟩ = some (.int .i64 a0_1) := (blk_cell BK264.out 1).trans rfl; have hfz9_0 := blk_frozen BK264.out 0; have hfz9_1 := blk_frozen BK264.out 1) | ((with_reducible refine gate_callee (f := 44) rfl ?_); refine goesL_ (some 14) rfl rfl Tryd.func44 (by kernel_rfl) rfl #[.agg #[.slice A0_0 l0_0.length c0_0, .int .i64 a0_1]] rfl (by (try simp only [List.map_toArray, List.map_cons, List.map_nil]); first | done | rfl | (simp only [List.length_drop, List.length_take]; rfl)) ?_; (with_reducible refine (dioramaref09_Refs.calls k _ _ l0_0 a0_1 t266 _ ?side1 ?side2 A4.out).mono ?_); (case side1 => repeat (first | exact (Kd.C_below HR0_0.out HB.out) | (with_reducible refine Kd.C_alloc ?_ _) | (with_reducible refine Kd.C_drewN ?_ _) | (with_reducible refine Kd.C_drew ?_))); (case side2 => exact HC0_0.out); rintro e w10 ⟨rfl, hb⟩; refine ⟨_, rfl, ?_⟩; have n0_ := Aside0.mk (blk_below (g := gb264) (o := .cells #[.slice A0_0 l0_0.length c0_0, .int .i64 a0_1] 34 (0, 0)) (by (with_reducible repeat (first | refine blk_drewN ?_ _ | refine blk_drew ?_ | refine blk_alloc ?_ _)); exact BK264.out) hb); have n1_ := Aside0.mk (below_step (by repeat (first | (with_reducible first | exact HB.out | apply below_alloc | apply pw_below_drewN | apply below_drew1 | refine below_set ?_ GE264.out) | exact HB.out)) hb); clear BK264; clear HB; have BK264 := n0_; have HB := n1_; clear n0_ n1_; (try clear hb); (try clear hb2); (try clear hk); (try clear hi)))
      go_ret2
      exact ⟨by first | rfl | (simp [errW_none, errW_some] <;> rfl) | (simp [*, errW_none, errW_some] <;> rfl), by repeat (first | (with_reducible first | exact HB.out | apply below_alloc | apply pw_below_drewN | apply below_drew1 | refine below_set ?_ GE264.out) | exact HB.out)⟩
    · rw [if_neg c5] at H
      have c5b0 : decide (0 ≤ t266) = false := decide_eq_false c5
      clear c5
      have H' := Aside0.mk H
      clear H
      go_enter Tryd.func31, Tryd.ntmps31
      go_wp2_with (first | ((with_reducible refine gate_dst (N := 1) rfl ?_); refine box_event ?hg (N := 1) ?hd (cs := #[.slice A0_0 l0_0.length c0_0, .int .i64 a0_1]) (t := 34) ?hr ?_; (case hd => rfl); (case hg => rfl); (case hr => first | (go_simp; done) | (go_simp; rfl)); intro gb264 hg w11 hbox hb; have n0_ := Aside0.mk (below_step (by repeat (first | (with_reducible first | exact HB.out | apply below_alloc | apply pw_below_drewN | apply below_drew1) | exact HB.out)) hb); have n1_ := Aside0.mk (hbox); have n2_ := Aside0.mk ((by rw [hg]; exact (below_size (by repeat (first | (with_reducible first | exact HB.out | apply below_alloc | apply pw_below_drewN | apply below_drew1) | exact HB.out))) : w.heap.size ≤ gb264)); have n3_ := Aside0.mk ((by rw [hg]; exact (below_size (by repeat (first | (with_reducible first | exact HB.out | apply below_alloc | apply pw_below_drewN | apply below_drew1) | exact HB.out))) : w.heap.size ≤ gb264)); clear HB; have HB := n0_; have BK264 := n1_; have GW264 := n2_; have GE264 := n3_; clear n0_ n1_ n2_ n3_; clear hb hbox hg; have hcz12_0 : w11.cell? ⟨gb264, 0, none⟩ = some (.slice A0_0 l0_0.length c0_0) := (blk_cell BK264.out 0).trans rfl; have hcz12_1 : w11.cell? ⟨gb264, 1, none⟩ = some (.int .i64 a0_1) := (blk_cell BK264.out 1).trans rfl; have hfz12_0 := blk_frozen BK264.out 0; have hfz12_1 := blk_frozen BK264.out 1) | ((with_reducible refine gate_callee (f := 43) rfl ?_); refine goesL_ (some 11) rfl rfl Tryd.func43 (by kernel_rfl) rfl #[.agg #[.slice A0_0 l0_0.length c0_0, .int .i64 a0_1], .int .i64 a0_1] rfl (by (try simp only [List.map_toArray, List.map_cons, List.map_nil]); first | done | rfl | (simp only [List.length_drop, List.length_take]; rfl)) ?_; (with_reducible refine (dioramaref09_Place.calls _ _ l0_0 a0_1 a0_1 true _ ?side1 ?side2 A2.out).mono ?_); (case side1 => repeat (first | exact (Kd.C_below HR0_0.out HB.out) | (with_reducible refine Kd.C_alloc ?_ _) | (with_reducible refine Kd.C_drewN ?_ _) | (with_reducible refine Kd.C_drew ?_))); (case side2 => exact HC0_0.out); rintro e w13 ⟨rfl, hb⟩; refine ⟨_, rfl, ?_⟩; have n0_ := Aside0.mk (blk_below (g := gb264) (o := .cells #[.slice A0_0 l0_0.length c0_0, .int .i64 a0_1] 34 (0, 0)) (by (with_reducible repeat (first | refine blk_drewN ?_ _ | refine blk_drew ?_ | refine blk_alloc ?_ _)); exact BK264.out) hb); have n1_ := Aside0.mk (below_step (by repeat (first | (with_reducible first | exact HB.out | apply below_alloc | apply pw_below_drewN | apply below_drew1 | refine below_set ?_ GE264.out) | exact HB.out)) hb); clear BK264; clear HB; have BK264 := n0_; have HB := n1_; clear n0_ n1_; (try clear hb); (try clear hb2); (try clear hk); (try clear hi); have hcz14_0 : w13.cell? ⟨gb264, 0, none⟩ = some (.slice A0_0 l0_0.length c0_0) := (blk_cell BK264.out 0).trans rfl; have hcz14_1 : w13.cell? ⟨gb264, 1, none⟩ = some (.int .i64 a0_1) := (blk_cell BK264.out 1).trans rfl; have hfz14_0 := blk_frozen BK264.out 0; have hfz14_1 := blk_frozen BK264.out 1) | ((with_reducible refine gate_callee (f := 44) rfl ?_); refine goesL_ (some 14) rfl rfl Tryd.func44 (by kernel_rfl) rfl #[.agg #[.slice A0_0 l0_0.length c0_0, .int .i64 a0_1]] rfl (by (try simp only [List.map_toArray, List.map_cons, List.map_nil]); first | done | rfl | (simp only [List.length_drop, List.length_take]; rfl)) ?_; (with_reducible refine (dioramaref09_Refs.calls k _ _ l0_0 a0_1 t266 _ ?side1 ?side2 A4.out).mono ?_); (case side1 => repeat (first | exact (Kd.C_below HR0_0.out HB.out) | (with_reducible refine Kd.C_alloc ?_ _) | (with_reducible refine Kd.C_drewN ?_ _) | (with_reducible refine Kd.C_drew ?_))); (case side2 => exact HC0_0.out); rintro e w15 ⟨rfl, hb⟩; refine ⟨_, rfl, ?_⟩; have n0_ := Aside0.mk (blk_below (g := gb264) (o := .cells #[.slice A0_0 l0_0.length c0_0, .int .i64 a0_1] 34 (0, 0)) (by (with_reducible repeat (first | refine blk_drewN ?_ _ | refine blk_drew ?_ | refine blk_alloc ?_ _)); exact BK264.out) hb); have n1_ := Aside0.mk (below_step (by repeat (first | (with_reducible first | exact HB.out | apply below_alloc | apply pw_below_drewN | apply below_drew1 | refine below_set ?_ GE264.out) | exact HB.out)) hb); clear BK264; clear HB; have BK264 := n0_; have HB := n1_; clear n0_ n1_; (try clear hb); (try clear hb2); (try clear hk); (try clear hi)))
      go_loopg [5] k (fun kq v5 w' => ∃ (x5_1 : Int), v5 = .int .i64 x5_1 ∧ Aside0 (dioramaref09_Check.l0 kq x5_1 l0_0 a0_1 = some (r1, r2)) ∧ Aside0 (kq ≤ k) ∧ Aside0 (w'.heap[gb264]? = some (.cells #[(.slice A0_0 l0_0.length c0_0), .int .i64 a0_1] 34 (0, 0))) ∧ Aside0 (Below w.heap.size w w'))
      case atStart => exact ⟨(0), (by first | rfl | (simp; done) | (simp [*]; done)), H', ⟨Nat.le_refl _⟩, ⟨by (with_reducible repeat (first | refine blk_drewN ?_ _ | refine blk_drew ?_ | refine blk_alloc ?_ _)); exact BK264.out⟩, ⟨by repeat (first | (with_reducible first | exact HB.out | apply below_alloc | apply pw_below_drewN | apply below_drew1 | refine below_set ?_ GE264.out) | exact HB.out)⟩⟩
      case round =>
        clear H'
        try clear p2
        try clear c3
        try clear c4
        try clear c5
        try clear c5b0
        try clear hcz12_0
        try clear hcz12_1
        try clear hcz14_0
        try clear hcz14_1
        try clear hcz7_0
        try clear hcz7_1
        try clear hcz9_0
        try clear hcz9_1
        try clear hfz12_0
        try clear hfz12_1
        try clear hfz14_0
        try clear hfz14_1
        try clear hfz7_0
        try clear hfz7_1
        try clear hfz9_0
        try clear hfz9_1
        obtain ⟨x5_1, rfl, HA, HK1, BK264, HB⟩ := hrel
        cases gk with
        | zero => exact absurd HA.out (by simp [dioramaref09_Check.l0])
        | succ k1 =>
          have H := HA.out
          clear HA
          simp only [dioramaref09_Check.l0] at H
          by_cases c16 : x5_1 < (l0_0.length : Int)
          · rw [if_pos c16] at H
            have c16b0 : decide (x5_1 < (l0_0.length : Int)) = true := decide_eq_true c16
            clear c16
            replace H := Option.bind_eq_some_iff.mp H
            obtain ⟨t267, A170, H⟩ := H
            replace H : (if 0 ≤ x5_1 then (if x5_1 < (t267.length : Int) then (if rdOf false t267 x5_1 = true then (some (14, x5_1)) else (dioramaref09_Check.l0 k1 (wrap64 (x5_1 + 1)) l0_0 a0_1)) else (none)) else (none)) = some (r1, r2) := H
            have A17 := Aside0.mk A170
            clear A170
            by_cases c18 : 0 ≤ x5_1
            · rw [if_pos c18] at H
              have c18b0 : decide (0 ≤ x5_1) = true := decide_eq_true c18
              clear c18
              by_cases c19 : x5_1 < (t267.length : Int)
              · rw [if_pos c19] at H
                have c19b0 : decide (x5_1 < (t267.length : Int)) = true := decide_eq_true c19
                clear c19
                obtain ⟨bq20, hbq20⟩ : ∃ b_ : Bool, b_ = (rdOf false t267 x5_1) := ⟨_, rfl⟩
                replace H : (if bq20 = true then (some (14, x5_1)) else (dioramaref09_Check.l0 k1 (wrap64 (x5_1 + 1)) l0_0 a0_1)) = some (r1, r2) := by rw [← hbq20] at H; exact H
                have Nbq20 := Aside0.mk hbq20
                clear hbq20
                by_cases c21 : bq20 = true
                · subst c21
                  have H1 : (some (14, x5_1)) = some (r1, r2) := by rw [if_pos rfl] at H; exact H
                  clear H
                  have H := H1
                  clear H1
                  simp only [Option.some.injEq, Prod.mk.injEq] at H
                  obtain ⟨rfl, rfl⟩ := H
                  have hcz22_0 : wr.cell? ⟨gb264, 0, none⟩ = some (.slice A0_0 l0_0.length c0_0) := (blk_cell BK264.out 0).trans rfl
                  have hcz22_1 : wr.cell? ⟨gb264, 1, none⟩ = some (.int .i64 a0_1) := (blk_cell BK264.out 1).trans rfl
                  have hfz22_0 := blk_frozen BK264.out 0
                  have hfz22_1 := blk_frozen BK264.out 1
                  go_wp2_with (first | ((with_reducible refine gate_callee (f := 45) rfl ?_); refine goesL_ (some 27) rfl rfl Tryd.func45 (by kernel_rfl) rfl #[.agg #[.slice A0_0 l0_0.length c0_0, .int .i64 a0_1], .int .i64 x5_1] rfl (by (try simp only [List.map_toArray, List.map_cons, List.map_nil]); first | done | rfl | (simp only [List.length_drop, List.length_take]; rfl)) ?_; (with_reducible refine (dioramaref09_Led.calls k1 _ _ l0_0 a0_1 x5_1 t267 _ ?side1 ?side2 A17.out).mono ?_); (case side1 => repeat (first | exact (Kd.C_below HR0_0.out HB.out) | (with_reducible refine Kd.C_alloc ?_ _) | (with_reducible refine Kd.C_drewN ?_ _) | (with_reducible refine Kd.C_drew ?_))); (case side2 => exact HC0_0.out); rintro e w23 ⟨v268, rfl, ho0, hb⟩; refine ⟨_, rfl, ?_⟩; have n0_ := Aside0.mk (Kd.R_lower ho0 (below_size (by repeat (first | (with_reducible first | exact HB.out | apply below_alloc | apply pw_below_drewN | apply below_drew1 | refine below_set ?_ GE264.out) | exact HB.out)))); have n1_ := Aside0.mk (blk_below (g := gb264) (o := .cells #[.slice A0_0 l0_0.length c0_0, .int .i64 a0_1] 34 (0, 0)) (by (with_reducible repeat (first | refine blk_drewN ?_ _ | refine blk_drew ?_ | refine blk_alloc ?_ _)); exact BK264.out) hb); have n2_ := Aside0.mk (below_step (by repeat (first | (with_reducible first | exact HB.out | apply below_alloc | apply pw_below_drewN | apply below_drew1 | refine below_set ?_ GE264.out) | exact HB.out)) hb); clear BK264; clear HB; have HO269 := n0_; have BK264 := n1_; have HB := n2_; clear n0_ n1_ n2_; (try clear hb); (try clear hb2); (try clear hk); (try clear hi); (try clear ho0); obtain ⟨Ao24, co24, eo24⟩ := Kd.R_slice HO269.out; subst eo24; have p270 : 0 ≤ (x5_1 : Int) := of_decide_eq_true (by first | (with_reducible assumption) | assumption); have q270 : x5_1 < (t267.length : Int) := of_decide_eq_true (by first | (with_reducible assumption) | assumption); obtain ⟨ad270, e270, hx270_0⟩ := Kd.at_bool (Kd.R_reads' HO269.out).2.2 x5_1 p270 q270; (try rw [← Nbq20.out] at hx270_0); cases e270; replace p270 := eq_true p270; replace q270 := eq_true q270))
                  go_ret2
                  exact ⟨by first | rfl | (simp [errW_none, errW_some] <;> rfl) | (simp [*, errW_none, errW_some] <;> rfl), by repeat (first | (with_reducible first | exact HB.out | apply below_alloc | apply pw_below_drewN | apply below_drew1 | refine below_set ?_ GE264.out) | exact HB.out)⟩
                · replace c21 := Bool.eq_false_iff.mpr c21
                  subst c21
                  have H1 : (dioramaref09_Check.l0 k1 (wrap64 (x5_1 + 1)) l0_0 a0_1) = some (r1, r2) := by rw [if_neg (show ¬ (false = true) by decide)] at H; exact H
                  clear H
                  have H := H1
                  clear H1
                  have H' := Aside0.mk H
                  clear H
                  have hcz25_0 : wr.cell? ⟨gb264, 0, none⟩ = some (.slice A0_0 l0_0.length c0_0) := (blk_cell BK264.out 0).trans rfl
                  have hcz25_1 : wr.cell? ⟨gb264, 1, none⟩ = some (.int .i64 a0_1) := (blk_cell BK264.out 1).trans rfl
                  have hfz25_0 := blk_frozen BK264.out 0
                  have hfz25_1 := blk_frozen BK264.out 1
                  go_wp2_with (first | ((with_reducible refine gate_callee (f := 45) rfl ?_); refine goesL_ (some 27) rfl rfl Tryd.func45 (by kernel_rfl) rfl #[.agg #[.slice A0_0 l0_0.length c0_0, .int .i64 a0_1], .int .i64 x5_1] rfl (by (try simp only [List.map_toArray, List.map_cons, List.map_nil]); first | done | rfl | (simp only [List.length_drop, List.length_take]; rfl)) ?_; (with_reducible refine (dioramaref09_Led.calls k1 _ _ l0_0 a0_1 x5_1 t267 _ ?side1 ?side2 A17.out).mono ?_); (case side1 => repeat (first | exact (Kd.C_below HR0_0.out HB.out) | (with_reducible refine Kd.C_alloc ?_ _) | (with_reducible refine Kd.C_drewN ?_ _) | (with_reducible refine Kd.C_drew ?_))); (case side2 => exact HC0_0.out); rintro e w26 ⟨v268, rfl, ho0, hb⟩; refine ⟨_, rfl, ?_⟩; have n0_ := Aside0.mk (Kd.R_lower ho0 (below_size (by repeat (first | (with_reducible first | exact HB.out | apply below_alloc | apply pw_below_drewN | apply below_drew1 | refine below_set ?_ GE264.out) | exact HB.out)))); have n1_ := Aside0.mk (blk_below (g := gb264) (o := .cells #[.slice A0_0 l0_0.length c0_0, .int .i64 a0_1] 34 (0, 0)) (by (with_reducible repeat (first | refine blk_drewN ?_ _ | refine blk_drew ?_ | refine blk_alloc ?_ _)); exact BK264.out) hb); have n2_ := Aside0.mk (below_step (by repeat (first | (with_reducible first | exact HB.out | apply below_alloc | apply pw_below_drewN | apply below_drew1 | refine below_set ?_ GE264.out) | exact HB.out)) hb); clear BK264; clear HB; have HO269 := n0_; have BK264 := n1_; have HB := n2_; clear n0_ n1_ n2_; (try clear hb); (try clear hb2); (try clear hk); (try clear hi); (try clear ho0); obtain ⟨Ao27, co27, eo27⟩ := Kd.R_slice HO269.out; subst eo27; have p270 : 0 ≤ (x5_1 : Int) := of_decide_eq_true (by first | (with_reducible assumption) | assumption); have q270 : x5_1 < (t267.length : Int) := of_decide_eq_true (by first | (with_reducible assumption) | assumption); obtain ⟨ad270, e270, hx270_0⟩ := Kd.at_bool (Kd.R_reads' HO269.out).2.2 x5_1 p270 q270; (try rw [← Nbq20.out] at hx270_0); cases e270; replace p270 := eq_true p270; replace q270 := eq_true q270))
                  go_roundg k1
                  case measure => have := HK1.out; omega
                  case rel => exact ⟨(wrap64 (x5_1 + 1)), (by first | rfl | (simp; done) | (simp [*]; done)), H', ⟨by have := HK1.out; omega⟩, ⟨by (with_reducible repeat (first | refine blk_drewN ?_ _ | refine blk_drew ?_ | refine blk_alloc ?_ _)); exact BK264.out⟩, ⟨by repeat (first | (with_reducible first | exact HB.out | apply below_alloc | apply pw_below_drewN | apply below_drew1 | refine below_set ?_ GE264.out) | exact HB.out)⟩⟩
              · rw [if_neg c19] at H
                exact absurd H (by simp)
            · rw [if_neg c18] at H
              exact absurd H (by simp)
          · rw [if_neg c16] at H
            have c16b0 : decide (x5_1 < (l0_0.length : Int)) = false := decide_eq_false c16
            clear c16
            replace H := Option.bind_eq_some_iff.mp H
            obtain ⟨t271, A280, H⟩ := H
            replace H : (dioramaref09_Check.l1 k1 t271 0 l0_0 a0_1) = some (r1, r2) := H
            have A28 := Aside0.mk A280
            clear A280
            have H' := Aside0.mk H
            clear H
            have hcz29_0 : wr.cell? ⟨gb264, 0, none⟩ = some (.slice A0_0 l0_0.length c0_0) := (blk_cell BK264.out 0).trans rfl
            have hcz29_1 : wr.cell? ⟨gb264, 1, none⟩ = some (.int .i64 a0_1) := (blk_cell BK264.out 1).trans rfl
            have hfz29_0 := blk_frozen BK264.out 0
            have hfz29_1 := blk_frozen BK264.out 1
            go_wp2_with (first | ((with_reducible refine gate_callee (f := 45) rfl ?_); refine goesL_ (some 35) rfl rfl Tryd.func45 (by kernel_rfl) rfl #[.agg #[.slice A0_0 l0_0.length c0_0, .int .i64 a0_1], .int .i64 a0_1] rfl (by (try simp only [List.map_toArray, List.map_cons, List.map_nil]); first | done | rfl | (simp only [List.length_drop, List.length_take]; rfl)) ?_; (with_reducible refine (dioramaref09_Led.calls k1 _ _ l0_0 a0_1 a0_1 t271 _ ?side1 ?side2 A28.out).mono ?_); (case side1 => repeat (first | exact (Kd.C_below HR0_0.out HB.out) | (with_reducible refine Kd.C_alloc ?_ _) | (with_reducible refine Kd.C_drewN ?_ _) | (with_reducible refine Kd.C_drew ?_))); (case side2 => exact HC0_0.out); rintro e w30 ⟨v272, rfl, ho0, hb⟩; refine ⟨_, rfl, ?_⟩; have n0_ := Aside0.mk (Kd.R_lower ho0 (below_size (by repeat (first | (with_reducible first | exact HB.out | apply below_alloc | apply pw_below_drewN | apply below_drew1 | refine below_set ?_ GE264.out) | exact HB.out)))); have n1_ := Aside0.mk (blk_below (g := gb264) (o := .cells #[.slice A0_0 l0_0.length c0_0, .int .i64 a0_1] 34 (0, 0)) (by (with_reducible repeat (first | refine blk_drewN ?_ _ | refine blk_drew ?_ | refine blk_alloc ?_ _)); exact BK264.out) hb); have n2_ := Aside0.mk (below_step (by repeat (first | (with_reducible first | exact HB.out | apply below_alloc | apply pw_below_drewN | apply below_drew1 | refine below_set ?_ GE264.out) | exact HB.out)) hb); clear BK264; clear HB; have HO273 := n0_; have BK264 := n1_; have HB := n2_; clear n0_ n1_ n2_; (try clear hb); (try clear hb2); (try clear hk); (try clear hi); (try clear ho0)))
            go_loopg [7] k1 (fun kq v7 w' => ∃ (x7_2 : Int), v7 = .int .i64 x7_2 ∧ Aside0 (dioramaref09_Check.l1 kq t271 x7_2 l0_0 a0_1 = some (r1, r2)) ∧ Aside0 (kq ≤ k1) ∧ Aside0 (Kd.R Kd.bool 4 w' w.heap.size (fun _ => True) v272 t271) ∧ Aside0 (w'.heap[gb264]? = some (.cells #[(.slice A0_0 l0_0.length c0_0), .int .i64 a0_1] 34 (0, 0))) ∧ Aside0 (Below w.heap.size w w'))
            case atStart => exact ⟨(0), (by first | rfl | (simp; done) | (simp [*]; done)), H', ⟨Nat.le_refl _⟩, ⟨by (with_reducible repeat (first | apply Kd.R_alloc | apply Kd.R_drewN | apply Kd.R_drew)); exact HO273.out⟩, ⟨by (with_reducible repeat (first | refine blk_drewN ?_ _ | refine blk_drew ?_ | refine blk_alloc ?_ _)); exact BK264.out⟩, ⟨by repeat (first | (with_reducible first | exact HB.out | apply below_alloc | apply pw_below_drewN | apply below_drew1 | refine below_set ?_ GE264.out) | exact HB.out)⟩⟩
            case round =>
              clear H'
              try clear c1
              try clear c2
              try clear p2
              try clear q2
              try clear hx2
              try clear c3
              try clear c4
              try clear c5
              try clear c5b0
              try clear p6
              try clear c16
              try clear c16b0
              try clear c18
              try clear c18b0
              try clear c19
              try clear c19b0
              try clear q20
              try clear c21
              try clear p27
              try clear q27
              try clear hx27
              try clear hcz12_0
              try clear hcz12_1
              try clear hcz14_0
              try clear hcz14_1
              try clear hcz22_0
              try clear hcz22_1
              try clear hcz25_0
              try clear hcz25_1
              try clear hcz29_0
              try clear hcz29_1
              try clear hcz7_0
              try clear hcz7_1
              try clear hcz9_0
              try clear hcz9_1
              try clear hfz12_0
              try clear hfz12_1
              try clear hfz14_0
              try clear hfz14_1
              try clear hfz22_0
              try clear hfz22_1
              try clear hfz25_0
              try clear hfz25_1
              try clear hfz29_0
              try clear hfz29_1
              try clear hfz7_0
              try clear hfz7_1
              try clear hfz9_0
              try clear hfz9_1
              try clear hx270_0
              try clear p2
              try clear p270
              try clear q270
              obtain ⟨x7_2, rfl, HA, HK2, HO_6, BK264, HB⟩ := hrel
              cases gk with
              | zero => exact absurd HA.out (by simp [dioramaref09_Check.l1])
              | succ k2 =>
                have H := HA.out
                clear HA
                simp only [dioramaref09_Check.l1] at H
                by_cases c31 : x7_2 < (l0_0.length : Int)
                · rw [if_pos c31] at H
                  have c31b0 : decide (x7_2 < (l0_0.length : Int)) = true := decide_eq_true c31
                  clear c31
                  by_cases c32 : x7_2 = a0_1
                  · rw [if_pos c32] at H
                    have c32b0 : (x7_2 == a0_1) = true := beq_iff_eq.mpr c32
                    have c32b1 : (x7_2 != a0_1) = false := bne_eq_false_iff_eq.mpr c32
                    clear c32
                    have H' := Aside0.mk H
                    clear H
                    have hcz33_0 : wr.cell? ⟨gb264, 0, none⟩ = some (.slice A0_0 l0_0.length c0_0) := (blk_cell BK264.out 0).trans rfl
                    have hcz33_1 : wr.cell? ⟨gb264, 1, none⟩ = some (.int .i64 a0_1) := (blk_cell BK264.out 1).trans rfl
                    have hfz33_0 := blk_frozen BK264.out 0
                    have hfz33_1 := blk_frozen BK264.out 1
                    go_wp2
                    go_roundg k2
                    case measure => have := HK1.out; have := HK2.out; omega
                    case rel => exact ⟨(wrap64 (x7_2 + 1)), (by first | rfl | (simp; done) | (simp [*]; done)), H', ⟨by have := HK1.out; have := HK2.out; omega⟩, ⟨by (with_reducible repeat (first | apply Kd.R_alloc | apply Kd.R_drewN | apply Kd.R_drew)); exact HO_6.out⟩, ⟨by (with_reducible repeat (first | refine blk_drewN ?_ _ | refine blk_drew ?_ | refine blk_alloc ?_ _)); exact BK264.out⟩, ⟨by repeat (first | (with_reducible first | exact HB.out | apply below_alloc | apply pw_below_drewN | apply below_drew1 | refine below_set ?_ GE264.out) | exact HB.out)⟩⟩
                  · rw [if_neg c32] at H
                    have c32b0 : (x7_2 == a0_1) = false := beq_eq_false_iff_ne.mpr c32
                    have c32b1 : (x7_2 != a0_1) = true := bne_iff_ne.mpr c32
                    by_cases c34 : 0 ≤ x7_2
                    · rw [if_pos c34] at H
                      have c34b0 : decide (0 ≤ x7_2) = true := decide_eq_true c34
                      clear c34
                      by_cases c35 : x7_2 < (t271.length : Int)
                      · rw [if_pos c35] at H
                        have c35b0 : decide (x7_2 < (t271.length : Int)) = true := decide_eq_true c35
                        clear c35
                        obtain ⟨bq36, hbq36⟩ : ∃ b_ : Bool, b_ = (rdOf false t271 x7_2) := ⟨_, rfl⟩
                        replace H : (if bq36 = true then (dioramaref09_Check.l1 k2 t271 (wrap64 (x7_2 + 1)) l0_0 a0_1) else (some (15, x7_2))) = some (r1, r2) := by rw [← hbq36] at H; exact H
                        have Nbq36 := Aside0.mk hbq36
                        clear hbq36
                        by_cases c37 : bq36 = true
                        · subst c37
                          have H1 : (dioramaref09_Check.l1 k2 t271 (wrap64 (x7_2 + 1)) l0_0 a0_1) = some (r1, r2) := by rw [if_pos rfl] at H; exact H
                          clear H
                          have H := H1
                          clear H1
                          have H' := Aside0.mk H
                          clear H
                          have hcz38_0 : wr.cell? ⟨gb264, 0, none⟩ = some (.slice A0_0 l0_0.length c0_0) := (blk_cell BK264.out 0).trans rfl
                          have hcz38_1 : wr.cell? ⟨gb264, 1, none⟩ = some (.int .i64 a0_1) := (blk_cell BK264.out 1).trans rfl
                          have hfz38_0 := blk_frozen BK264.out 0
                          have hfz38_1 := blk_frozen BK264.out 1
                          obtain ⟨Ao39, co39, eo39⟩ := Kd.R_slice HO_6.out
                          subst eo39
                          have p274 : 0 ≤ (x7_2 : Int) := of_decide_eq_true (by first | (with_reducible assumption) | assumption)
                          have q274 : x7_2 < (t271.length : Int) := of_decide_eq_true (by first | (with_reducible assumption) | assumption)
                          obtain ⟨ad274, e274, hx274_0⟩ := Kd.at_bool (Kd.R_reads' HO_6.out).2.2 x7_2 p274 q274
                          (try rw [← Nbq36.out] at hx274_0)
                          cases e274
                          replace p274 := eq_true p274
                          replace q274 := eq_true q274
                          go_wp2
                          go_roundg k2
                          case measure => have := HK1.out; have := HK2.out; omega
                          case rel => exact ⟨(wrap64 (x7_2 + 1)), (by first | rfl | (simp; done) | (simp [*]; done)), H', ⟨by have := HK1.out; have := HK2.out; omega⟩, ⟨by (with_reducible repeat (first | apply Kd.R_alloc | apply Kd.R_drewN | apply Kd.R_drew)); exact HO_6.out⟩, ⟨by (with_reducible repeat (first | refine blk_drewN ?_ _ | refine blk_drew ?_ | refine blk_alloc ?_ _)); exact BK264.out⟩, ⟨by repeat (first | (with_reducible first | exact HB.out | apply below_alloc | apply pw_below_drewN | apply below_drew1 | refine below_set ?_ GE264.out) | exact HB.out)⟩⟩
                        · replace c37 := Bool.eq_false_iff.mpr c37
                          subst c37
                          have H1 : (some (15, x7_2)) = some (r1, r2) := by rw [if_neg (show ¬ (false = true) by decide)] at H; exact H
                          clear H
                          have H := H1
                          clear H1
                          simp only [Option.some.injEq, Prod.mk.injEq] at H
                          obtain ⟨rfl, rfl⟩ := H
                          have hcz40_0 : wr.cell? ⟨gb264, 0, none⟩ = some (.slice A0_0 l0_0.length c0_0) := (blk_cell BK264.out 0).trans rfl
                          have hcz40_1 : wr.cell? ⟨gb264, 1, none⟩ = some (.int .i64 a0_1) := (blk_cell BK264.out 1).trans rfl
                          have hfz40_0 := blk_frozen BK264.out 0
                          have hfz40_1 := blk_frozen BK264.out 1
                          obtain ⟨Ao41, co41, eo41⟩ := Kd.R_slice HO_6.out
                          subst eo41
                          have p274 : 0 ≤ (x7_2 : Int) := of_decide_eq_true (by first | (with_reducible assumption) | assumption)
                          have q274 : x7_2 < (t271.length : Int) := of_decide_eq_true (by first | (with_reducible assumption) | assumption)
                          obtain ⟨ad274, e274, hx274_0⟩ := Kd.at_bool (Kd.R_reads' HO_6.out).2.2 x7_2 p274 q274
                          (try rw [← Nbq36.out] at hx274_0)
                          cases e274
                          replace p274 := eq_true p274
                          replace q274 := eq_true q274
                          go_wp2
                          go_ret2
                          exact ⟨by first | rfl | (simp [errW_none, errW_some] <;> rfl) | (simp [*, errW_none, errW_some] <;> rfl), by repeat (first | (with_reducible first | exact HB.out | apply below_alloc | apply pw_below_drewN | apply below_drew1 | refine below_set ?_ GE264.out) | exact HB.out)⟩
                      · rw [if_neg c35] at H
                        exact absurd H (by simp)
                    · rw [if_neg c34] at H
                      exact absurd H (by simp)
                · rw [if_neg c31] at H
                  have c31b0 : decide (x7_2 < (l0_0.length : Int)) = false := decide_eq_false c31
                  clear c31
                  simp only [Option.some.injEq, Prod.mk.injEq] at H
                  obtain ⟨rfl, rfl⟩ := H
                  have hcz42_0 : wr.cell? ⟨gb264, 0, none⟩ = some (.slice A0_0 l0_0.length c0_0) := (blk_cell BK264.out 0).trans rfl
                  have hcz42_1 : wr.cell? ⟨gb264, 1, none⟩ = some (.int .i64 a0_1) := (blk_cell BK264.out 1).trans rfl
                  have hfz42_0 := blk_frozen BK264.out 0
                  have hfz42_1 := blk_frozen BK264.out 1
                  go_wp2
                  go_ret2
                  exact ⟨by first | rfl | (simp [errW_none, errW_some] <;> rfl) | (simp [*, errW_none, errW_some] <;> rfl), by repeat (first | (with_reducible first | exact HB.out | apply below_alloc | apply pw_below_drewN | apply below_drew1 | refine below_set ?_ GE264.out) | exact HB.out)⟩
  · replace c3 := Bool.eq_false_iff.mpr c3
    subst c3
    have H1 : (some (13, (-1))) = some (r1, r2) := by rw [if_neg (show ¬ (false = true) by decide)] at H; exact H
    clear H
    have H := H1
    clear H1
    simp only [Option.some.injEq, Prod.mk.injEq] at H
    obtain ⟨rfl, rfl⟩ := H
    go_enter Tryd.func31, Tryd.ntmps31
    go_wp2_with (first | ((with_reducible refine gate_dst (N := 1) rfl ?_); refine box_event ?hg (N := 1) ?hd (cs := #[.slice A0_0 l0_0.length c0_0, .int .i64 a0_1]) (t := 34) ?hr ?_; (case hd => rfl); (case hg => rfl); (case hr => first | (go_simp; done) | (go_simp; rfl)); intro gb264 hg w43 hbox hb; have n0_ := Aside0.mk (below_step (by repeat (first | (with_reducible first | exact HB.out | apply below_alloc | apply pw_below_drewN | apply below_drew1) | exact HB.out)) hb); have n1_ := Aside0.mk (hbox); have n2_ := Aside0.mk ((by rw [hg]; exact (below_size (by repeat (first | (with_reducible first | exact HB.out | apply below_alloc | apply pw_below_drewN | apply below_drew1) | exact HB.out))) : w.heap.size ≤ gb264)); have n3_ := Aside0.mk ((by rw [hg]; exact (below_size (by repeat (first | (with_reducible first | exact HB.out | apply below_alloc | apply pw_below_drewN | apply below_drew1) | exact HB.out))) : w.heap.size ≤ gb264)); clear HB; have HB := n0_; have BK264 := n1_; have GW264 := n2_; have GE264 := n3_; clear n0_ n1_ n2_ n3_; clear hb hbox hg; have hcz44_0 : w43.cell? ⟨gb264, 0, none⟩ = some (.slice A0_0 l0_0.length c0_0) := (blk_cell BK264.out 0).trans rfl; have hcz44_1 : w43.cell? ⟨gb264, 1, none⟩ = some (.int .i64 a0_1) := (blk_cell BK264.out 1).trans rfl; have hfz44_0 := blk_frozen BK264.out 0; have hfz44_1 := blk_frozen BK264.out 1) | ((with_reducible refine gate_callee (f := 43) rfl ?_); refine goesL_ (some 11) rfl rfl Tryd.func43 (by kernel_rfl) rfl #[.agg #[.slice A0_0 l0_0.length c0_0, .int .i64 a0_1], .int .i64 a0_1] rfl (by (try simp only [List.map_toArray, List.map_cons, List.map_nil]); first | done | rfl | (simp only [List.length_drop, List.length_take]; rfl)) ?_; (with_reducible refine (dioramaref09_Place.calls _ _ l0_0 a0_1 a0_1 false _ ?side1 ?side2 A2.out).mono ?_); (case side1 => repeat (first | exact (Kd.C_below HR0_0.out HB.out) | (with_reducible refine Kd.C_alloc ?_ _) | (with_reducible refine Kd.C_drewN ?_ _) | (with_reducible refine Kd.C_drew ?_))); (case side2 => exact HC0_0.out); rintro e w45 ⟨rfl, hb⟩; refine ⟨_, rfl, ?_⟩; have n0_ := Aside0.mk (blk_below (g := gb264) (o := .cells #[.slice A0_0 l0_0.length c0_0, .int .i64 a0_1] 34 (0, 0)) (by (with_reducible repeat (first | refine blk_drewN ?_ _ | refine blk_drew ?_ | refine blk_alloc ?_ _)); exact BK264.out) hb); have n1_ := Aside0.mk (below_step (by repeat (first | (with_reducible first | exact HB.out | apply below_alloc | apply pw_below_drewN | apply below_drew1 | refine below_set ?_ GE264.out) | exact HB.out)) hb); clear BK264; clear HB; have BK264 := n0_; have HB := n1_; clear n0_ n1_; (try clear hb); (try clear hb2); (try clear hk); (try clear hi)))
    go_ret2
    exact ⟨by first | rfl | (simp [errW_none, errW_some] <;> rfl) | (simp [*, errW_none, errW_some] <;> rfl), by repeat (first | (with_reducible first | exact HB.out | apply below_alloc | apply pw_below_drewN | apply below_drew1 | refine below_set ?_ GE264.out) | exact HB.out)⟩

end Go.Proofs.YtdfneldenipljaaDoor.PClassNumbers
end
section
-- PRINTED BY print.sh 35421559b90ae4d0a3588c463048766b98c2df88dd9212a6774a882060cdf62d: not written by this session
namespace Go.Proofs.YtdfneldenipljaaDoor.PClassNumbers
open Go.RowKit Go.Proofs.YtdfneldenipljaaDoorW.PrintWords Go.Proofs.YtdfneldenipljaaDoorW.PrintLast Go.Proofs.YtdfneldenipljaaDoorW.PrintMore
attribute [local go_sem] max2_int min2_int max_two min_two max_three min_three max_four min_four   -- for this text's walks alone
set_option linter.unusedVariables false
set_option linter.unusedSimpArgs false
mutual
def dioramaref10_meet.l0 : Nat → Int → List Int → Int → List (S52) → Int → Option (List Int)
  | 0, _, _, _, _, _ => none
  | k + 1, x1, x2, x7, x332000, x332001 => if x7 < (x2.length : Int) then (if 0 ≤ x7 then (if (rd x2 x7) = x1 then (some x2) else (dioramaref10_meet.l0 k x1 x2 (wrap64 (x7 + 1)) x332000 x332001)) else (none)) else (dioramaref10_meet.l1 k x1 x2 0 x332000 x332001)
def dioramaref10_meet.l1 : Nat → Int → List Int → Int → List (S52) → Int → Option (List Int)
  | 0, _, _, _, _, _ => none
  | k + 1, x1, x2, x8, x332000, x332001 => if 0 ≤ x1 then (if x1 < (x332000.length : Int) then (if x8 < (((rd_T52 x332000 x1).f3).length : Int) then (if 0 ≤ x8 then ((dioramaref10_meet.f k x332000 x332001 (rd ((rd_T52 x332000 x1).f3) x8) x2).bind fun t336 => (dioramaref10_meet.l1 k x1 t336 (wrap64 (x8 + 1)) x332000 x332001)) else (none)) else ((some (([] : List Int) : List Int)).bind fun y339 => (if y339.length + x2.length < 17592186044416 then ((some (y339 ++ x2 : List Int)).bind fun y342 => (if y342.length < 17592186044416 then (some (y342 ++ [x1])) else (none))) else (none)))) else (none)) else (none)
def dioramaref10_meet.f : Nat → List (S52) → Int → Int → List Int → Option (List Int)
  | 0, _, _, _, _ => none
  | k + 1, l0_0, a0_1, a1, l2 => dioramaref10_meet.l0 k a1 l2 0 l0_0 a0_1
end
def dioramaref10_meet.T9 : Bool × List (List Nat × List Nat) := (true, [([], []), ([], []), ([1], [1]), ([], []), ([2, 3], [2, 3]), ([4], [4]), ([5], [5]), ([], []), ([6, 7], [6, 7]), ([8], [8]), ([], []), ([0, 9, 10], [0, 9, 10]), ([11, 11, 0, 1, 2, 3, 4, 5, 6, 7, 8, 9, 10, 11], [10, 11])])
def dioramaref10_meet.B9 : List Nat := [0, 0, 2, 0, 14, 30, 62, 0, 254, 510, 0, 2047, 4095]
theorem dioramaref10_meet.tab9 : rtab .any (opsOf Tryd.f72 9) = dioramaref10_meet.T9 := by kernel_rfl
theorem dioramaref10_meet.bits9 : waitsOk dioramaref10_meet.T9.2 dioramaref10_meet.B9 = true := by kernel_rfl
set_option maxHeartbeats 8000000 in
set_option maxRecDepth 100000 in
theorem dioramaref10_meet.calls (k : Nat) : ∀ (A0_0 : Option Addr) (c0_0 : Nat) (l0_0 : List (S52)) (a0_1 : Int) (a1 : Int) (P2_ : Nat → Prop) (A2 : Option Addr) (c2 : Nat) (l2 : List Int) (r : List Int) (w : World) (hr0_0 : Kd.C k52 w A0_0 l0_0.length l0_0) (hc0_0 : l0_0.length ≤ c0_0) (hs2 : Kd.V (Kd.int .i64) 3 w w.heap.size (fun k_ => P2_ k_) (.slice A2 l2.length c2) l2) (h : dioramaref10_meet.f k l0_0 a0_1 a1 l2 = some r),
    Calls Tryd.prog 72 #[.agg #[.slice A0_0 l0_0.length c0_0, .int .i64 a0_1], .int .i64 a1, .slice A2 l2.length c2] w fun e w' => ∃ v0_ : Value, e = .returned (v0_) ∧ Kd.V (Kd.int .i64) 3 w' w.heap.size (fun k_ => (P2_ k_ ∨ w.heap.size ≤ k_)) v0_ r ∧ Below w.heap.size w w' := by
  induction k using Nat.strongRecOn with
  | _ k ih =>
  intro A0_0 c0_0 l0_0 a0_1 a1 P2_ A2 c2 l2 r w hr0_0 hc0_0 hs2 h
  cases k with
  | zero => exact absurd h (by simp [dioramaref10_meet.f])
  | succ k =>
  simp only [dioramaref10_meet.f] at h
  have hu34 := Tryd.underlying34
  have HR0_0 := Aside0.mk hr0_0
  have HC0_0 := Aside0.mk hc0_0
  clear hr0_0 hc0_0
  have HO2 := Aside0.mk (show Kd.V (Kd.int .i64) 3 w w.heap.size (fun k_ => (P2_ k_ ∨ w.heap.size ≤ k_)) (.slice A2 l2.length c2) l2 from Kd.V_mono hs2 (fun k_ hk => .inl hk))
  have HB := Aside0.mk (Below.refl w.heap.size w)
  have H : (dioramaref10_meet.l0 k a1 l2 0 l0_0 a0_1) = some r := h
  clear h
  have H' := Aside0.mk H
  clear H
  go_enter Tryd.func72, Tryd.ntmps72
  go_wp2_with (first | ((with_reducible refine gate_dst (N := 3) rfl ?_); refine box_event ?hg (N := 3) ?hd (cs := #[.slice A0_0 l0_0.length c0_0, .int .i64 a0_1]) (t := 34) ?hr ?_; (case hd => rfl); (case hg => rfl); (case hr => first | (go_simp; done) | (go_simp; rfl)); intro gb331 hg w4 hbox hb; have n0_ := Aside0.mk (Kd.V_below (Kd.V_elderB (by (with_reducible repeat (first | apply Kd.V_alloc | apply Kd.V_drewN | apply Kd.V_drew)); exact HO2.out) gb331 (Nat.le_of_eq hg.symm)) hb); have n1_ := Aside0.mk (below_step (by repeat (first | (with_reducible first | exact HB.out | apply below_alloc | apply pw_below_drewN | apply below_drew1) | exact HB.out)) hb); have n2_ := Aside0.mk (hbox); have n3_ := Aside0.mk ((by rw [hg]; exact (below_size (by repeat (first | (with_reducible first | exact HB.out | apply below_alloc | apply pw_below_drewN | apply below_drew1) | exact HB.out))) : w.heap.size ≤ gb331)); have n4_ := Aside0.mk ((by rw [hg]; exact (below_size (by repeat (first | (with_reducible first | exact HB.out | apply below_alloc | apply pw_below_drewN | apply below_drew1) | exact HB.out))) : w.heap.size ≤ gb331)); clear HO2; clear HB; have HO2 := n0_; have HB := n1_; have BK331 := n2_; have GW331 := n3_; have GE331 := n4_; clear n0_ n1_ n2_ n3_ n4_; clear hb hbox hg))
  go_loopg [7] k (fun kq v7 w' => ∃ (x7_1 : Int), v7 = .int .i64 x7_1 ∧ Aside0 (dioramaref10_meet.l0 kq a1 l2 x7_1 l0_0 a0_1 = some r) ∧ Aside0 (kq ≤ k) ∧ Aside0 (Kd.V (Kd.int .i64) 3 w' w.heap.size (fun k_ => (P2_ k_ ∨ w.heap.size ≤ k_) ∧ k_ ≠ gb331) (.slice A2 l2.length c2) l2) ∧ Aside0 (w'.heap[gb331]? = some (.cells #[(.slice A0_0 l0_0.length c0_0), .int .i64 a0_1] 34 (0, 0))) ∧ Aside0 (Below w.heap.size w w'))
  case atStart => exact ⟨(0), (by first | rfl | (simp; done) | (simp [*]; done)), H', ⟨Nat.le_refl _⟩, ⟨by (with_reducible repeat (first | apply Kd.V_alloc | apply Kd.V_drewN | apply Kd.V_drew)); exact HO2.out⟩, ⟨by (with_reducible repeat (first | refine blk_drewN ?_ _ | refine blk_drew ?_ | refine blk_alloc ?_ _)); exact BK331.out⟩, ⟨by repeat (first | (with_reducible first | exact HB.out | apply below_alloc | apply pw_below_drewN | apply below_drew1 | refine below_set ?_ GE331.out) | exact HB.out)⟩⟩
  case round =>
    clear H'
    try clear c2
    try clear p2
    obtain ⟨x7_1, rfl, HA, HK1, HO_2, BK331, HB⟩ := hrel
    cases gk with
    | zero => exact absurd HA.out (by simp [dioramaref10_meet.l0])
    | succ k1 =>
      have H := HA.out
      clear HA
      simp only [dioramaref10_meet.l0] at H
      by_cases c5 : x7_1 < (l2.length : Int)
      · rw [if_pos c5] at H
        have c5b0 : decide (x7_1 < (l2.length : Int)) = true := decide_eq_true c5
        clear c5
        by_cases c6 : 0 ≤ x7_1
        · rw [if_pos c6] at H
          have c6b0 : decide (0 ≤ x7_1) = true := decide_eq_true c6
          clear c6
          by_cases c7 : (rd l2 x7_1) = a1
          · rw [if_pos c7] at H
            have c7b0 : ((rd l2 x7_1) == a1) = true := beq_iff_eq.mpr c7
            have c7b1 : ((rd l2 x7_1) != a1) = false := bne_eq_false_iff_eq.mpr c7
            clear c7
            obtain rfl := Option.some.inj H
            have p332 : 0 ≤ (x7_1 : Int) := of_decide_eq_true (by first | (with_reducible assumption) | assumption)
            have q332 : x7_1 < (l2.length : Int) := of_decide_eq_true (by first | (with_reducible assumption) | assumption)
            obtain ⟨ad332, e332, hx332_0⟩ := Kd.at_int (Kd.V_reads' HO_2.out).2.2 x7_1 p332 q332
            cases e332
            replace p332 := eq_true p332
            replace q332 := eq_true q332
            go_wp2
            go_ret
            exact ⟨_, by first | rfl | (simp [errW_none, errW_some] <;> rfl) | (simp [*, errW_none, errW_some] <;> rfl), by (with_reducible repeat (first | apply Kd.V_alloc | apply Kd.V_drewN | apply Kd.V_drew)); exact Kd.V_mono HO_2.out (fun _ hk => hk.1), by repeat (first | (with_reducible first | exact HB.out | apply below_alloc | apply pw_below_drewN | apply below_drew1 | refine below_set ?_ GE331.out) | exact HB.out)⟩
          · rw [if_neg c7] at H
            have c7b0 : ((rd l2 x7_1) == a1) = false := beq_eq_false_iff_ne.mpr c7
            have c7b1 : ((rd l2 x7_1) != a1) = true := bne_iff_ne.mpr c7
            have H' := Aside0.mk H
            clear H
            have p332 : 0 ≤ (x7_1 : Int) := of_decide_eq_true (by first | (with_reducible assumption) | assumption)
            have q332 : x7_1 < (l2.length : Int) := of_decide_eq_true (by first | (with_reducible assumption) | assumption)
            obtain ⟨ad332, e332, hx332_0⟩ := Kd.at_int (Kd.V_reads' HO_2.out).2.2 x7_1 p332 q332
            cases e332
            replace p332 := eq_true p332
            replace q332 := eq_true q332
            go_wp2
            go_roundg k1
            case measure => have := HK1.out; omega
            case rel => exact ⟨(wrap64 (x7_1 + 1)), (by first | rfl | (simp; done) | (simp [*]; done)), H', ⟨by have := HK1.out; omega⟩, ⟨by (with_reducible repeat (first | apply Kd.V_alloc | apply Kd.V_drewN | apply Kd.V_drew)); exact HO_2.out⟩, ⟨by (with_reducible repeat (first | refine blk_drewN ?_ _ | refine blk_drew ?_ | refine blk_alloc ?_ _)); exact BK331.out⟩, ⟨by repeat (first | (with_reducible first | exact HB.out | apply below_alloc | apply pw_below_drewN | apply below_drew1 | refine below_set ?_ GE331.out) | exact HB.out)⟩⟩
        · rw [if_neg c6] at H
          exact absurd H (by simp)
      · rw [if_neg c5] at H
        have c5b0 : decide (x7_1 < (l2.length : Int)) = false := decide_eq_false c5
        clear c5
        have H' := Aside0.mk H
        clear H
        go_wp2
        go_loopg [2, 8] k1 (fun kq v2 v8 w' => ∃ (x2_2 : List Int) (x8_2 : Int), v8 = .int .i64 x8_2 ∧ Aside0 (dioramaref10_meet.l1 kq a1 x2_2 x8_2 l0_0 a0_1 = some r) ∧ Aside0 (kq ≤ k1) ∧ Aside0 (Kd.V (Kd.int .i64) 3 w' w.heap.size (fun k_ => (P2_ k_ ∨ w.heap.size ≤ k_) ∧ k_ ≠ gb331) v2 x2_2) ∧ Aside0 (w'.heap[gb331]? = some (.cells #[(.slice A0_0 l0_0.length c0_0), .int .i64 a0_1] 34 (0, 0))) ∧ Aside0 (Below w.heap.size w w'))
        case atStart => exact ⟨(l2), (0), (by first | rfl | (simp; done) | (simp [*]; done)), H', ⟨Nat.le_refl _⟩, ⟨by (with_reducible repeat (first | apply Kd.V_alloc | apply Kd.V_drewN | apply Kd.V_drew)); exact HO_2.out⟩, ⟨by (with_reducible repeat (first | refine blk_drewN ?_ _ | refine blk_drew ?_ | refine blk_alloc ?_ _)); exact BK331.out⟩, ⟨by repeat (first | (with_reducible first | exact HB.out | apply below_alloc | apply pw_below_drewN | apply below_drew1 | refine below_set ?_ GE331.out) | exact HB.out)⟩⟩
        case round =>
          clear H'
          try clear c2
          try clear p2
          try clear p3
          try clear q3
          try clear hx3
          try clear c5
          try clear c5b0
          try clear c6
          try clear c6b0
          try clear p6
          try clear c7
          try clear c7b0
          try clear c7b1
          try clear hx332_0
          try clear p2
          try clear p332
          try clear q332
          obtain ⟨x2_2, x8_2, rfl, HA, HK2, HO_2, BK331, HB⟩ := hrel
          cases gk with
          | zero => exact absurd HA.out (by simp [dioramaref10_meet.l1])
          | succ k2 =>
            have H := HA.out
            clear HA
            simp only [dioramaref10_meet.l1] at H
            by_cases c8 : 0 ≤ a1
            · rw [if_pos c8] at H
              have c8b0 : decide (0 ≤ a1) = true := decide_eq_true c8
              clear c8
              by_cases c9 : a1 < (l0_0.length : Int)
              · rw [if_pos c9] at H
                have c9b0 : decide (a1 < (l0_0.length : Int)) = true := decide_eq_true c9
                clear c9
                by_cases c10 : x8_2 < (((rd_T52 l0_0 a1).f3).length : Int)
                · rw [if_pos c10] at H
                  have c10b0 : decide (x8_2 < (((rd_T52 l0_0 a1).f3).length : Int)) = true := decide_eq_true c10
                  clear c10
                  by_cases c11 : 0 ≤ x8_2
                  · rw [if_pos c11] at H
                    have c11b0 : decide (0 ≤ x8_2) = true := decide_eq_true c11
                    clear c11
                    replace H := Option.bind_eq_some_iff.mp H
                    obtain ⟨t336, A120, H⟩ := H
                    replace H : (dioramaref10_meet.l1 k2 a1 t336 (wrap64 (x8_2 + 1)) l0_0 a0_1) = some r := H
                    have A12 := Aside0.mk A120
                    clear A120
                    have H' := Aside0.mk H
                    clear H
                    have hcz13_0 : wr.cell? ⟨gb331, 0, none⟩ = some (.slice A0_0 l0_0.length c0_0) := (blk_cell BK331.out 0).trans rfl
                    have hcz13_1 : wr.cell? ⟨gb331, 1, none⟩ = some (.int .i64 a0_1) := (blk_cell BK331.out 1).trans rfl
                    have hfz13_0 := blk_frozen BK331.out 0
                    have hfz13_1 := blk_frozen BK331.out 1
                    have p333 : 0 ≤ (a1 : Int) := of_decide_eq_true (by first | (with_reducible assumption) | assumption)
                    have q333 : a1 < (l0_0.length : Int) := of_decide_eq_true (by first | (with_reducible assumption) | assumption)
                    obtain ⟨ad333, A333_1, c333_1, A333_2, c333_2, A333_3, c333_3, e333, hx333_0, hx333_1, hx333_2, hx333_3, hl333_1, hi333_1, hl333_2, hi333_2, hl333_3, hi333_3⟩ := at_T52 HR0_0.out a1 p333 q333
                    cases e333
                    replace hx333_0 := (HB.out.cell (World.block_lt_of_cell? w _ hx333_0)).trans hx333_0
                    replace hx333_1 := (HB.out.cell (World.block_lt_of_cell? w _ hx333_1)).trans hx333_1
                    replace hx333_2 := (HB.out.cell (World.block_lt_of_cell? w _ hx333_2)).trans hx333_2
                    replace hx333_3 := (HB.out.cell (World.block_lt_of_cell? w _ hx333_3)).trans hx333_3
                    have HR333_1 := Aside0.mk hi333_1
                    have HC333_1 := Aside0.mk hl333_1
                    clear hi333_1 hl333_1
                    have HR333_2 := Aside0.mk hi333_2
                    have HC333_2 := Aside0.mk hl333_2
                    clear hi333_2 hl333_2
                    have HR333_3 := Aside0.mk hi333_3
                    have HC333_3 := Aside0.mk hl333_3
                    clear hi333_3 hl333_3
                    replace p333 := eq_true p333
                    replace q333 := eq_true q333
                    try go_wp2
                    have n0_ := Aside0.mk (Kd.V_drew HO_2.out)
                    have n1_ := Aside0.mk (blk_drew BK331.out)
                    have n2_ := Aside0.mk (below_drew1 HB.out)
                    clear HO_2
                    clear BK331
                    clear HB
                    have HO_2 := n0_
                    have BK331 := n1_
                    have HB := n2_
                    clear n0_ n1_ n2_
                    have p334 : 0 ≤ (a1 : Int) := of_decide_eq_true (by first | (with_reducible assumption) | assumption)
                    have q334 : a1 < (l0_0.length : Int) := of_decide_eq_true (by first | (with_reducible assumption) | assumption)
                    obtain ⟨ad334, A334_1, c334_1, A334_2, c334_2, A334_3, c334_3, e334, hx334_0, hx334_1, hx334_2, hx334_3, hl334_1, hi334_1, hl334_2, hi334_2, hl334_3, hi334_3⟩ := at_T52 HR0_0.out a1 p334 q334
                    have hw334_3 := hx334_3
                    have hw334_2 := hx334_2
                    have hw334_1 := hx334_1
                    have hw334_0 := hx334_0
                    obtain rfl : ad333 = ad334 := (by injection e334)
                    replace hx334_0 := (HB.out.cell (World.block_lt_of_cell? w _ hx334_0)).trans hx334_0
                    replace hx334_1 := (HB.out.cell (World.block_lt_of_cell? w _ hx334_1)).trans hx334_1
                    replace hx334_2 := (HB.out.cell (World.block_lt_of_cell? w _ hx334_2)).trans hx334_2
                    replace hx334_3 := (HB.out.cell (World.block_lt_of_cell? w _ hx334_3)).trans hx334_3
                    have HR334_1 := Aside0.mk hi334_1
                    have HC334_1 := Aside0.mk hl334_1
                    clear hi334_1 hl334_1
                    have HR334_2 := Aside0.mk hi334_2
                    have HC334_2 := Aside0.mk hl334_2
                    clear hi334_2 hl334_2
                    have HR334_3 := Aside0.mk hi334_3
                    have HC334_3 := Aside0.mk hl334_3
                    clear hi334_3 hl334_3
                    replace p334 := eq_true p334
                    replace q334 := eq_true q334
                    have p335 : 0 ≤ (x8_2 : Int) := of_decide_eq_true (by first | (with_reducible assumption) | assumption)
                    have q335 : x8_2 < (((rd_T52 l0_0 a1).f3).length : Int) := of_decide_eq_true (by first | (with_reducible assumption) | assumption)
                    obtain ⟨ad335, e335, hx335_0⟩ := Kd.at_int HR334_3.out x8_2 p335 q335
                    have hw335_0 := hx335_0
                    cases e335
                    replace hx335_0 := (HB.out.cell (World.block_lt_of_cell? w _ hx335_0)).trans hx335_0
                    replace p335 := eq_true p335
                    replace q335 := eq_true q335
                    obtain ⟨Ao15, co15, eo15⟩ := Kd.V_slice HO_2.out
                    (first | subst eo15 | (injection eo15 with f1_ f2_ f3_; have f4_ := f1_.symm; have f5_ := f3_.symm; clear f1_ f2_ f3_; subst f4_; subst f5_))
                    refine start_ (n := 13) (S := fun w' => w'.cell? ⟨gb331, 0, none⟩ = some (.slice (some ad333) l0_0.length c0_0) ∧ w'.cell? ⟨gb331, 1, none⟩ = some (.int .i64 a0_1) ∧ w'.cell? (ad333.add ((a1).toNat * 4)) = some (.int .i64 ((rd_T52 l0_0 a1).f0)) ∧ w'.cell? ⟨(ad333.add ((a1).toNat * 4)).block, (ad333.add ((a1).toNat * 4)).off + 1, none⟩ = some (.slice A334_1 ((rd_T52 l0_0 a1).f1).length c334_1) ∧ w'.cell? ⟨(ad333.add ((a1).toNat * 4)).block, (ad333.add ((a1).toNat * 4)).off + 2, none⟩ = some (.slice A334_2 ((rd_T52 l0_0 a1).f2).length c334_2) ∧ w'.cell? ⟨(ad333.add ((a1).toNat * 4)).block, (ad333.add ((a1).toNat * 4)).off + 3, none⟩ = some (.slice (some ad335) ((rd_T52 l0_0 a1).f3).length c334_3) ∧ w'.cell? (ad335.add (x8_2).toNat) = some (.int .i64 (rd ((rd_T52 l0_0 a1).f3) x8_2))) (ds := []) #[false, false, false, false, false, false, false, false, false, false, false, false, false] (by kernel_rfl) rfl rfl ⟨(blk_cell BK331.out 0).trans rfl, (blk_cell BK331.out 1).trans rfl, ((HB.out.cell (World.block_lt_of_cell? w _ hw334_0)).trans hw334_0), ((HB.out.cell (World.block_lt_of_cell? w _ hw334_1)).trans hw334_1), ((HB.out.cell (World.block_lt_of_cell? w _ hw334_2)).trans hw334_2), ((HB.out.cell (World.block_lt_of_cell? w _ hw334_3)).trans hw334_3), ((HB.out.cell (World.block_lt_of_cell? w _ hw335_0)).trans hw335_0)⟩ (fun hHeld => ?_); refine with_tabW dioramaref10_meet.tab9 dioramaref10_meet.bits9 (fun HT_ HW_ => ?_)
                    generalize wr.drew = w14 at HO_2 BK331 HB HR334_1 HR334_2 HR334_3 hx334_0 hx334_1 hx334_2 hx334_3 hx335_0 hHeld ⊢
                    refine pure_ (i := 1) (N := some 34) (v := ?_) (a' := ?_) #[false, true, false, false, false, false, false, false, false, false, false, false, false] rfl rfl (any_of HT_.out (by kernel_rfl)) (fun _ _ _ h => h) (Or.inl ⟨by rfl, ?_⟩) ?_ ?_
                    rotate_left
                    · intro w'
                      go_simp
                      with_reducible rfl
                    rotate_left
                    · simp only [Act.put, List.setIfInBounds_toArray, List.set_cons_zero, List.set_cons_succ, i64_w, i32_w]
                      rfl
                    refine pure_ (i := 3) (N := some 36) (v := ?_) (a' := ?_) #[false, true, false, true, false, false, false, false, false, false, false, false, false] rfl rfl (any_of HT_.out (by kernel_rfl)) (fun _ _ _ h => h) (Or.inl ⟨by rfl, ?_⟩) ?_ ?_
                    rotate_left
                    · intro w'
                      go_simp
                      with_reducible rfl
                    rotate_left
                    · simp only [Act.put, List.setIfInBounds_toArray, List.set_cons_zero, List.set_cons_succ, i64_w, i32_w]
                      rfl
                    refine pure_ (i := 7) (N := some 40) (v := ?_) (a' := ?_) #[false, true, false, true, false, false, false, true, false, false, false, false, false] rfl rfl (any_of HT_.out (by kernel_rfl)) (fun _ _ _ h => h) (Or.inl ⟨by rfl, ?_⟩) ?_ ?_
                    rotate_left
                    · intro w'
                      go_simp
                      with_reducible rfl
                    rotate_left
                    · simp only [Act.put, List.setIfInBounds_toArray, List.set_cons_zero, List.set_cons_succ, i64_w, i32_w]
                      rfl
                    refine pure_ (i := 10) (N := some 43) (v := ?_) (a' := ?_) #[false, true, false, true, false, false, false, true, false, false, true, false, false] rfl rfl (any_of HT_.out (by kernel_rfl)) (fun _ _ _ h => h) (Or.inl ⟨by rfl, ?_⟩) ?_ ?_
                    rotate_left
                    · intro w'
                      go_simp
                      with_reducible rfl
                    rotate_left
                    · simp only [Act.put, List.setIfInBounds_toArray, List.set_cons_zero, List.set_cons_succ, i64_w, i32_w]
                      rfl
                    refine take_ (i := 0) (N := some 33) (v := ?_) (a' := ?_) #[true, true, false, true, false, false, false, true, false, false, true, false, false] rfl rfl (take_ofW HT_.out HW_.out (by kernel_rfl)) (fun _ _ _ h => h) (Or.inl ⟨by rfl, ?_⟩) hHeld ?_ ?_
                    rotate_left
                    · rintro w' ⟨s0, s1, s2, s3, s4, s5, s6⟩
                      go_simp
                      with_reducible rfl
                    rotate_left
                    · simp only [Act.put, List.setIfInBounds_toArray, List.set_cons_zero, List.set_cons_succ, i64_w, i32_w]
                      rfl
                    refine take_ (i := 2) (N := some 35) (v := ?_) (a' := ?_) #[true, true, true, true, false, false, false, true, false, false, true, false, false] rfl rfl (take_ofW HT_.out HW_.out (by kernel_rfl)) (fun _ _ _ h => h) (Or.inl ⟨by rfl, ?_⟩) hHeld ?_ ?_
                    rotate_left
                    · rintro w' ⟨s0, s1, s2, s3, s4, s5, s6⟩
                      go_simp
                      with_reducible rfl
                    rotate_left
                    · simp only [Act.put, List.setIfInBounds_toArray, List.set_cons_zero, List.set_cons_succ, i64_w, i32_w]
                      rfl
                    refine pure_ (i := 4) (N := some 37) (v := ?_) (a' := ?_) #[true, true, true, true, true, false, false, true, false, false, true, false, false] rfl rfl (any_of HT_.out (by kernel_rfl)) (fun _ _ _ h => h) (Or.inl ⟨by rfl, ?_⟩) ?_ ?_
                    rotate_left
                    · intro w'
                      go_simp
                      with_reducible rfl
                    rotate_left
                    · simp only [Act.put, List.setIfInBounds_toArray, List.set_cons_zero, List.set_cons_succ, i64_w, i32_w]
                      rfl
                    refine pure_ (i := 5) (N := some 38) (v := ?_) (a' := ?_) #[true, true, true, true, true, true, false, true, false, false, true, false, false] rfl rfl (any_of HT_.out (by kernel_rfl)) (fun _ _ _ h => h) (Or.inl ⟨by rfl, ?_⟩) ?_ ?_
                    rotate_left
                    · intro w'
                      go_simp
                      with_reducible rfl
                    rotate_left
                    · simp only [Act.put, List.setIfInBounds_toArray, List.set_cons_zero, List.set_cons_succ, i64_w, i32_w]
                      rfl
                    refine take_ (i := 6) (N := some 39) (v := ?_) (a' := ?_) #[true, true, true, true, true, true, true, true, false, false, true, false, false] rfl rfl (take_ofW HT_.out HW_.out (by kernel_rfl)) (fun _ _ _ h => h) (Or.inl ⟨by rfl, ?_⟩) hHeld ?_ ?_
                    rotate_left
                    · rintro w' ⟨s0, s1, s2, s3, s4, s5, s6⟩
                      go_simp
                      with_reducible rfl
                    rotate_left
                    · simp only [Act.put, List.setIfInBounds_toArray, List.set_cons_zero, List.set_cons_succ, i64_w, i32_w]
                      rfl
                    refine pure_ (i := 8) (N := some 41) (v := ?_) (a' := ?_) #[true, true, true, true, true, true, true, true, true, false, true, false, false] rfl rfl (any_of HT_.out (by kernel_rfl)) (fun _ _ _ h => h) (Or.inl ⟨by rfl, ?_⟩) ?_ ?_
                    rotate_left
                    · intro w'
                      go_simp
                      with_reducible rfl
                    rotate_left
                    · simp only [Act.put, List.setIfInBounds_toArray, List.set_cons_zero, List.set_cons_succ, i64_w, i32_w]
                      rfl
                    refine take_ (i := 9) (N := some 42) (v := ?_) (a' := ?_) #[true, true, true, true, true, true, true, true, true, true, true, false, false] rfl rfl (take_ofW HT_.out HW_.out (by kernel_rfl)) (fun _ _ _ h => h) (Or.inl ⟨by rfl, ?_⟩) hHeld ?_ ?_
                    rotate_left
                    · rintro w' ⟨s0, s1, s2, s3, s4, s5, s6⟩
                      go_simp
                      with_reducible rfl
                    rotate_left
                    · simp only [Act.put, List.setIfInBounds_toArray, List.set_cons_zero, List.set_cons_succ, i64_w, i32_w]
                      rfl
                    refine one_ (i := 11) (N := some 44) #[true, true, true, true, true, true, true, true, true, true, true, true, false] rfl rfl (one_of HT_.out (by kernel_rfl)) (by decide) (fun K hK => ?_)
                    refine goes_ Tryd.func72 (by kernel_rfl) rfl #[.agg #[.slice (some ad333) l0_0.length c0_0, .int .i64 a0_1], .int .i64 (rd ((rd_T52 l0_0 a1).f3) x8_2), .slice Ao15 x2_2.length co15] (by rfl) rfl rfl (by (try simp only [List.map_toArray, List.map_cons, List.map_nil]); first | done | rfl | (simp only [List.length_drop, List.length_take]; rfl)) ?_
                    with_reducible refine (ih k2 (by have := HK1.out; have := HK2.out; omega) _ _ l0_0 a0_1 (rd ((rd_T52 l0_0 a1).f3) x8_2) (fun k_ => ((P2_ k_ ∨ w.heap.size ≤ k_) ∧ k_ ≠ gb331)) _ _ x2_2 t336 _ ?side1 ?side2 ?side3 A12.out).mono ?_
                    (case side1 => repeat (first | exact (Kd.C_below HR0_0.out HB.out) | (with_reducible refine Kd.C_alloc ?_ _) | (with_reducible refine Kd.C_drewN ?_ _) | (with_reducible refine Kd.C_drew ?_)))
                    (case side2 => exact HC0_0.out)
                    (case side3 => exact HO_2.out)
                    rintro e w16 ⟨v337, rfl, ho0, hb⟩
                    refine ⟨_, rfl, ?_⟩
                    have n0_ := Aside0.mk (Kd.V_below (by (with_reducible repeat (first | apply Kd.V_alloc | apply Kd.V_drewN | apply Kd.V_drew)); exact HO_2.out) hb)
                    have n1_ := Aside0.mk (Kd.V_lower (Kd.V_mono (ok' := fun k_ => (P2_ k_ ∨ w.heap.size ≤ k_) ∧ k_ ≠ gb331) ho0 (fun k_ hk_ => ⟨Or.elim hk_ (fun hs_ => hs_.1) (fun hn_ => (.inr (Nat.le_trans (below_size (by repeat (first | (with_reducible first | exact HB.out | apply below_alloc | apply pw_below_drewN | apply below_drew1 | refine below_set ?_ GE331.out) | exact HB.out))) hn_))), Or.elim hk_ (fun hs_ => hs_.2) (fun hn_ => (Kd.freshB (g := gb331) (o := .cells #[.slice (some ad333) l0_0.length c0_0, .int .i64 a0_1] 34 (0, 0)) (by (with_reducible repeat (first | refine blk_drewN ?_ _ | refine blk_drew ?_ | refine blk_alloc ?_ _)); exact BK331.out) k_ hn_))⟩)) (below_size (by repeat (first | (with_reducible first | exact HB.out | apply below_alloc | apply pw_below_drewN | apply below_drew1 | refine below_set ?_ GE331.out) | exact HB.out))))
                    have n2_ := Aside0.mk (blk_below (g := gb331) (o := .cells #[.slice (some ad333) l0_0.length c0_0, .int .i64 a0_1] 34 (0, 0)) (by (with_reducible repeat (first | refine blk_drewN ?_ _ | refine blk_drew ?_ | refine blk_alloc ?_ _)); exact BK331.out) hb)
                    have n3_ := Aside0.mk (below_step (by repeat (first | (with_reducible first | exact HB.out | apply below_alloc | apply pw_below_drewN | apply below_drew1 | refine below_set ?_ GE331.out) | exact HB.out)) hb)
                    clear HO_2
                    clear BK331
                    clear HB
                    have HO_2 := n0_
                    have HO338 := n1_
                    have BK331 := n2_
                    have HB := n3_
                    clear n0_ n1_ n2_ n3_
                    (try clear hb)
                    (try clear hb2)
                    (try clear hk)
                    (try clear hi)
                    (try clear ho0)
                    refine hK.out _ _ ⟨(blk_cell BK331.out 0).trans rfl, (blk_cell BK331.out 1).trans rfl, ((HB.out.cell (World.block_lt_of_cell? w _ hw334_0)).trans hw334_0), ((HB.out.cell (World.block_lt_of_cell? w _ hw334_1)).trans hw334_1), ((HB.out.cell (World.block_lt_of_cell? w _ hw334_2)).trans hw334_2), ((HB.out.cell (World.block_lt_of_cell? w _ hw334_3)).trans hw334_3), ((HB.out.cell (World.block_lt_of_cell? w _ hw335_0)).trans hw335_0)⟩ (fun hHeld => ?_)
                    clear hK K
                    refine norm_ (a' := ?_) ?_ ?_
                    rotate_left
                    · show Act.put _ (some 44) _ = _
                      simp only [Act.put, List.setIfInBounds_toArray, List.set_cons_zero, List.set_cons_succ, i64_w, i32_w]
                      rfl
                    refine pure_ (i := 12) (N := some 2) (v := ?_) (a' := ?_) #[true, true, true, true, true, true, true, true, true, true, true, true, true] rfl rfl (any_of HT_.out (by kernel_rfl)) (fun _ _ _ h => h) (Or.inl ⟨by rfl, ?_⟩) ?_ ?_
                    rotate_left
                    · intro w'
                      go_simp
                      with_reducible rfl
                    rotate_left
                    · simp only [Act.put, List.setIfInBounds_toArray, List.set_cons_zero, List.set_cons_succ, i64_w, i32_w]
                      rfl
                    refine done_ (done_of HT_.out (by kernel_rfl)) ?_
                    try go_wp2
                    go_roundg k2
                    case measure => have := HK1.out; have := HK2.out; omega
                    case rel => exact ⟨(t336), (wrap64 (x8_2 + 1)), (by first | rfl | (simp; done) | (simp [*]; done)), H', ⟨by have := HK1.out; have := HK2.out; omega⟩, ⟨by (with_reducible repeat (first | apply Kd.V_alloc | apply Kd.V_drewN | apply Kd.V_drew)); exact HO338.out⟩, ⟨by (with_reducible repeat (first | refine blk_drewN ?_ _ | refine blk_drew ?_ | refine blk_alloc ?_ _)); exact BK331.out⟩, ⟨by repeat (first | (with_reducible first | exact HB.out | apply below_alloc | apply pw_below_drewN | apply below_drew1 | refine below_set ?_ GE331.out) | exact HB.out)⟩⟩
                  · rw [if_neg c11] at H
                    exact absurd H (by simp)
                · rw [if_neg c10] at H
                  have c10b0 : decide (x8_2 < (((rd_T52 l0_0 a1).f3).length : Int)) = false := decide_eq_false c10
                  clear c10
                  obtain ⟨y339, hy339⟩ : ∃ y_ : List Int, y_ = (([] : List Int)) := ⟨_, rfl⟩
                  replace H : (if y339.length + x2_2.length < 17592186044416 then ((some (y339 ++ x2_2 : List Int)).bind fun y342 => (if y342.length < 17592186044416 then (some (y342 ++ [a1])) else (none))) else (none)) = some r := by first | (rw [hy339]; with_reducible exact H) | (have H2_ := (Option.bind_some _ _).symm.trans H; rw [hy339]; with_reducible exact H2_) | (have H2_ := (Option.bind_some _ _).symm.trans H; with_reducible exact H2_) | with_reducible exact H | (rw [hy339]; exact H) | exact H
                  have Ny339 := Aside0.mk hy339
                  clear hy339
                  by_cases c17 : y339.length + x2_2.length < 17592186044416
                  · rw [if_pos c17] at H
                    have LMc17 := Aside0.mk c17
                    clear c17
                    obtain ⟨y342, hy342⟩ : ∃ y_ : List Int, y_ = (y339 ++ x2_2) := ⟨_, rfl⟩
                    replace H : (if y342.length < 17592186044416 then (some (y342 ++ [a1])) else (none)) = some r := by first | (rw [hy342]; with_reducible exact H) | (have H2_ := (Option.bind_some _ _).symm.trans H; rw [hy342]; with_reducible exact H2_) | (have H2_ := (Option.bind_some _ _).symm.trans H; with_reducible exact H2_) | with_reducible exact H | (rw [hy342]; exact H) | exact H
                    have Ny342 := Aside0.mk hy342
                    clear hy342
                    by_cases c18 : y342.length < 17592186044416
                    · rw [if_pos c18] at H
                      have LMc18 := Aside0.mk c18
                      clear c18
                      obtain ⟨y345, hy345⟩ : ∃ y_ : List Int, y_ = (y342 ++ [a1]) := ⟨_, rfl⟩
                      replace H : (some y345) = some r := by first | (rw [hy345]; with_reducible exact H) | (have H2_ := (Option.bind_some _ _).symm.trans H; rw [hy345]; with_reducible exact H2_) | (have H2_ := (Option.bind_some _ _).symm.trans H; with_reducible exact H2_) | with_reducible exact H | (rw [hy345]; exact H) | exact H
                      have Ny345 := Aside0.mk hy345
                      clear hy345
                      obtain rfl := Option.some.inj H
                      have hcz19_0 : wr.cell? ⟨gb331, 0, none⟩ = some (.slice A0_0 l0_0.length c0_0) := (blk_cell BK331.out 0).trans rfl
                      have hcz19_1 : wr.cell? ⟨gb331, 1, none⟩ = some (.int .i64 a0_1) := (blk_cell BK331.out 1).trans rfl
                      have hfz19_0 := blk_frozen BK331.out 0
                      have hfz19_1 := blk_frozen BK331.out 1
                      have p333 : 0 ≤ (a1 : Int) := of_decide_eq_true (by first | (with_reducible assumption) | assumption)
                      have q333 : a1 < (l0_0.length : Int) := of_decide_eq_true (by first | (with_reducible assumption) | assumption)
                      obtain ⟨ad333, A333_1, c333_1, A333_2, c333_2, A333_3, c333_3, e333, hx333_0, hx333_1, hx333_2, hx333_3, hl333_1, hi333_1, hl333_2, hi333_2, hl333_3, hi333_3⟩ := at_T52 HR0_0.out a1 p333 q333
                      cases e333
                      replace hx333_0 := (HB.out.cell (World.block_lt_of_cell? w _ hx333_0)).trans hx333_0
                      replace hx333_1 := (HB.out.cell (World.block_lt_of_cell? w _ hx333_1)).trans hx333_1
                      replace hx333_2 := (HB.out.cell (World.block_lt_of_cell? w _ hx333_2)).trans hx333_2
                      replace hx333_3 := (HB.out.cell (World.block_lt_of_cell? w _ hx333_3)).trans hx333_3
                      have HR333_1 := Aside0.mk hi333_1
                      have HC333_1 := Aside0.mk hl333_1
                      clear hi333_1 hl333_1
                      have HR333_2 := Aside0.mk hi333_2
                      have HC333_2 := Aside0.mk hl333_2
                      clear hi333_2 hl333_2
                      have HR333_3 := Aside0.mk hi333_3
                      have HC333_3 := Aside0.mk hl333_3
                      clear hi333_3 hl333_3
                      replace p333 := eq_true p333
                      replace q333 := eq_true q333
                      go_wp2_with (first | ((with_reducible refine gate_dst (N := 45) rfl ?_); refine Kd.R_lit (Kd.int .i64) _ 3 ?hg (N := 45) ?hd (xs := ([] : List Int)) (inner := []) (ok := fun _ => True) (okp := fun _ => True) ?hr ?hp (fun _ hk => hk) trivial (Below.refl _ _) (Nat.le_refl _) (by simp) ?_; (case hd => rfl); (case hg => rfl); (case hr => first | (go_simp; done) | (go_simp; rfl)); (case hp => exact (Reps.none _ _)); intro v340 w20 ho21 hb hg_ hnew_; clear hg_ hnew_; (first | rw [← Ny339.out] at ho21 | (simp only [Int.reduceToNat] at ho21; rw [← Ny339.out] at ho21)); have n0_ := Aside0.mk (Kd.V_elder' (by (with_reducible repeat (first | apply Kd.V_alloc | apply Kd.V_drewN | apply Kd.V_drew)); exact HO_2.out) (Kd.R_base ho21) hb); have n1_ := Aside0.mk (Kd.R_lower (Kd.R_newM (M := fun k_ => (w.heap.size ≤ k_)) ho21 (below_size (by repeat (first | (with_reducible first | exact HB.out | apply below_alloc | apply pw_below_drewN | apply below_drew1 | refine below_set ?_ GE331.out) | exact HB.out))) (fun k_ h_ => h_)) (below_size (by repeat (first | (with_reducible first | exact HB.out | apply below_alloc | apply pw_below_drewN | apply below_drew1 | refine below_set ?_ GE331.out) | exact HB.out)))); have n2_ := Aside0.mk (blk_below (g := gb331) (o := .cells #[.slice (some ad333) l0_0.length c0_0, .int .i64 a0_1] 34 (0, 0)) (by (with_reducible repeat (first | refine blk_drewN ?_ _ | refine blk_drew ?_ | refine blk_alloc ?_ _)); exact BK331.out) hb); have n3_ := Aside0.mk (below_step (by repeat (first | (with_reducible first | exact HB.out | apply below_alloc | apply pw_below_drewN | apply below_drew1 | refine below_set ?_ GE331.out) | exact HB.out)) hb); clear HO_2; clear BK331; clear HB; have HO_2 := n0_; have HO341 := n1_; have BK331 := n2_; have HB := n3_; clear n0_ n1_ n2_ n3_; clear hb ho21; obtain ⟨Ao23, co23, eo23⟩ := Kd.V_slice HO_2.out; subst eo23) | ((with_reducible refine gate_builtin (b := .append) (xs := #[.tmp 45, .tmp 46]) rfl ?_); at_builtin; refine Kd.R_append_rows (Kd.int .i64) (w0 := w) w.heap.size rfl (.tmp 45) (.tmp 46) 31 3 (.int .i64 0) 8 rfl Tryd.underlying31 info3 rfl (by decide) (by omega) v340 y339 x2_2 _ _ _ (fun k_ => (w.heap.size ≤ k_)) (fun _ => False) rfl rfl ?aO ?aR (fun _ _ h => h) (fun _ h => h.elim) ?aF ?aB ?aS ?aL ?_; (case aR => repeat (first | exact (Kd.V_reads' HO_2.out).2.2 | (with_reducible refine Kd.C_alloc ?_ _) | (with_reducible refine Kd.C_drewN ?_ _) | (with_reducible refine Kd.C_drew ?_))); (case aB => exact (by repeat (first | (with_reducible first | exact HB.out | apply below_alloc | apply pw_below_drewN | apply below_drew1 | refine below_set ?_ GE331.out) | exact HB.out))); (case aF => exact (fun k_ hk => (Nat.le_trans (below_size (by repeat (first | (with_reducible first | exact HB.out | apply below_alloc | apply pw_below_drewN | apply below_drew1 | refine below_set ?_ GE331.out) | exact HB.out))) hk))); (case aO => exact (by (with_reducible repeat (first | apply Kd.R_alloc | apply Kd.R_drewN | apply Kd.R_drew)); exact Kd.R_mono HO341.out (fun _ hk => hk.1))); (case aS => exact (below_size (by repeat (first | (with_reducible first | exact HB.out | apply below_alloc | apply pw_below_drewN | apply below_drew1 | refine below_set ?_ GE331.out) | exact HB.out)))); (case aL => have := LMc17.out; omega); intro v343 w22 ho hb hg hat; rw [← Ny342.out] at ho; have n0_ := Aside0.mk (Kd.V_afterv (ok := (fun k_ => (P2_ k_ ∨ w.heap.size ≤ k_) ∧ k_ ≠ gb331)) (by (with_reducible repeat (first | apply Kd.V_alloc | apply Kd.V_drewN | apply Kd.V_drew)); exact HO_2.out) hg hat); have n1_ := Aside0.mk (blk_grown (g := gb331) (o := .cells #[.slice (some ad333) l0_0.length c0_0, .int .i64 a0_1] 34 (0, 0)) (by (with_reducible repeat (first | refine blk_drewN ?_ _ | refine blk_drew ?_ | refine blk_alloc ?_ _)); exact BK331.out) hg (Kd.R_ne HO341.out BK331.out (by decide))); have n2_ := Aside0.mk (hb); have n3_ := Aside0.mk (ho); clear HO_2; clear BK331; clear HB; clear HO341; have HO_2 := n0_; have BK331 := n1_; have HB := n2_; have HO344 := n3_; clear n0_ n1_ n2_ n3_; clear ho hb hg hat) | ((with_reducible refine gate_builtin (b := .append) (xs := #[.tmp 47, .tmp 49]) rfl ?_); at_builtin; refine Kd.R_append (Kd.int .i64) (w0 := w) w.heap.size rfl (.tmp 47) (.tmp 49) 31 3 (.int .i64 0) 8 rfl Tryd.underlying31 info3 rfl (by decide) (by omega) v343 y342 a1 [.int .i64 a1] (fun k_ => (w.heap.size ≤ k_)) (fun _ => False) rfl rfl ?aP (fun _ hk => hk.elim) ?aF ?aO ?aB ?aS ?aL ?_; (case aP => exact rfl); (case aB => exact (by repeat (first | (with_reducible first | exact HB.out | apply below_alloc | apply pw_below_drewN | apply below_drew1 | refine below_set ?_ GE331.out) | exact HB.out))); (case aF => exact (fun k_ hk => (Nat.le_trans (below_size (by repeat (first | (with_reducible first | exact HB.out | apply below_alloc | apply pw_below_drewN | apply below_drew1 | refine below_set ?_ GE331.out) | exact HB.out))) hk))); (case aO => exact (by (with_reducible repeat (first | apply Kd.R_alloc | apply Kd.R_drewN | apply Kd.R_drew)); exact HO344.out)); (case aS => exact (below_size (by repeat (first | (with_reducible first | exact HB.out | apply below_alloc | apply pw_below_drewN | apply below_drew1 | refine below_set ?_ GE331.out) | exact HB.out)))); (case aL => have := LMc18.out; omega); intro v346 w24 ho hb hg hat; rw [← Ny345.out] at ho; have n0_ := Aside0.mk (Kd.V_afterv (ok := (fun k_ => (P2_ k_ ∨ w.heap.size ≤ k_) ∧ k_ ≠ gb331)) (by (with_reducible repeat (first | apply Kd.V_alloc | apply Kd.V_drewN | apply Kd.V_drew)); exact HO_2.out) hg hat); have n1_ := Aside0.mk (blk_grown (g := gb331) (o := .cells #[.slice (some ad333) l0_0.length c0_0, .int .i64 a0_1] 34 (0, 0)) (by (with_reducible repeat (first | refine blk_drewN ?_ _ | refine blk_drew ?_ | refine blk_alloc ?_ _)); exact BK331.out) hg (Kd.R_ne HO344.out BK331.out (by decide))); have n2_ := Aside0.mk (hb); have n3_ := Aside0.mk (ho); clear HO_2; clear BK331; clear HB; clear HO344; have HO_2 := n0_; have BK331 := n1_; have HB := n2_; have HO347 := n3_; clear n0_ n1_ n2_ n3_; clear ho hb hg hat))
                      go_ret
                      exact ⟨_, by first | rfl | (simp [errW_none, errW_some] <;> rfl) | (simp [*, errW_none, errW_some] <;> rfl), Kd.V_mono (Kd.R_V (by (with_reducible repeat (first | apply Kd.R_alloc | apply Kd.R_drewN | apply Kd.R_drew)); exact HO347.out)) (fun k_ hk => by first | exact ⟨(.inr (hk.1)), hk.2⟩ | exact (.inr (hk))), by repeat (first | (with_reducible first | exact HB.out | apply below_alloc | apply pw_below_drewN | apply below_drew1 | refine below_set ?_ GE331.out) | exact HB.out)⟩
                    · rw [if_neg c18] at H
                      exact absurd H (by simp)
                  · rw [if_neg c17] at H
                    exact absurd H (by simp)
              · rw [if_neg c9] at H
                exact absurd H (by simp)
            · rw [if_neg c8] at H
              exact absurd H (by simp)

def dioramaref10_Order.f (k : Nat) (l0_0 : List (S52)) (a0_1 : Int) : Option (List Int) := (dioramaref10_meet.f k l0_0 a0_1 a0_1 ([] : List Int)).bind fun t349 => (some t349)
set_option maxHeartbeats 8000000 in
set_option maxRecDepth 100000 in
theorem dioramaref10_Order.calls (k : Nat) (A0_0 : Option Addr) (c0_0 : Nat) (l0_0 : List (S52)) (a0_1 : Int) (r : List Int) (w : World) (hr0_0 : Kd.C k52 w A0_0 l0_0.length l0_0) (hc0_0 : l0_0.length ≤ c0_0) (h : dioramaref10_Order.f k l0_0 a0_1 = some r) :
    Calls Tryd.prog 56 #[.agg #[.slice A0_0 l0_0.length c0_0, .int .i64 a0_1]] w fun e w' => ∃ v0_ : Value, e = .returned (v0_) ∧ Kd.V (Kd.int .i64) 3 w' w.heap.size (fun k_ => (w.heap.size ≤ k_)) v0_ r ∧ Below w.heap.size w w' := by
  have hu34 := Tryd.underlying34
  have HR0_0 := Aside0.mk hr0_0
  have HC0_0 := Aside0.mk hc0_0
  clear hr0_0 hc0_0
  have HB := Aside0.mk (Below.refl w.heap.size w)
  have H : ((dioramaref10_meet.f k l0_0 a0_1 a0_1 ([] : List Int)).bind fun t349 => (some t349)) = some r := h
  clear h
  replace H := Option.bind_eq_some_iff.mp H
  obtain ⟨t349, A20, H⟩ := H
  replace H : (some t349) = some r := H
  have A2 := Aside0.mk A20
  clear A20
  obtain rfl := Option.some.inj H
  go_enter Tryd.func56, Tryd.ntmps56
  go_wp2_with (first | ((with_reducible refine gate_dst (N := 1) rfl ?_); refine box_event ?hg (N := 1) ?hd (cs := #[.slice A0_0 l0_0.length c0_0, .int .i64 a0_1]) (t := 34) ?hr ?_; (case hd => rfl); (case hg => rfl); (case hr => first | (go_simp; done) | (go_simp; rfl)); intro gb348 hg w3 hbox hb; have n0_ := Aside0.mk (below_step (by repeat (first | (with_reducible first | exact HB.out | apply below_alloc | apply pw_below_drewN | apply below_drew1) | exact HB.out)) hb); have n1_ := Aside0.mk (hbox); have n2_ := Aside0.mk ((by rw [hg]; exact (below_size (by repeat (first | (with_reducible first | exact HB.out | apply below_alloc | apply pw_below_drewN | apply below_drew1) | exact HB.out))) : w.heap.size ≤ gb348)); have n3_ := Aside0.mk ((by rw [hg]; exact (below_size (by repeat (first | (with_reducible first | exact HB.out | apply below_alloc | apply pw_below_drewN | apply below_drew1) | exact HB.out))) : w.heap.size ≤ gb348)); clear HB; have HB := n0_; have BK348 := n1_; have GW348 := n2_; have GE348 := n3_; clear n0_ n1_ n2_ n3_; clear hb hbox hg; have hcz4_0 : w3.cell? ⟨gb348, 0, none⟩ = some (.slice A0_0 l0_0.length c0_0) := (blk_cell BK348.out 0).trans rfl; have hcz4_1 : w3.cell? ⟨gb348, 1, none⟩ = some (.int .i64 a0_1) := (blk_cell BK348.out 1).trans rfl; have hfz4_0 := blk_frozen BK348.out 0; have hfz4_1 := blk_frozen BK348.out 1) | ((with_reducible refine gate_callee (f := 72) rfl ?_); refine goesL_ (some 6) rfl rfl Tryd.func72 (by kernel_rfl) rfl #[.agg #[.slice A0_0 l0_0.length c0_0, .int .i64 a0_1], .int .i64 a0_1, .slice none 0 0] rfl (by (try simp only [List.map_toArray, List.map_cons, List.map_nil]); first | done | rfl | (simp only [List.length_drop, List.length_take]; rfl)) ?_; (refine (dioramaref10_meet.calls k _ _ l0_0 a0_1 a0_1 (fun k_ => False) _ _ ([] : List Int) t349 _ ?side1 ?side2 ?side3 A2.out).mono ?_); (case side1 => repeat (first | exact (Kd.C_below HR0_0.out HB.out) | (with_reducible refine Kd.C_alloc ?_ _) | (with_reducible refine Kd.C_drewN ?_ _) | (with_reducible refine Kd.C_drew ?_))); (case side2 => exact HC0_0.out); (case side3 => exact Kd.V_nil _ _ _ _ _); rintro e w5 ⟨v350, rfl, ho0, hb⟩; refine ⟨_, rfl, ?_⟩; have n0_ := Aside0.mk (Kd.V_lower (Kd.V_mono (ok' := fun k_ => (w.heap.size ≤ k_) ∧ k_ ≠ gb348) ho0 (fun k_ hk_ => ⟨Or.elim hk_ (fun hs_ => (hs_).elim) (fun hn_ => (Nat.le_trans (below_size (by repeat (first | (with_reducible first | exact HB.out | apply below_alloc | apply pw_below_drewN | apply below_drew1 | refine below_set ?_ GE348.out) | exact HB.out))) hn_)), Or.elim hk_ (fun hs_ => (hs_).elim) (fun hn_ => (Kd.freshB (g := gb348) (o := .cells #[.slice A0_0 l0_0.length c0_0, .int .i64 a0_1] 34 (0, 0)) (by (with_reducible repeat (first | refine blk_drewN ?_ _ | refine blk_drew ?_ | refine blk_alloc ?_ _)); exact BK348.out) k_ hn_))⟩)) (below_size (by repeat (first | (with_reducible first | exact HB.out | apply below_alloc | apply pw_below_drewN | apply below_drew1 | refine below_set ?_ GE348.out) | exact HB.out)))); have n1_ := Aside0.mk (blk_below (g := gb348) (o := .cells #[.slice A0_0 l0_0.length c0_0, .int .i64 a0_1] 34 (0, 0)) (by (with_reducible repeat (first | refine blk_drewN ?_ _ | refine blk_drew ?_ | refine blk_alloc ?_ _)); exact BK348.out) hb); have n2_ := Aside0.mk (below_step (by repeat (first | (with_reducible first | exact HB.out | apply below_alloc | apply pw_below_drewN | apply below_drew1 | refine below_set ?_ GE348.out) | exact HB.out)) hb); clear BK348; clear HB; have HO351 := n0_; have BK348 := n1_; have HB := n2_; clear n0_ n1_ n2_; (try clear hb); (try clear hb2); (try clear hk); (try clear hi); (try clear ho0)))
  go_ret
  exact ⟨_, by first | rfl | (simp [errW_none, errW_some] <;> rfl) | (simp [*, errW_none, errW_some] <;> rfl), by (with_reducible repeat (first | apply Kd.V_alloc | apply Kd.V_drewN | apply Kd.V_drew)); exact Kd.V_mono HO351.out (fun _ hk => hk.1), by repeat (first | (with_reducible first | exact HB.out | apply below_alloc | apply pw_below_drewN | apply below_drew1 | refine below_set ?_ GE348.out) | exact HB.out)⟩

def dioramaref10_Find.l0 : Nat → List Int → Int → Int → Option (Int)
  | 0, _, _, _ => none
  | k + 1, x0, x1, x5 => if x5 < (x0.length : Int) then (if 0 ≤ x5 then (if (rd x0 x5) = x1 then (some x5) else (dioramaref10_Find.l0 k x0 x1 (wrap64 (x5 + 1)))) else (none)) else (some (-1))
def dioramaref10_Find.f (k : Nat) (l0 : List Int) (a1 : Int) : Option (Int) := dioramaref10_Find.l0 k l0 a1 0
set_option maxHeartbeats 8000000 in
set_option maxRecDepth 100000 in
theorem dioramaref10_Find.calls (k : Nat) (A0 : Option Addr) (c0 : Nat) (l0 : List Int) (a1 : Int) (r : Int) (w : World) (hr0 : Kd.C (Kd.int .i64) w A0 l0.length l0) (hc0 : l0.length ≤ c0) (h : dioramaref10_Find.f k l0 a1 = some r) :
    Calls Tryd.prog 57 #[.slice A0 l0.length c0, .int .i64 a1] w fun e w' => e = .returned (.int .i64 r) ∧ Drawn0 w w' := by
  have HR0 := Aside0.mk hr0
  have HC0 := Aside0.mk hc0
  clear hr0 hc0
  have H : (dioramaref10_Find.l0 k l0 a1 0) = some r := h
  clear h
  have H' := Aside0.mk H
  clear H
  go_enter Tryd.func57, Tryd.ntmps57
  go_wp2
  go_loopg [5] k (fun kq v5 w' => ∃ (x5_1 : Int), v5 = .int .i64 x5_1 ∧ Aside0 (dioramaref10_Find.l0 kq l0 a1 x5_1 = some r) ∧ Aside0 (kq ≤ k) ∧ Drawn0 w w')
  case atStart => exact ⟨(0), (by first | rfl | (simp; done) | (simp [*]; done)), H', ⟨Nat.le_refl _⟩, by repeat (first | exact Drawn0.refl _ | apply Drawn0.step)⟩
  case round =>
    clear H'
    try clear p2
    obtain ⟨x5_1, rfl, HA, HK1, ⟨m1, rfl⟩⟩ := hrel
    cases gk with
    | zero => exact absurd HA.out (by simp [dioramaref10_Find.l0])
    | succ k1 =>
      have H := HA.out
      clear HA
      simp only [dioramaref10_Find.l0] at H
      by_cases c3 : x5_1 < (l0.length : Int)
      · rw [if_pos c3] at H
        have c3b0 : decide (x5_1 < (l0.length : Int)) = true := decide_eq_true c3
        clear c3
        by_cases c4 : 0 ≤ x5_1
        · rw [if_pos c4] at H
          have c4b0 : decide (0 ≤ x5_1) = true := decide_eq_true c4
          clear c4
          by_cases c5 : (rd l0 x5_1) = a1
          · rw [if_pos c5] at H
            have c5b0 : ((rd l0 x5_1) == a1) = true := beq_iff_eq.mpr c5
            have c5b1 : ((rd l0 x5_1) != a1) = false := bne_eq_false_iff_eq.mpr c5
            clear c5
            obtain rfl := Option.some.inj H
            have p352 : 0 ≤ (x5_1 : Int) := of_decide_eq_true (by first | (with_reducible assumption) | assumption)
            have q352 : x5_1 < (l0.length : Int) := of_decide_eq_true (by first | (with_reducible assumption) | assumption)
            obtain ⟨ad352, e352, hx352_0⟩ := Kd.at_int HR0.out x5_1 p352 q352
            cases e352
            replace p352 := eq_true p352
            replace q352 := eq_true q352
            go_wp2
            go_ret
            exact ⟨by first | rfl | (simp; done) | (simp [*]; done), by repeat (first | exact Drawn0.refl _ | apply Drawn0.step)⟩
          · rw [if_neg c5] at H
            have c5b0 : ((rd l0 x5_1) == a1) = false := beq_eq_false_iff_ne.mpr c5
            have c5b1 : ((rd l0 x5_1) != a1) = true := bne_iff_ne.mpr c5
            have H' := Aside0.mk H
            clear H
            have p352 : 0 ≤ (x5_1 : Int) := of_decide_eq_true (by first | (with_reducible assumption) | assumption)
            have q352 : x5_1 < (l0.length : Int) := of_decide_eq_true (by first | (with_reducible assumption) | assumption)
            obtain ⟨ad352, e352, hx352_0⟩ := Kd.at_int HR0.out x5_1 p352 q352
            cases e352
            replace p352 := eq_true p352
            replace q352 := eq_true q352
            go_wp2
            go_roundg k1
            case measure => have := HK1.out; omega
            case rel => exact ⟨(wrap64 (x5_1 + 1)), (by first | rfl | (simp; done) | (simp [*]; done)), H', ⟨by have := HK1.out; omega⟩, by repeat (first | exact Drawn0.refl _ | apply Drawn0.step)⟩
        · rw [if_neg c4] at H
          exact absurd H (by simp)
      · rw [if_neg c3] at H
        have c3b0 : decide (x5_1 < (l0.length : Int)) = false := decide_eq_false c3
        clear c3
        obtain rfl := Option.some.inj H
        go_wp2
        go_ret
        exact ⟨by first | rfl | (simp; done) | (simp [*]; done), by repeat (first | exact Drawn0.refl _ | apply Drawn0.step)⟩

end Go.Proofs.YtdfneldenipljaaDoor.PClassNumbers
end
section
namespace Go.Proofs.YtdfneldenipljaaDoor.L
open Go.RowKit Go.ChangeShapes Go.WideShapes Go.Proofs.YtdfneldenipljaaDoorW.PrintWords Go.Proofs.YtdfneldenipljaaDoorW.PrintLast Go.Proofs.YtdfneldenipljaaDoorW.PrintMore
attribute [local go_sem] max2_int min2_int max_two min_two max_three min_three max_four min_four
open Go.Proofs.YtdfneldenipljaaDoor.PClassNumbers
def findI (l : List Int) (a : Int) : Int := if a ∈ l then (l.idxOf a : Int) else -1
theorem find_l0 (l : List Int) (a : Int) (hl : l.length ≤ 1000000) : ∀ (m i : Nat), l.length ≤ i + m → i ≤ l.length → (∀ j : Nat, j < i → ¬ rd l (j : Int) = a) → dioramaref10_Find.l0 (m + 1) l a (i : Int) = some (findI l a)
  | 0, i, h1, h2, h3 => by
    rw [dioramaref10_Find.l0, if_neg (by omega)]
    have : ¬ a ∈ l := fun hm => by
      obtain ⟨j, hj⟩ := List.getElem?_of_mem hm
      have hjl := (List.getElem?_eq_some_iff.1 hj).1
      refine h3 j (by omega) ?_
      unfold rd
      rw [Int.toNat_natCast, List.getD_eq_getElem?_getD, hj]; rfl
    unfold findI
    rw [if_neg this]
  | m + 1, i, h1, h2, h3 => by
    by_cases hi : i < l.length
    · rw [dioramaref10_Find.l0, if_pos (by omega), if_pos (Int.natCast_nonneg i)]
      by_cases he : rd l (i : Int) = a
      · rw [if_pos he]
        have hg : l[i] = a := by rw [← he, rd_eq hi]
        have hm : a ∈ l := by rw [← hg]; exact List.getElem_mem hi
        unfold findI
        rw [if_pos hm]
        have h4 : l.idxOf a ≤ i := by
          refine Nat.le_of_not_lt (fun hlt => ?_)
          have := List.not_of_lt_findIdx (p := fun x => x == a) (xs := l) hlt
          simp [hg] at this
        have h5 : l.idxOf a = i := by
          refine Nat.le_antisymm h4 (Nat.le_of_not_lt (fun hlt => ?_))
          have h6 : l.idxOf a < l.length := by omega
          refine h3 _ hlt ?_
          rw [rd_eq h6]
          exact List.getElem_idxOf h6
        rw [h5]
      · rw [if_neg he, wrap64_in ((i : Int) + 1) (by omega), show (i : Int) + 1 = ((i + 1 : Nat) : Int) from rfl]
        exact find_l0 l a hl m (i + 1) (by omega) (by omega) (ext_lt (P := fun j : Nat => ¬ rd l (j : Int) = a) h3 he)
    · have := find_l0 l a hl m i (by omega) h2 h3
      rw [dioramaref10_Find.l0, if_neg (by omega)]
      rw [dioramaref10_Find.l0.eq_def] at this
      cases m with
      | zero => simpa [show ¬ ((i : Int) < (l.length : Int)) by omega] using this
      | succ m => simpa [show ¬ ((i : Int) < (l.length : Int)) by omega] using this
theorem find_C (A : Option Addr) (c : Nat) (l : List Int) (a : Int) (w : World) (h : (Kd.int .i64).C w A l.length l) (hc : l.length ≤ c) (hl : l.length ≤ 1000000) :
    Calls Tryd.prog 57 #[.slice A l.length c, .int .i64 a] w fun e w' => e = .returned (.int .i64 (findI l a)) ∧ Drawn0 w w' :=
  dioramaref10_Find.calls (l.length + 1) A c l a (findI l a) w h hc (by
    unfold dioramaref10_Find.f
    exact find_l0 l a hl l.length 0 (by omega) (by omega) (fun j hj => by omega))
def refN (ns : List Node) (l : List Int) (a : Int) : Node := ⟨(nd ns a.toNat).kind, (nd ns a.toNat).ints, (nd ns a.toNat).texts, (nd ns a.toNat).kids.map (findI l)⟩
def refCanL (ns : List Node) (l : List Int) : List Node := l.map (refN ns l)
def SceneRPost (t : Scene) (w : World) (e : Ending) (w' : World) : Prop := ∃ A c, e = .returned (.agg #[.slice A t.nodes.length c, .int .i64 t.root]) ∧ kNode.R 52 w' w.heap.size (fun _ => True) (.slice A t.nodes.length c) t.nodes ∧ Below w.heap.size w w'
structure KidB (f : Int → Int) (n : Node) (v1 v2 v3 : Value) (j g : Nat) (W0 W : World) : Prop where
  below : Below W0.heap.size W0 W
  gb : W0.heap.size ≤ g
  box : W.heap[g]? = some (.cells #[.int .i64 n.kind, v1, v2, v3] 52 (0, 0))
  r1 : (Kd.int .i64).R 2 W W0.heap.size (fun _ => True) v1 n.ints
  r2 : Kd.string.R 9 W W0.heap.size (fun _ => True) v2 n.texts
  r3 : (Kd.int .i64).R 3 W W0.heap.size (fun _ => True) v3 (mapTake f n.kids j)
theorem KidB.drewN {f : Int → Int} {n : Node} {v1 v2 v3 : Value} {j g : Nat} {W0 W : World} (h : KidB f n v1 v2 v3 j g W0 W) (m : Nat) : KidB f n v1 v2 v3 j g W0 (W.drewN m) :=
  ⟨pw_below_drewN h.below m, h.gb, h.box, Kd.R_drewN h.r1 m, Kd.R_drewN h.r2 m, Kd.R_drewN h.r3 m⟩
theorem KidB.set {f : Int → Int} {n : Node} {v1 v2 : Value} {g' g c m : Nat} {j : Nat} {W0 W : World} (h : KidB f n v1 v2 (.slice (some ⟨g, 0, none⟩) m c) j g' W0 W) (hj : j < n.kids.length) :
    W.cell? ⟨g, j, none⟩ = some (.int .i64 (rd n.kids (j : Int))) ∧ W.frozen? ⟨g, j, none⟩ = false ∧ g ≠ g' ∧ KidB f n v1 v2 (.slice (some ⟨g, 0, none⟩) m c) (j + 1) g' W0 (W.setCell ⟨g, j, none⟩ (.int .i64 (f (rd n.kids (j : Int))))) := by
  have hm := (Kd.R_reads' h.r3).1
  rw [mapTake_len] at hm
  obtain ⟨c1, c2⟩ := ints_cell h.r3 j (by omega)
  obtain ⟨s1, s2, s3⟩ := ints_store h.r3 j (by omega) (f (rd n.kids (j : Int)))
  rw [mapTake_rd f _ _ hj] at c1
  rw [mapTake_set f _ _ hj] at s1
  obtain ⟨cells, hc⟩ := Kd.R_typed h.r3 g rfl
  have hne : g ≠ g' := fun e => by
    rw [e, h.box] at hc
    cases hc
  refine ⟨c1, c2, hne, below_set h.below s3, h.gb, blk_grown h.box s2 (fun e => ?_), Kd.R_grown1 h.r1 rfl s2 (Kd.R_ne h.r1 hc (by decide)), Kd.R_grown1 h.r2 rfl s2 (Kd.R_ne h.r2 hc (by decide)), s1⟩
  injection e with e
  exact hne e.symm
theorem KidB.drew {f : Int → Int} {n : Node} {v1 v2 v3 : Value} {j g : Nat} {W0 W : World} (h : KidB f n v1 v2 v3 j g W0 W) : KidB f n v1 v2 v3 j g W0 W.drew := h.drewN 1
end Go.Proofs.YtdfneldenipljaaDoor.L
end
section
namespace Go.Proofs.YtdfneldenipljaaDoor.L
open Go.RowKit Go.ChangeShapes Go.WideShapes Go.Proofs.YtdfneldenipljaaDoorW.PrintWords Go.Proofs.YtdfneldenipljaaDoorW.PrintLast Go.Proofs.YtdfneldenipljaaDoorW.PrintMore
attribute [local go_sem] max2_int min2_int max_two min_two max_three min_three max_four min_four
abbrev Hd3 := Option Addr × Nat × Nat
def hdV (p : Hd3) : Value := .slice p.1 p.2.1 p.2.2
def kRaw : Kd Hd3 := Kd.scalar hdV (fun _ => rfl)
def hdZ : Hd3 := (none, 0, 0)
def hdA (L : List Hd3) (k : Nat) : Value := hdV (L.getD k hdZ)
theorem raw_cell {W : World} {base g n cap e : Nat} {ok : Nat → Prop} {xs : List Hd3} (h : kRaw.R e W base ok (.slice (some ⟨g, 0, none⟩) n cap) xs) (i : Nat) (hi : i < n) : W.cell? ⟨g, i, none⟩ = some (hdA xs i) ∧ W.frozen? ⟨g, i, none⟩ = false := by
  obtain ⟨c, hcl, hM, hcc, hfr⟩ := R_elemN h hdZ i hi
  obtain rfl : c = [hdA xs i] := hM
  have h1 := hcc 0 _ rfl
  have h2 := hfr 0
  exact ⟨by simpa [show kRaw.sz = 1 from rfl] using h1, by simpa [show kRaw.sz = 1 from rfl] using h2⟩
theorem raw_store {W : World} {base g n cap e : Nat} {ok : Nat → Prop} {xs : List Hd3} (h : kRaw.R e W base ok (.slice (some ⟨g, 0, none⟩) n cap) xs) (i : Nat) (hi : i < n) (p : Hd3) :
    kRaw.R e (W.setCell ⟨g, i, none⟩ (hdV p)) base ok (.slice (some ⟨g, 0, none⟩) n cap) (xs.set i p) ∧ W.grownBy (W.setCell ⟨g, i, none⟩ (hdV p)) (some g) ∧ base ≤ g := by
  obtain ⟨c, hcl, hM, hcc, hfr⟩ := R_elemN h hdZ i hi
  obtain ⟨hs, hg⟩ := R_segN h i hi (seg := [hdV p]) (j := 0) hcl hcc (Nat.le_refl 1) (x' := p) (okp := fun _ => False) (by simp [hcl, show kRaw.sz = 1 from rfl, List.drop_eq_nil_of_le]; rfl) (fun _ h => h.elim)
  have e' : W.setCells g (i * kRaw.sz + 0) [hdV p] = W.setCell ⟨g, i, none⟩ (hdV p) := by
    rw [show kRaw.sz = 1 from rfl, Nat.mul_one]; rfl
  rw [e'] at hs hg
  exact ⟨hs, hg, Kd.R_base h g (by simp [Value.ownBlock])⟩
theorem hdA_set (L : List Hd3) (i j : Nat) (p : Hd3) (h : i < L.length) : hdA (L.set i p) j = if j = i then hdV p else hdA L j := by
  unfold hdA
  rw [List.getD_eq_getElem?_getD, List.getD_eq_getElem?_getD, List.getElem?_set]
  by_cases e : j = i
  · subst e; rw [if_pos rfl, if_pos rfl, if_pos h]; rfl
  · rw [if_neg e, if_neg (fun h => e h.symm)]
structure UOut (w : World) (mb go n co : Nat) (vs : List (List UInt8)) (i : Nat) (O : List (List Int)) (L : List Hd3) (W : World) : Prop where
  map : MapN Tryd.prog 9 W mb vs.length (numF vs)
  raw : kRaw.R 31 W w.heap.size (fun _ => True) (.slice (some ⟨go, 0, none⟩) n co) L
  len : L.length = n
  fin : ∀ k : Nat, k < i → (Kd.int .i64).R 3 W w.heap.size (fun _ => True) (hdA L k) (O.getD k [])
  nil : ∀ k : Nat, i ≤ k → hdA L k = .slice none 0 0
  below : Below w.heap.size w W
  ge : w.heap.size ≤ mb
structure UIn (w Wg : World) (mb go n co : Nat) (vs : List (List UInt8)) (i : Nat) (O : List (List Int)) (own : List Int) (L : List Hd3) (W : World) : Prop where
  map : MapN Tryd.prog 9 W mb vs.length (numF vs)
  raw : kRaw.R 31 W w.heap.size (fun _ => True) (.slice (some ⟨go, 0, none⟩) n co) L
  len : L.length = n
  fin : ∀ k : Nat, k < i → (Kd.int .i64).R 3 W w.heap.size (fun q => q < Wg.heap.size) (hdA L k) (O.getD k [])
  cur : (Kd.int .i64).R 3 W w.heap.size (fun q => Wg.heap.size ≤ q) (hdA L i) own
  nil : ∀ k : Nat, i < k → hdA L k = .slice none 0 0
  below : Below w.heap.size w W
  wge : Wg.heap.size ≤ W.heap.size
  ge : w.heap.size ≤ mb
section
variable {w Wg W W1 : World} {mb go n co i : Nat} {vs : List (List UInt8)} {O : List (List Int)} {own : List Int} {L : List Hd3}
theorem UOut.later (h : UOut w mb go n co vs i O L W) (hb : Below W.heap.size W W1) : UOut w mb go n co vs i O L W1 :=
  ⟨h.map.below hb, Kd.R_below h.raw hb, h.len, fun k hk => Kd.R_below (h.fin k hk) hb, h.nil, below_step h.below hb, h.ge⟩
theorem UIn.later (h : UIn w Wg mb go n co vs i O own L W) (hb : Below W.heap.size W W1) : UIn w Wg mb go n co vs i O own L W1 :=
  ⟨h.map.below hb, Kd.R_below h.raw hb, h.len, fun k hk => Kd.R_below (h.fin k hk) hb, Kd.R_below h.cur hb, h.nil, below_step h.below hb, Nat.le_trans h.wge hb.size, h.ge⟩
theorem UOut.enter (h : UOut w mb go n co vs i O L W) : UIn w W mb go n co vs i O [] L W :=
  ⟨h.map, h.raw, h.len, fun k hk => Kd.R_mono (Kd.R_bound (h.fin k hk)) (fun q hq => hq.2.2.1), by rw [h.nil i (Nat.le_refl _)]; exact Kd.R_nil _ _ _ _ _, fun k hk => h.nil k (Nat.le_of_lt hk), h.below, Nat.le_refl _, h.ge⟩
theorem UIn.leave (h : UIn w Wg mb go n co vs i O own L W) (ho : O.getD i [] = own) : UOut w mb go n co vs (i + 1) O L W :=
  ⟨h.map, h.raw, h.len, fun k hk => by
    by_cases e : k = i
    · subst e; rw [ho]; exact Kd.R_mono h.cur (fun _ _ => trivial)
    · exact Kd.R_mono (h.fin k (by omega)) (fun _ _ => trivial), fun k hk => h.nil k (by omega), h.below, h.ge⟩
theorem UIn.header (h : UIn w Wg mb go n co vs i O own L W) (hi : i < n) : ∃ A c, hdA L i = .slice A own.length c ∧ W.cell? ⟨go, i, none⟩ = some (.slice A own.length c) ∧ W.frozen? ⟨go, i, none⟩ = false ∧ (Kd.int .i64).C W A own.length own ∧ own.length ≤ c := by
  obtain ⟨A, c, e⟩ := Kd.R_slice h.cur
  have h1 := raw_cell h.raw i hi
  have h2 := h.cur
  rw [e] at h1 h2
  exact ⟨A, c, e, h1.1, h1.2, (Kd.R_reads' h2).2.2, (Kd.R_reads' h2).2.1⟩
theorem UIn.put {x : List UInt8} {W2 : World} (h : UIn w Wg mb go n co vs i O own L W) (hx : ¬ x ∈ vs) (hM : MapN Tryd.prog 9 W2 mb (vs.length + 1) (putF (numF vs) (.string x) (.int .i64 (vs.length : Int)))) (hg : W.grownBy W2 (some mb)) : UIn w Wg mb go n co (vs ++ [x]) i O own L W2 := by
  rw [numF_put hx] at hM
  exact ⟨by rw [List.length_append]; exact hM, R_past_map h.raw h.map.toF hg, h.len, fun k hk => R_past_map (h.fin k hk) h.map.toF hg, R_past_map h.cur h.map.toF hg, h.nil, below_map h.below h.below.size hg h.ge, Nat.le_trans h.wge hg.size, h.ge⟩
theorem UIn.push {x : Int} {A7 : Option Addr} {m7 c7 : Nat} {W2 : World} (h : UIn w Wg mb go n co vs i O own L W) (hi : i < n) (hR : (Kd.int .i64).R 3 W2 w.heap.size (fun q => Wg.heap.size ≤ q) (.slice A7 m7 c7) (own ++ [x])) (hB : Below w.heap.size w W2) (hg : W.grownBy W2 (hdA L i).ownBlock) :
    ((∃ y, W2.cell? ⟨go, i, none⟩ = some y) ∧ W2.frozen? ⟨go, i, none⟩ = false) ∧ UIn w Wg mb go n co vs i O (own ++ [x]) (L.set i (A7, m7, c7)) (W2.setCell ⟨go, i, none⟩ (.slice A7 m7 c7)) := by
  obtain ⟨cells, hc⟩ := Kd.R_typed h.raw go rfl
  have hraw := Kd.R_grown1 (d := kRaw) h.raw rfl hg (fun e => Kd.R_ne h.cur hc (by decide) e.symm)
  have h1 := raw_cell hraw i hi
  obtain ⟨s1, s2, s3⟩ := raw_store hraw i hi (A7, m7, c7)
  obtain ⟨cells2, hc2⟩ := Kd.R_typed hraw go rfl
  have hLi : i < L.length := by rw [h.len]; exact hi
  have hmk := (h.map.kept hg (h.map.toF.ne_row h.cur))
  refine ⟨⟨⟨_, h1.1⟩, h1.2⟩, ⟨hmk.kept s2 (hmk.toF.ne_row hraw), s1, by rw [List.length_set]; exact h.len, fun k hk => ?_, ?_, fun k hk => ?_, below_set hB s3, ?_, h.ge⟩⟩
  · rw [hdA_set _ _ _ _ hLi, if_neg (by omega)]
    refine R_type (Kd.R_grown (h.fin k hk) hg (fun q hq e => ?_)) hc2 (by decide) _ i
    have := h.cur.1 q e.symm
    omega
  · rw [hdA_set _ _ _ _ hLi, if_pos rfl]
    exact R_type hR hc2 (by decide) _ i
  · rw [hdA_set _ _ _ _ hLi, if_neg (by omega)]
    exact h.nil k hk
  · have := hg.size
    have := h.wge
    simp
    omega
theorem UOut.rows (h : UOut w mb go n co vs n O L W) (hn : 0 < n) (hO : O.length = n) : kInts.C W (some ⟨go, 0, none⟩) n O := by
  have h1 := (Kd.R_reads' h.raw).2.2
  have h2 := h1.2.1
  refine ⟨hO, by have := h.len; omega, fun _ => ⟨_, rfl, fun j p hj => ?_⟩⟩
  have hjn : j < n := by
    have := (List.getElem?_eq_some_iff.1 hj).1
    omega
  obtain ⟨A, c, e⟩ := Kd.R_slice (h.fin j hjn)
  have hf := h.fin j hjn
  have hp : O.getD j [] = p := by
    rw [List.getD_eq_getElem?_getD, hj]; rfl
  rw [hp] at hf e
  have hc := (raw_cell h.raw j hjn).1
  rw [e] at hc hf
  have hr := Kd.R_reads' hf
  refine ⟨[.slice A p.length c], rfl, ⟨A, c, rfl, hr.2.1, hr.2.2⟩, fun q u hu => ?_⟩
  cases q with
  | zero =>
    injection hu with hu
    subst hu
    have e2 : (⟨go, 0, none⟩ : Addr).add (j * kInts.sz + 0) = ⟨go, j, none⟩ := by
      rw [show kInts.sz = 1 from rfl]
      cases j <;> simp [Addr.add]
    rw [e2]; exact hc
  | succ q => simp at hu
end
end Go.Proofs.YtdfneldenipljaaDoor.L
end
section
namespace Go.Proofs.YtdfneldenipljaaDoor.L
open Go.RowKit Go.ChangeShapes Go.WideShapes Go.Proofs.YtdfneldenipljaaDoorW.PrintWords Go.Proofs.YtdfneldenipljaaDoorW.PrintLast Go.Proofs.YtdfneldenipljaaDoorW.PrintMore
attribute [local go_sem] max2_int min2_int max_two min_two max_three min_three max_four min_four
theorem info_rows : (Tryd.prog.info? 31).map (fun i => (i.zero, i.size, i.bytes)) = some (some (.slice none 0 0), 1, 24) := by kernel_rfl
set_option maxRecDepth 100000 in
set_option maxHeartbeats 8000000 in
theorem classes_any (T : Lib.PrintTabs) (A : Option Addr) (c : Nat) (l : List Scene) (w : World) (h : kScene.C w A l.length l) (hB : ∀ i : Nat, i < l.length → ScBd (sc l i)) (hA : ∀ i : Nat, i < l.length → AheadN (sc l i).nodes) (hn : l.length ≤ 1000) (h0 : 0 < l.length) (hT : QTabs T w) :
    Calls Tryd.prog 42 #[.slice A l.length c] w fun e w' => ∃ A' c', e = .returned (.slice A' l.length c') ∧ l.length ≤ c' ∧ kInts.C w' A' l.length (allS T l).2 ∧ Below w.heap.size w w' := by
  have HR := Aside0.mk h
  have HBd := Aside0.mk hB
  have HA := Aside0.mk hA
  have HT := Aside0.mk hT
  have b0 := h.2.1
  have hus := Tryd.underlying34
  have hun := Tryd.underlying52
  have hmm := @run_makeMap Tryd.prog
  have HOl := Aside0.mk (all_len T l.length l rfl)
  have HMap0 := Aside0.mk (show MapN Tryd.prog 9 (w.alloc (.map #[] 0)) w.heap.size 0 (numF []) from by rw [numF_nil]; exact MapN.made Tryd.prog 9 w)
  have HB0 := Aside0.mk (below_alloc (Below.refl w.heap.size w) (.map #[] 0))
  clear h hB hA hT
  go_enter Tryd.func42, Tryd.ntmps42
  go_wp2_with (first
    | (refine Kd.R_make kRaw (w0 := w) w.heap.size 31 rfl (N := 17) rfl 25 _ _ rfl (l.length : Int) rfl rfl Tryd.underlying25 (.slice none 0 0) 24 info_rows rfl (by decide) (by omega) hdZ (ok := fun _ => True) (okp := fun _ => True) rfl (fun _ hk => hk) trivial (by omega) (by omega) HB0.out HB0.out.size ?_; intro v2 w2 ho2 hb2 hg2 hn2; rw [Int.toNat_natCast] at ho2; obtain ⟨go, co, hv2, -, hgo, -⟩ := Kd.R_form ho2 (by rw [List.length_replicate]; exact h0); rw [List.length_replicate] at hv2; subst hv2; have HO := Aside0.mk ho2; have HB2 := Aside0.mk hb2; have HM2 := Aside0.mk (HMap0.out.kept hg2 (by simp)); clear ho2 hb2 hg2 hn2))
  clear hmm
  have HOl2 : ∀ k : Nat, hdA (List.replicate l.length hdZ) k = .slice none 0 0 := fun k => by
    unfold hdA
    rw [List.getD_eq_getElem?_getD, List.getElem?_replicate]
    split <;> rfl
  have HU0 : Aside0 (UOut w w.heap.size go l.length co (allS T (l.take 0)).1 0 (allS T l).2 (List.replicate l.length hdZ) w2) :=
    ⟨by rw [List.take_zero]; exact HM2.out, HO.out, by rw [List.length_replicate], fun k hk => by omega, fun k _ => HOl2 k, HB2.out, Nat.le_refl _⟩
  clear HO HB2 HM2 HB0 HMap0 HOl2
  generalize hmb : w.heap.size = mb at HU0 ⊢
  have HMb := Aside0.mk hmb
  clear hmb hgo
  go_loopw [20] (fun v20 W => ∃ (i : Nat) (L : List Hd3), i ≤ l.length ∧ v20 = .int .i64 i ∧ Aside0 (UOut w mb go l.length co (allS T (l.take i)).1 i (allS T l).2 L W)) (fun v20 _ => l.length - (intOf v20).toNat)
  case atStart => exact ⟨0, _, by omega, rfl, HU0⟩
  case round =>
    clear HU0
    obtain ⟨i, L, hi, rfl, HO⟩ := hrel
    by_cases hlt : i < l.length
    · obtain ⟨ad, B, d, rfl, x0, x1, hd, hS⟩ := at_scene HR.out i hlt
      replace x0 := pw_cell_below HO.out.below x0
      replace x1 := pw_cell_below HO.out.below x1
      have HS := Aside0.mk hS
      have HSb := Aside0.mk (HBd.out i hlt)
      have HAh := Aside0.mk (HA.out i hlt)
      have HVs := Aside0.mk (all_vs_len T i (l.take i) (by rw [List.length_take]; omega) (fun s hs => by
        obtain ⟨k, hk, rfl⟩ := List.getElem_of_mem hs
        have hk' : k < l.length := by rw [List.length_take] at hk; omega
        have h1 := (HBd.out k hk').2
        have e : sc l k = (l.take i)[k] := by rw [List.getElem_take]; unfold sc; rw [getD_eq _ hk']
        rw [← e]
        exact Nat.le_trans (len_rows _) h1))
      have HAll := Aside0.mk (show allS T (l.take (i + 1)) = ((ownS T (allS T (l.take i)).1 (sc l i).nodes).1, (allS T (l.take i)).2 ++ [(ownS T (allS T (l.take i)).1 (sc l i).nodes).2]) from by rw [take_sc hlt, all_snoc])
      have HOi := Aside0.mk (out_at T l.length l rfl i hlt)
      have hnl : (sc l i).nodes.length ≤ 400000 := Nat.le_trans (len_rows _) HSb.out.2
      have HIl := Aside0.mk hlt
      clear hS
      generalize sc l i = s at x0 x1 hd HS HSb HAh HAll HOi hnl
      generalize (allS T (l.take i)).1 = vs at HO HVs HAll HOi
      have hA := below_alloc (Below.refl wr.heap.size wr) (.cells #[.slice B s.nodes.length d, .int .i64 s.root] 34)
      have q0 := box_cell wr _ rfl #[.slice B s.nodes.length d, .int .i64 s.root] 34 0 (.slice B s.nodes.length d) rfl
      have HO1 := Aside0.mk (HO.out.later hA)
      clear hA HO
      go_wp2
      clear x0 x1 q0
      generalize wr.alloc (.cells #[.slice B s.nodes.length d, .int .i64 s.root] 34) = wg at HO1 ⊢
      have HI0 : Aside0 (UIn w wg mb go l.length co (ownS T vs (s.nodes.take 0)).1 i (allS T l).2 (ownS T vs (s.nodes.take 0)).2 L wg) := ⟨by rw [List.take_zero]; exact HO1.out.enter⟩
      clear HO1
      go_loopw [28] (fun v28 W => ∃ (j : Nat) (L : List Hd3), j ≤ s.nodes.length ∧ v28 = .int .i64 j ∧ Aside0 (UIn w wg mb go l.length co (ownS T vs (s.nodes.take j)).1 i (allS T l).2 (ownS T vs (s.nodes.take j)).2 L W)) (fun v28 _ => s.nodes.length - (intOf v28).toNat)
      case atStart => exact ⟨0, _, by omega, rfl, HI0⟩
      case round =>
        clear HI0
        obtain ⟨j, L, hj, rfl, HI⟩ := hrel
        by_cases hjl : j < s.nodes.length
        · obtain ⟨an, A1, c1, A2, c2, A3, c3, rfl, y0, y1, y2, y3, hN⟩ := at_node HS.out j hjl
          replace y0 := pw_cell_below HI.out.below y0
          replace y1 := pw_cell_below HI.out.below y1
          replace y2 := pw_cell_below HI.out.below y2
          replace y3 := pw_cell_below HI.out.below y3
          have HN := Aside0.mk hN
          have HNb := Aside0.mk (HSb.out.1 j hjl)
          have HTk2 := Aside0.mk (show ownS T vs (s.nodes.take (j + 1)) = numStep T (ownS T vs (s.nodes.take j)) (nd s.nodes j) from by rw [take_nd' hjl, own_snoc])
          have HLn := Aside0.mk (show (ownS T vs (s.nodes.take j)).2.length = j from own_len T vs j (s.nodes.take j) (by rw [List.length_take]; omega))
          have HVl := Aside0.mk (show (ownS T vs (s.nodes.take j)).1.length ≤ vs.length + j from own_vs_len T vs j (s.nodes.take j) (by rw [List.length_take]; omega))
          have HVv := Aside0.mk (own_vals T vs (s.nodes.take j))
          have HKd := Aside0.mk (HAh.out j hjl)
          have HIb := Aside0.mk (show i < 1000000 ∧ j < s.nodes.length from ⟨by omega, hjl⟩)
          generalize ownS T vs (s.nodes.take j) = st at HI HTk2 HLn HVl HVv
          obtain ⟨us, own⟩ := st
          have HI : Aside0 (UIn w wg mb go l.length co us i (allS T l).2 own L wr) := HI
          have HLn : Aside0 (own.length = j) := HLn
          have HVl : Aside0 (us.length ≤ vs.length + j) := HVl
          have HVv : Aside0 (∀ x ∈ own, 0 ≤ x ∧ x ≤ (us.length : Int)) := HVv
          have HUb := Aside0.mk (show us.length ≤ 1000000000000 from by
            have h1 := HVl.out
            have h2 := HVs.out
            have h3 := HIb.out
            have h4 : i * 400000 ≤ 1000000 * 400000 := Nat.mul_le_mul_right _ (by omega)
            omega)
          have HVi := Aside0.mk (show ∀ x ∈ own, I64 x from fun x hx => by
            have h1 := HVv.out x hx
            have h2 := HUb.out
            exact ⟨by omega, by omega⟩)
          have HKk := Aside0.mk (show ∀ k ∈ (nd s.nodes j).kids, 0 ≤ k ∧ k < (own.length : Int) from fun k hk => by
            have := HKd.out k hk
            have := HLn.out
            omega)
          have HTk3 := Aside0.mk (show numStep T (us, own) (nd s.nodes j) = (addW us (nodeW T (nd s.nodes j) own), own ++ [((addW us (nodeW T (nd s.nodes j) own)).idxOf (nodeW T (nd s.nodes j) own) : Int)]) from rfl)
          generalize hnn : nd s.nodes j = n at y0 y1 y2 y3 HN HNb HTk2 HKk HTk3
          clear hnn hN HKd
          have hA := below_alloc (Below.refl wr.heap.size wr) (.cells #[.int .i64 n.kind, .slice A1 n.ints.length c1, .slice A2 n.texts.length c2, .slice A3 n.kids.length c3] 52)
          have z0 := box_cell wr _ rfl #[.int .i64 n.kind, .slice A1 n.ints.length c1, .slice A2 n.texts.length c2, .slice A3 n.kids.length c3] 52 0 (.int .i64 n.kind) rfl
          have z1 := box_cell wr _ rfl #[.int .i64 n.kind, .slice A1 n.ints.length c1, .slice A2 n.texts.length c2, .slice A3 n.kids.length c3] 52 1 (.slice A1 n.ints.length c1) rfl
          have z2 := box_cell wr _ rfl #[.int .i64 n.kind, .slice A1 n.ints.length c1, .slice A2 n.texts.length c2, .slice A3 n.kids.length c3] 52 2 (.slice A2 n.texts.length c2) rfl
          have z3 := box_cell wr _ rfl #[.int .i64 n.kind, .slice A1 n.ints.length c1, .slice A2 n.texts.length c2, .slice A3 n.kids.length c3] 52 3 (.slice A3 n.kids.length c3) rfl
          have HJ := Aside0.mk (HI.out.later hA)
          clear hA HI
          go_wp2_with fail
          generalize wr.alloc (.cells #[.int .i64 n.kind, .slice A1 n.ints.length c1, .slice A2 n.texts.length c2, .slice A3 n.kids.length c3] 52) = w4 at HJ z0 z1 z2 z3 ⊢
          refine (copy_any n A1 c1 A2 c2 A3 c3 w4 (HN.out.below HJ.out.below) HNb.out.1).mono ?_
          rintro e w5 ⟨_, rfl, ⟨v1, v2, v3, rfl, hM⟩, hB5⟩
          obtain ⟨v1', v2', v3', ev, hR1, hR2, hR3⟩ := kNode_openM hM
          injection ev with _ ev
          injection ev with f1 ev
          injection ev with f2 ev
          injection ev with f3 _
          subst f1 f2 f3
          obtain ⟨B1, d1, rfl⟩ := Kd.R_slice hR1
          obtain ⟨B2, d2, rfl⟩ := Kd.R_slice hR2
          obtain ⟨B3, d3, rfl⟩ := Kd.R_slice hR3
          have HK : Aside0 (KidB (rd own) n (.slice B1 n.ints.length d1) (.slice B2 n.texts.length d2) (.slice B3 n.kids.length d3) 0 w5.heap.size w4 (w5.alloc (.cells #[.int .i64 n.kind, .slice B1 n.ints.length d1, .slice B2 n.texts.length d2, .slice B3 n.kids.length d3] 52))) := ⟨⟨below_step hB5 (below_alloc (Below.refl _ _) _), hB5.size, by simpa using heap_alloc_new w5 _, Kd.R_alloc hR1 _, Kd.R_alloc hR2 _, by rw [mapTake_zero]; exact Kd.R_alloc hR3 _⟩⟩
          have x3 := box_cell w5 _ rfl #[.int .i64 n.kind, .slice B1 n.ints.length d1, .slice B2 n.texts.length d2, .slice B3 n.kids.length d3] 52 3 (.slice B3 n.kids.length d3) rfl
          have hkl : n.kids.length ≤ 1000000 := HNb.out.1.2.2
          clear hM hR1 hR2 hR3 hB5 z0 z1 z2 z3 y0 y1 y2 y3
          go_wp2
          generalize (w5.alloc (.cells #[.int .i64 n.kind, .slice B1 n.ints.length d1, .slice B2 n.texts.length d2, .slice B3 n.kids.length d3] 52)) = W7 at HK ⊢
          generalize w5.heap.size = g6 at HK ⊢
          clear x3
          go_loopw [37] (fun v37 W => ∃ m : Nat, m ≤ n.kids.length ∧ v37 = .int .i64 m ∧ Aside0 (KidB (rd own) n (.slice B1 n.ints.length d1) (.slice B2 n.texts.length d2) (.slice B3 n.kids.length d3) m g6 w4 W)) (fun v37 _ => n.kids.length - (intOf v37).toNat)
          case atStart => exact ⟨0, by omega, rfl, HK⟩
          case round =>
            clear HK
            obtain ⟨m, hm, rfl, HKm⟩ := hrel
            by_cases hml : m < n.kids.length
            · have hq3 : wr.cell? ⟨g6, 3, none⟩ = some (.slice B3 n.kids.length d3) := (blk_cell HKm.out.box 3).trans rfl
              obtain ⟨g7, c7', hv, -⟩ := Kd.R_form HKm.out.r3 (by rw [mapTake_len]; omega)
              injection hv with hA hmm hcc
              clear hmm
              subst hA hcc
              have hkk := HKk.out _ (rd_mem hml)
              obtain ⟨k, hk⟩ : ∃ k : Nat, rd n.kids (m : Int) = (k : Int) := ⟨_, (Int.toNat_of_nonneg hkk.1).symm⟩
              obtain ⟨s1, s2, s3, hs4⟩ := HKm.out.set hml
              obtain ⟨Ah, ch, -, p0, -, hCo, -⟩ := (HJ.out.later HKm.out.below).header HIl.out
              obtain ⟨av, rfl, r1⟩ := at_nat hCo k (by omega)
              rw [hk] at s1 hs4 hkk
              have hko : (k : Int) < (own.length : Int) := hkk.2
              have hjn : (m : Int) < (n.kids.length : Int) := by omega
              have hil : (i : Int) < (l.length : Int) := by omega
              have HS4 := Aside0.mk hs4
              clear hk hkk hs4 hCo
              go_wp2
              go_region
              have HS5 := Aside0.mk HS4.out.drew
              clear HS4 s1 s2 s3 r1 p0 hq3
              go_wp2
              go_roundw
              case rel => exact ⟨m + 1, by omega, by go_num, HS5⟩
              case measure => simp [intOf]; omega
            · obtain rfl : m = n.kids.length := by omega
              have HU := Aside0.mk (HJ.out.later HKm.out.below)
              have q0 := (blk_cell HKm.out.box 0).trans rfl
              have q1 := (blk_cell HKm.out.box 1).trans rfl
              have q2 := (blk_cell HKm.out.box 2).trans rfl
              have q3 := (blk_cell HKm.out.box 3).trans rfl
              have r1 := Kd.R_reads' HKm.out.r1
              have r2 := Kd.R_reads' HKm.out.r2
              have r3 := Kd.R_reads' (by have h := HKm.out.r3; rw [mapTake_all] at h; exact h : (Kd.int .i64).R 3 wr w4.heap.size (fun _ => True) (.slice B3 n.kids.length d3) (n.kids.map (rd own)))
              have hml3 : (n.kids.map (rd own)).length = n.kids.length := List.length_map ..
              have HN7 := Aside0.mk (show NodeC wr ⟨n.kind, n.ints, n.texts, n.kids.map (rd own)⟩ B1 d1 B2 d2 B3 d3 from ⟨r1.2.1, r2.2.1, by show (n.kids.map (rd own)).length ≤ d3; rw [hml3]; exact r3.2.1, r1.2.2, r2.2.2, r3.2.2⟩)
              have HWd := Aside0.mk (show wordL T n.kind n.ints n.texts (n.kids.map (rd own)) = nodeW T n own from rfl)
              have hcall := uword_any T ⟨n.kind, n.ints, n.texts, n.kids.map (rd own)⟩ B1 d1 B2 d2 B3 d3 wr HN7.out ⟨HNb.out.1.1, HNb.out.1.2.1, by show (n.kids.map (rd own)).length ≤ _; rw [hml3]; exact HNb.out.1.2.2⟩ HNb.out.2.1 ⟨HNb.out.2.2.kind, HNb.out.2.2.ints⟩ (fun k hk => by
                obtain ⟨q, hq, rfl⟩ := List.mem_map.1 hk
                have h1 := HKk.out q hq
                obtain ⟨p, rfl⟩ : ∃ p : Nat, q = (p : Int) := ⟨q.toNat, by omega⟩
                exact HVi.out _ (rd_mem (by omega))) (HT.out.below HU.out.below)
              have hcall : Calls Tryd.prog 59 #[.agg #[.int .i64 n.kind, .slice B1 n.ints.length d1, .slice B2 n.texts.length d2, .slice B3 (n.kids.map (rd own)).length d3]] wr fun e w' => e = .returned (.string ⟨(wordL T n.kind n.ints n.texts (n.kids.map (rd own))).toArray⟩) ∧ Below wr.heap.size wr w' := hcall
              rw [hml3, HWd.out] at hcall
              have HCall := Aside0.mk hcall
              clear hcall r1 r2 r3 hml3 HN7 HWd hml hm
              go_wp2_with fail
              refine HCall.out.mono ?_
              rintro e w8 ⟨rfl, hB8⟩
              have HV := Aside0.mk (HU.out.later hB8)
              clear hB8 HU HCall q0 q1 q2 q3
              have HWl := Aside0.mk (keyW_of (nodeW_len T HNb.out.1 HNb.out.2.1 HNb.out.2.2 HKk.out HVi.out))
              generalize nodeW T n own = x at HTk3 HWl ⊢
              by_cases hin : x ∈ us
              · have HVx := Aside0.mk (numF_in hin (.int .i64 0))
                have ha : addW us x = us := by unfold addW; rw [if_pos hin]
                rw [ha] at HTk3
                generalize us.idxOf x = ix at HTk3 HVx
                have HVd := Aside0.mk (HV.out.later (pw_below_drewN (Below.refl _ _) 1))
                have hlk := MapF.run_lookup w8.drew 53 HVd.out.map.toF keyW Tryd.underlying53 (zeroIW _) HWl.out
                rw [HVx.out.1] at hlk
                obtain ⟨Ah, ch, eh, p0, p0f, hCo, hlc⟩ := HVd.out.header HIl.out
                go_wp2_with (first
                  | (at_lookup; refine wpList_lookup_F_ok _ rfl (.tmp 59) (.tmp 60) 53 rfl 9 3 keyW Tryd.underlying53 (zeroIW _) mb us.length (numF us) rfl HV.out.map.toF (.string ⟨x.toArray⟩) (.string x) rfl HWl.out (.int .i64 (ix : Int)) HVx.out.1 true HVx.out.2 ?_))
                have p1 := pw_cell_below (below_alloc (Below.refl _ _) (.cells #[.int .i64 (ix : Int)] 3)) p0
                have p0w : w8.cell? ⟨go, i, none⟩ = some (.slice Ah own.length ch) := p0
                have p1w := pw_cell_below (below_alloc (Below.refl _ _) (.cells #[.int .i64 (ix : Int)] 3)) p0w
                have hil : (i : Int) < (l.length : Int) := by have := HIl.out; omega
                have HCr := Aside0.mk HVd.out.cur
                rw [eh] at HCr
                have hl9 : (own ++ [(ix : Int)]).length = own.length + 1 := by simp
                have hown : own.length ≤ 400000 := by have := HLn.out; omega
                clear p0f hCo
                go_region_law (first
                  | (refine Kd.R_append_step (Kd.int .i64) (W := w8.drew) (w0 := w) w.heap.size (by rfl) (.tmp 75) (.tmp 79) 31 3 (.int .i64 0) 8 rfl Tryd.underlying31 info_int rfl (by decide) (by omega) (.slice Ah own.length ch) own (ix : Int) [.int .i64 (ix : Int)] (fun q => wg.heap.size ≤ q) (fun _ => False) rfl rfl rfl (fun _ h => h.elim) (fun k hk => Nat.le_trans HVd.out.wge hk) HCr.out HVd.out.below HVd.out.below.size (by omega) ?_; intro v9 w9 hR9 hB9 hg9 _; obtain ⟨A9, c9, rfl⟩ := Kd.R_slice hR9; rw [hl9] at hR9 ⊢; rw [← eh] at hg9; obtain ⟨⟨⟨y, f0⟩, f0f⟩, hp9⟩ := HVd.out.push HIl.out hR9 hB9 hg9; have HP9 := Aside0.mk hp9; clear hR9 hB9 hg9 hp9))
                all_goals
                  clear p0 p1 p0w p1w hlk f0 f0f
                  go_wp2
                  go_roundw
                  case rel => exact ⟨j + 1, _, by omega, by go_num, by rw [HTk2.out, HTk3.out]; exact HP9⟩
                  case measure => simp [intOf]; omega
              · have HVx := Aside0.mk (numF_out hin (.int .i64 0))
                have HIn := Aside0.mk hin
                have ha : addW us x = us ++ [x] := by unfold addW; rw [if_neg hin]
                have HV2 := Aside0.mk (numF_in (vs := us ++ [x]) (x := x) (by simp) (.int .i64 0))
                rw [ha] at HTk3
                have hul : us.length < maxLen := by have := HUb.out; unfold maxLen; omega
                clear hin ha
                generalize hix : (us ++ [x]).idxOf x = ix at HTk3 HV2
                clear hix
                go_wp2_with (first
                  | (at_lookup; refine wpList_lookup_F_ok _ rfl (.tmp 59) (.tmp 60) 53 rfl 9 3 keyW Tryd.underlying53 (zeroIW _) mb us.length (numF us) rfl HV.out.map.toF (.string ⟨x.toArray⟩) (.string x) rfl HWl.out (.int .i64 0) HVx.out.1 false HVx.out.2.1 ?_)
                  | (at_len; refine wpList_len_N _ rfl (.tmp 68) 53 rfl 9 3 Tryd.underlying53 mb us.length (numF us) rfl HV.out.map ?_)
                  | (at_mapUpdate; refine wpList_update_N _ rfl (.tmp 66) (.tmp 67) _ 53 rfl 9 3 keyW Tryd.underlying53 mb us.length (numF us) rfl HV.out.map hul (.string ⟨x.toArray⟩) (.int .i64 (us.length : Int)) (.string x) rfl rfl HWl.out HVx.out.2.2 ?_; intro w6 hM6 hg6; have HP := Aside0.mk (HV.out.put HIn.out hM6 hg6); clear hM6 hg6))
                have HPd := Aside0.mk (HP.out.later (pw_below_drewN (Below.refl _ _) 1))
                have hlk := MapF.run_lookup w6.drew 53 HPd.out.map.toF keyW Tryd.underlying53 (zeroIW _) HWl.out
                rw [HV2.out.1] at hlk
                obtain ⟨Ah, ch, eh, p0, p0f, hCo, hlc⟩ := HPd.out.header HIl.out
                have p1 := pw_cell_below (below_alloc (Below.refl _ _) (.cells #[.int .i64 (ix : Int)] 3)) p0
                have p0w : w6.cell? ⟨go, i, none⟩ = some (.slice Ah own.length ch) := p0
                have p1w := pw_cell_below (below_alloc (Below.refl _ _) (.cells #[.int .i64 (ix : Int)] 3)) p0w
                have hil : (i : Int) < (l.length : Int) := by have := HIl.out; omega
                have HCr := Aside0.mk HPd.out.cur
                rw [eh] at HCr
                have hl9 : (own ++ [(ix : Int)]).length = own.length + 1 := by simp
                have hown : own.length ≤ 400000 := by have := HLn.out; omega
                clear p0f hCo
                go_region_law (first
                  | (refine Kd.R_append_step (Kd.int .i64) (W := w6.drew) (w0 := w) w.heap.size (by rfl) (.tmp 75) (.tmp 79) 31 3 (.int .i64 0) 8 rfl Tryd.underlying31 info_int rfl (by decide) (by omega) (.slice Ah own.length ch) own (ix : Int) [.int .i64 (ix : Int)] (fun q => wg.heap.size ≤ q) (fun _ => False) rfl rfl rfl (fun _ h => h.elim) (fun k hk => Nat.le_trans HPd.out.wge hk) HCr.out HPd.out.below HPd.out.below.size (by omega) ?_; intro v9 w9 hR9 hB9 hg9 _; obtain ⟨A9, c9, rfl⟩ := Kd.R_slice hR9; rw [hl9] at hR9 ⊢; rw [← eh] at hg9; obtain ⟨⟨⟨y, f0⟩, f0f⟩, hp9⟩ := HPd.out.push HIl.out hR9 hB9 hg9; have HP9 := Aside0.mk hp9; clear hR9 hB9 hg9 hp9))
                all_goals
                  clear p0 p1 p0w p1w hlk f0 f0f
                  go_wp2
                  go_roundw
                  case rel => exact ⟨j + 1, _, by omega, by go_num, by rw [HTk2.out, HTk3.out]; exact HP9⟩
                  case measure => simp [intOf]; omega
        · obtain rfl : j = s.nodes.length := by omega
          rw [List.take_length] at HI
          go_wp2
          have HL := Aside0.mk (HI.out.leave HOi.out)
          go_roundw
          case rel => exact ⟨i + 1, L, by omega, by go_num, by rw [HAll.out]; exact HL⟩
          case measure => simp [intOf]; omega
    · obtain rfl : i = l.length := by omega
      have HF := Aside0.mk (HO.out.rows h0 HOl.out)
      have hco := (Kd.R_reads' HO.out.raw).2.1
      go_wp2
      go_ret
      exact ⟨_, co, rfl, hco, HF.out, HO.out.below⟩
end Go.Proofs.YtdfneldenipljaaDoor.L
end
section
namespace Go.Proofs.YtdfneldenipljaaDoor.L
open Go.RowKit Go.ChangeShapes Go.WideShapes Go.Proofs.YtdfneldenipljaaDoorW.PrintWords Go.Proofs.YtdfneldenipljaaDoorW.PrintLast Go.Proofs.YtdfneldenipljaaDoorW.PrintMore
attribute [local go_sem] max2_int min2_int max_two min_two max_three min_three max_four min_four
def Own4 (n m : Node) : Prop := n.kind = m.kind ∧ n.ints = m.ints ∧ n.texts = m.texts ∧ n.kids.length = m.kids.length
theorem Own4.refl (n : Node) : Own4 n n := ⟨rfl, rfl, rfl, rfl⟩
theorem Own4.symm {n m : Node} (h : Own4 n m) : Own4 m n := ⟨h.1.symm, h.2.1.symm, h.2.2.1.symm, h.2.2.2.symm⟩
theorem Own4.trans {n m p : Node} (h : Own4 n m) (g : Own4 m p) : Own4 n p := ⟨h.1.trans g.1, h.2.1.trans g.2.1, h.2.2.1.trans g.2.2.1, h.2.2.2.trans g.2.2.2⟩
def Like (a b : List Node) (i j : Nat) : Prop := alkC a b (alkT a b i) i j = true
theorem ahead_kid {a : List Node} (ha : AheadN a) {i k : Nat} (hi : i < a.length) (hk : k < (nd a i).kids.length) : 0 ≤ rd (nd a i).kids (k : Int) ∧ rd (nd a i).kids (k : Int) < (i : Int) := by
  rw [rd_eq hk]
  exact ha i hi _ (List.getElem_mem hk)
theorem like_iff {a b : List Node} (ha : AheadN a) (hb : AheadN b) {i j : Nat} (hi : i < a.length) (hj : j < b.length) :
    Like a b i j ↔ Own4 (nd a i) (nd b j) ∧ ∀ k : Nat, k < (nd a i).kids.length → Like a b (rd (nd a i).kids (k : Int)).toNat (rd (nd b j).kids (k : Int)).toNat := by
  unfold Like
  conv => lhs; unfold alkC
  rw [decide_eq_true_iff]
  refine ⟨fun ⟨h1, h2, h3, h4, h5⟩ => ⟨⟨h1, h2, h3, h4⟩, fun k hk => ?_⟩, fun ⟨⟨h1, h2, h3, h4⟩, h5⟩ => ⟨h1, h2, h3, h4, fun k hk => ?_⟩⟩
  · have x1 := ahead_kid ha hi hk
    have x2 := ahead_kid hb hj (k := k) (by omega)
    have := (h5 k hk).2.2
    rwa [alk_cell a b (by omega) (by omega)] at this
  · have x1 := ahead_kid ha hi hk
    have x2 := ahead_kid hb hj (k := k) (by omega)
    refine ⟨x1.2, x2.2, ?_⟩
    rw [alk_cell a b (by omega) (by omega)]
    exact h5 k hk
theorem like_co {a b : List Node} (ha : AheadN a) (hb : AheadN b) (R : Nat → Nat → Prop)
    (hR : ∀ i j : Nat, R i j → i < a.length ∧ j < b.length ∧ Own4 (nd a i) (nd b j) ∧ ∀ k : Nat, k < (nd a i).kids.length → R (rd (nd a i).kids (k : Int)).toNat (rd (nd b j).kids (k : Int)).toNat) :
    ∀ i j : Nat, R i j → Like a b i j := by
  intro i
  induction i using Nat.strongRecOn with
  | _ i ih =>
    intro j h
    obtain ⟨hi, hj, h1, h2⟩ := hR i j h
    refine (like_iff ha hb hi hj).2 ⟨h1, fun k hk => ?_⟩
    have x1 := ahead_kid ha hi hk
    exact ih _ (by omega) _ (h2 k hk)
theorem kid_nat {a : List Node} (ha : AheadN a) {i k : Nat} (hi : i < a.length) (hk : k < (nd a i).kids.length) : (rd (nd a i).kids (k : Int)).toNat < i := by
  have := ahead_kid ha hi hk
  omega
theorem like_refl {a : List Node} (ha : AheadN a) {i : Nat} (hi : i < a.length) : Like a a i i := by
  refine like_co ha ha (fun p q => p < a.length ∧ p = q) (fun p q h => ?_) i i ⟨hi, rfl⟩
  obtain ⟨hp, rfl⟩ := h
  refine ⟨hp, hp, Own4.refl _, fun k hk => ⟨?_, rfl⟩⟩
  have := kid_nat ha hp hk
  omega
theorem like_symm {a b : List Node} (ha : AheadN a) (hb : AheadN b) {i j : Nat} (hi : i < a.length) (hj : j < b.length) (h : Like a b i j) : Like b a j i := by
  refine like_co hb ha (fun p q => p < b.length ∧ q < a.length ∧ Like a b q p) (fun p q h => ?_) j i ⟨hj, hi, h⟩
  obtain ⟨hp, hq, h⟩ := h
  obtain ⟨h1, h2⟩ := (like_iff ha hb hq hp).1 h
  refine ⟨hp, hq, h1.symm, fun k hk => ?_⟩
  have hk' : k < (nd a q).kids.length := by rw [h1.2.2.2]; exact hk
  have x1 := kid_nat hb hp hk
  have x2 := kid_nat ha hq hk'
  exact ⟨by omega, by omega, h2 k hk'⟩
theorem like_trans {a b c : List Node} (ha : AheadN a) (hb : AheadN b) (hc : AheadN c) {i j m : Nat} (hi : i < a.length) (hj : j < b.length) (hm : m < c.length) (h : Like a b i j) (g : Like b c j m) : Like a c i m := by
  refine like_co ha hc (fun p q => p < a.length ∧ q < c.length ∧ ∃ r, r < b.length ∧ Like a b p r ∧ Like b c r q) (fun p q h => ?_) i m ⟨hi, hm, j, hj, h, g⟩
  obtain ⟨hp, hq, r, hr, h, g⟩ := h
  obtain ⟨h1, h2⟩ := (like_iff ha hb hp hr).1 h
  obtain ⟨g1, g2⟩ := (like_iff hb hc hr hq).1 g
  refine ⟨hp, hq, h1.trans g1, fun k hk => ?_⟩
  have hk' : k < (nd b r).kids.length := by rw [← h1.2.2.2]; exact hk
  have hk2 : k < (nd c q).kids.length := by rw [← g1.2.2.2]; exact hk'
  have x1 := kid_nat ha hp hk
  have x2 := kid_nat hb hr hk'
  have x3 := kid_nat hc hq hk2
  exact ⟨by omega, by omega, _, by omega, h2 k hk, g2 k hk'⟩
theorem like_num {T : Lib.PrintTabs} {vs : List (List UInt8)} {a b : List Node} {p q : List Int} (ha : AheadN a) (hb : AheadN b) (hp : Numd T vs a p) (hq : Numd T vs b q) {i j : Nat} (hi : i < a.length) (hj : j < b.length) :
    Like a b i j ↔ rd p (i : Int) = rd q (j : Int) := alk_num ha hb hp hq i j hi hj
end Go.Proofs.YtdfneldenipljaaDoor.L
end
section
namespace Go.Proofs.YtdfneldenipljaaDoor.L
open Go.RowKit Go.ChangeShapes Go.WideShapes Go.Proofs.YtdfneldenipljaaDoorW.PrintWords Go.Proofs.YtdfneldenipljaaDoorW.PrintLast Go.Proofs.YtdfneldenipljaaDoorW.PrintMore
attribute [local go_sem] max2_int min2_int max_two min_two max_three min_three max_four min_four
theorem canon_ahead {s : Scene} (h : Right s) : AheadN (canonL s) := fun _ hp _ hk => isC_ahead (canon_right h) (canon_isC h) hp hk
theorem canon_nd {s : Scene} (h : Right s) {p : Nat} (hp : p < s.nodes.length) : nd (canonL s) (idx s (p : Int)) = relab s (nd s.nodes p) := by
  have := (canon_iso h).nd (p : Int) ⟨by omega, by omega⟩
  rw [Int.toNat_natCast, Int.toNat_natCast, kids_nat] at this
  exact this
theorem canon_len {s : Scene} (h : Right s) : (canonL s).length = s.nodes.length := (canon_iso h).len
theorem right_kid {s : Scene} (h : Right s) {p k : Nat} (hp : p < s.nodes.length) (hk : k < (nd s.nodes p).kids.length) : 0 ≤ rd (nd s.nodes p).kids (k : Int) ∧ rd (nd s.nodes p).kids (k : Int) < (s.nodes.length : Int) := by
  rw [rd_eq hk]
  exact h.pl p hp _ (List.getElem_mem hk)
theorem rd_map_at {f : Int → Int} {l : List Int} {k : Nat} (hk : k < l.length) : rd (l.map f) (k : Int) = f (rd l (k : Int)) := by
  rw [rd_eq (by rw [List.length_map]; exact hk), rd_eq hk, List.getElem_map]
theorem like_canon {s t : Scene} (hs : Right s) (ht : Right t) (R : Nat → Nat → Prop)
    (hR : ∀ p q : Nat, R p q → p < s.nodes.length ∧ q < t.nodes.length ∧ Own4 (nd s.nodes p) (nd t.nodes q) ∧ ∀ k : Nat, k < (nd s.nodes p).kids.length → R (rd (nd s.nodes p).kids (k : Int)).toNat (rd (nd t.nodes q).kids (k : Int)).toNat) :
    ∀ p q : Nat, R p q → Like (canonL s) (canonL t) (idx s (p : Int)) (idx t (q : Int)) := fun p q h => by
  refine like_co (canon_ahead hs) (canon_ahead ht) (fun i j => ∃ p q : Nat, R p q ∧ i = idx s (p : Int) ∧ j = idx t (q : Int)) (fun i j hij => ?_) _ _ ⟨p, q, h, rfl, rfl⟩
  obtain ⟨p, q, h, rfl, rfl⟩ := hij
  obtain ⟨hp, hq, h1, h2⟩ := hR p q h
  have a1 := (at_idx hs hp).1
  have a2 := (at_idx ht hq).1
  rw [canon_len hs, canon_len ht, canon_nd hs hp, canon_nd ht hq]
  refine ⟨a1, a2, ⟨h1.1, h1.2.1, h1.2.2.1, by simpa [relab] using h1.2.2.2⟩, fun k hk => ?_⟩
  have hk1 : k < (nd s.nodes p).kids.length := by simpa [relab] using hk
  have hk2 : k < (nd t.nodes q).kids.length := by rw [← h1.2.2.2]; exact hk1
  have x1 := right_kid hs hp hk1
  have x2 := right_kid ht hq hk2
  refine ⟨_, _, h2 k hk1, ?_, ?_⟩
  · show (rd ((nd s.nodes p).kids.map (fun k => (idx s k : Int))) (k : Int)).toNat = _
    rw [rd_map_at hk1, Int.toNat_natCast, Int.toNat_of_nonneg x1.1]
  · show (rd ((nd t.nodes q).kids.map (fun k => (idx t k : Int))) (k : Int)).toNat = _
    rw [rd_map_at hk2, Int.toNat_natCast, Int.toNat_of_nonneg x2.1]
end Go.Proofs.YtdfneldenipljaaDoor.L
end
section
namespace Go.Proofs.YtdfneldenipljaaDoor.L
open Go.RowKit Go.ChangeShapes Go.WideShapes Go.Proofs.YtdfneldenipljaaDoorW.PrintWords Go.Proofs.YtdfneldenipljaaDoorW.PrintLast Go.Proofs.YtdfneldenipljaaDoorW.PrintMore
attribute [local go_sem] max2_int min2_int max_two min_two max_three min_three max_four min_four
theorem like_to {a : List Node} (ha : AheadN a) {t : Scene} (ht : Right t) (R : Nat → Nat → Prop)
    (hR : ∀ p q : Nat, R p q → p < a.length ∧ q < t.nodes.length ∧ Own4 (nd a p) (nd t.nodes q) ∧ ∀ k : Nat, k < (nd a p).kids.length → R (rd (nd a p).kids (k : Int)).toNat (rd (nd t.nodes q).kids (k : Int)).toNat) :
    ∀ p q : Nat, R p q → Like a (canonL t) p (idx t (q : Int)) := fun p q h => by
  refine like_co ha (canon_ahead ht) (fun i j => ∃ q : Nat, R i q ∧ j = idx t (q : Int)) (fun i j hij => ?_) _ _ ⟨q, h, rfl⟩
  obtain ⟨q, h, rfl⟩ := hij
  obtain ⟨hp, hq, h1, h2⟩ := hR i q h
  have a2 := (at_idx ht hq).1
  rw [canon_len ht, canon_nd ht hq]
  refine ⟨hp, a2, ⟨h1.1, h1.2.1, h1.2.2.1, by simpa [relab] using h1.2.2.2⟩, fun k hk => ?_⟩
  have hk2 : k < (nd t.nodes q).kids.length := by rw [← h1.2.2.2]; exact hk
  have x2 := right_kid ht hq hk2
  refine ⟨_, h2 k hk, ?_⟩
  show (rd ((nd t.nodes q).kids.map (fun k => (idx t k : Int))) (k : Int)).toNat = _
  rw [rd_map_at hk2, Int.toNat_natCast, Int.toNat_of_nonneg x2.1]
def canS (s : Scene) : Scene := ⟨canonL s, (s.nodes.length : Int) - 1⟩
def ownC (T : Lib.PrintTabs) (s : Scene) : List Int := (ownS T [] (canonL s)).2
def shr0 (T : Lib.PrintTabs) (s : Scene) : Scene := shrS (ownC T s) (canS s)
def shareS (T : Lib.PrintTabs) (s : Scene) : Scene := canS (shr0 T s)
def SameT (s t : Scene) : Prop := Like (canonL s) (canonL t) (s.nodes.length - 1) (t.nodes.length - 1)
section
variable {T : Lib.PrintTabs} {s t : Scene}
theorem right_pos (h : Right s) : 0 < s.nodes.length := by have := h.r0; have := h.r1; omega
theorem ownC_cls (T : Lib.PrintTabs) (h : Right s) : Cls (canonL s) (ownC T s) := own_cls T (canon_ahead h)
theorem ownC_numd (T : Lib.PrintTabs) (h : Right s) : Numd T (ownS T [] (canonL s)).1 (canonL s) (ownC T s) := (own_spec T [] (canon_ahead h)).numd
theorem ownC_like (h : Right s) {i j : Nat} (hi : i < (canonL s).length) (hj : j < (canonL s).length) : Like (canonL s) (canonL s) i j ↔ rd (ownC T s) (i : Int) = rd (ownC T s) (j : Int) :=
  like_num (canon_ahead h) (canon_ahead h) (ownC_numd T h) (ownC_numd T h) hi hj
theorem shr0_right (T : Lib.PrintTabs) (h : Right s) : Right (shr0 T s) := shr_right (s := canS s) (canon_right h) (ownC_cls T h)
theorem shr0_len (T : Lib.PrintTabs) (s : Scene) : (shr0 T s).nodes.length = cntF (ownC T s) 0 (canonL s).length := shr_len _ _ _
theorem shr0_nd (h : Right s) {i : Nat} (hi : i < (canonL s).length) : nd (shr0 T s).nodes (rd (ownC T s) (i : Int)).toNat = reN (ownC T s) (nd (canonL s) i) := shr_at (ownC_cls T h) _ (Nat.le_refl _) i hi
theorem ownC_at (h : Right s) {i : Nat} (hi : i < (canonL s).length) : 0 ≤ rd (ownC T s) (i : Int) ∧ rd (ownC T s) (i : Int) < ((shr0 T s).nodes.length : Int) := by
  have hc := ownC_cls T h
  rw [shr0_len]
  exact ⟨(hc.rise i hi).1, hc.rise.lt hi (Nat.le_refl _)⟩
theorem ownC_onto (h : Right s) {x : Nat} (hx : x < (shr0 T s).nodes.length) : ∃ i : Nat, i < (canonL s).length ∧ rd (ownC T s) (i : Int) = (x : Int) := by
  rw [shr0_len] at hx
  exact cnt_onto (Nat.zero_le _) hx
theorem share_like (h : Right s) {i : Nat} (hi : i < (canonL s).length) : Like (canonL s) (canonL (shr0 T s)) i (idx (shr0 T s) (rd (ownC T s) (i : Int))) := by
  have hA := canon_ahead h
  have key := like_to hA (shr0_right T h) (fun p q => p < (canonL s).length ∧ (q : Int) = rd (ownC T s) (p : Int)) (fun p q hpq => by
    obtain ⟨hp, hq⟩ := hpq
    have h1 := ownC_at (T := T) h hp
    have h2 := shr0_nd (T := T) h hp
    rw [← hq, Int.toNat_natCast] at h2
    rw [h2]
    refine ⟨hp, by omega, ⟨rfl, rfl, rfl, by simp [reN]⟩, fun k hk => ?_⟩
    have h3 := ahead_kid hA hp hk
    have h4 : (rd (nd (canonL s) p).kids (k : Int)).toNat < (canonL s).length := by omega
    refine ⟨h4, ?_⟩
    show ((rd ((nd (canonL s) p).kids.map (rd (ownC T s))) (k : Int)).toNat : Int) = _
    rw [rd_map_at hk, Int.toNat_of_nonneg h3.1]
    have h5 := (ownC_at (T := T) h h4).1
    rw [Int.toNat_of_nonneg h3.1] at h5
    exact Int.toNat_of_nonneg h5)
  have h1 := ownC_at (T := T) h hi
  obtain ⟨q, hq⟩ : ∃ q : Nat, rd (ownC T s) (i : Int) = (q : Int) := ⟨_, (Int.toNat_of_nonneg h1.1).symm⟩
  rw [hq]
  exact key i q ⟨hi, hq.symm⟩
theorem share_same (T : Lib.PrintTabs) (h : Right s) : SameT s (shr0 T s) := by
  have hn := right_pos h
  have h1 := share_like (T := T) h (i := s.nodes.length - 1) (by rw [canon_len h]; omega)
  have h2 := canon_root (shr0_right T h)
  have h3 : (shr0 T s).root = rd (ownC T s) ((s.nodes.length - 1 : Nat) : Int) := by
    show rd (ownC T s) ((s.nodes.length : Int) - 1) = _
    rw [show ((s.nodes.length - 1 : Nat) : Int) = (s.nodes.length : Int) - 1 from by omega]
  have hp := right_pos (shr0_right T h)
  rw [← h3, show idx (shr0 T s) (shr0 T s).root = (shr0 T s).nodes.length - 1 from by omega] at h1
  exact h1
theorem same_lt (h : Right s) : s.nodes.length - 1 < (canonL s).length := by
  have := right_pos h
  rw [canon_len h]; omega
theorem SameT.refl (h : Right s) : SameT s s := like_refl (canon_ahead h) (same_lt h)
theorem SameT.symm (hs : Right s) (ht : Right t) (h : SameT s t) : SameT t s := like_symm (canon_ahead hs) (canon_ahead ht) (same_lt hs) (same_lt ht) h
theorem SameT.trans {u : Scene} (hs : Right s) (ht : Right t) (hu : Right u) (h : SameT s t) (g : SameT t u) : SameT s u := like_trans (canon_ahead hs) (canon_ahead ht) (canon_ahead hu) (same_lt hs) (same_lt ht) (same_lt hu) h g
theorem same_all (hs : Right s) (ht : Right t) (h : SameT s t) {j : Nat} (hj : j < (canonL t).length) : ∃ i : Nat, i < (canonL s).length ∧ Like (canonL s) (canonL t) i j := by
  have hc := canon_right ht
  have key : ∀ x : Int, Rch (canonL t) [(t.nodes.length : Int) - 1] x → 0 ≤ x ∧ x < ((canonL t).length : Int) ∧ ∃ i : Nat, i < (canonL s).length ∧ Like (canonL s) (canonL t) i x.toNat := fun x hx => by
    induction hx with
    | base hk =>
      rw [List.mem_singleton.1 hk]
      have h1 := same_lt ht
      have h2 := right_pos ht
      have e : ((t.nodes.length : Int) - 1).toNat = t.nodes.length - 1 := by omega
      exact ⟨by omega, by omega, _, same_lt hs, by rw [e]; exact h⟩
    | @step j k _ hk ih =>
      obtain ⟨h0, h1, i, hi, hl⟩ := ih
      have hj : j.toNat < (canonL t).length := by omega
      obtain ⟨g1, g2⟩ := (like_iff (canon_ahead hs) (canon_ahead ht) hi hj).1 hl
      obtain ⟨m, hm, e⟩ := List.getElem_of_mem (show k ∈ (nd (canonL t) j.toNat).kids from hk)
      have hm' : m < (nd (canonL s) i).kids.length := by rw [g1.2.2.2]; exact hm
      have x1 := kid_nat (canon_ahead hs) hi hm'
      have x2 := ahead_kid (canon_ahead ht) hj hm
      have e2 : rd (nd (canonL t) j.toNat).kids (m : Int) = k := by rw [rd_eq hm]; exact e
      have h3 := g2 m hm'
      rw [e2] at h3 x2
      exact ⟨x2.1, by omega, _, by omega, h3⟩
  have := (key (j : Int) (hc.all j hj)).2.2
  rwa [Int.toNat_natCast] at this
open Classical in
noncomputable def trF (T : Lib.PrintTabs) (s t : Scene) (x : Int) : Int :=
  if h : ∃ i : Nat, i < (canonL s).length ∧ ∃ j : Nat, j < (canonL t).length ∧ rd (ownC T t) (j : Int) = x ∧ Like (canonL s) (canonL t) i j then rd (ownC T s) ((Classical.choose h : Nat) : Int) else 0
theorem trF_eq (hs : Right s) (ht : Right t) {i j : Nat} (hi : i < (canonL s).length) (hj : j < (canonL t).length) (h : Like (canonL s) (canonL t) i j) : trF T s t (rd (ownC T t) (j : Int)) = rd (ownC T s) (i : Int) := by
  have he : ∃ i : Nat, i < (canonL s).length ∧ ∃ j' : Nat, j' < (canonL t).length ∧ rd (ownC T t) (j' : Int) = rd (ownC T t) (j : Int) ∧ Like (canonL s) (canonL t) i j' := ⟨i, hi, j, hj, rfl, h⟩
  unfold trF
  rw [dif_pos he]
  obtain ⟨hi', j', hj', e, hl⟩ := Classical.choose_spec he
  have h1 := (ownC_like (T := T) ht hj' hj).2 e
  have h2 := like_trans (canon_ahead hs) (canon_ahead ht) (canon_ahead ht) hi' hj' hj hl h1
  have h3 := like_symm (canon_ahead hs) (canon_ahead ht) hi hj h
  have h4 := like_trans (canon_ahead hs) (canon_ahead ht) (canon_ahead hs) hi' hj hi h2 h3
  exact (ownC_like (T := T) hs hi' hi).1 h4
theorem share_le (hs : Right s) (ht : Right t) (h : SameT s t) : (shr0 T t).nodes.length ≤ (shr0 T s).nodes.length := by
  have h1 : (((List.range (shr0 T t).nodes.length).map (fun p : Nat => trF T s t (p : Int)))).Nodup := by
    refine List.pairwise_map.2 (List.Pairwise.imp_of_mem ?_ List.nodup_range)
    intro x y hx hy hxy e
    obtain ⟨j, hj, ej⟩ := ownC_onto (T := T) ht (List.mem_range.1 hx)
    obtain ⟨j', hj', ej'⟩ := ownC_onto (T := T) ht (List.mem_range.1 hy)
    obtain ⟨i, hi, hl⟩ := same_all hs ht h hj
    obtain ⟨i', hi', hl'⟩ := same_all hs ht h hj'
    rw [← ej, ← ej', trF_eq hs ht hi hj hl, trF_eq hs ht hi' hj' hl'] at e
    have h2 := (ownC_like (T := T) hs hi hi').2 e
    have h3 := like_trans (canon_ahead ht) (canon_ahead hs) (canon_ahead hs) hj hi hi' (like_symm (canon_ahead hs) (canon_ahead ht) hi hj hl) h2
    have h4 := like_trans (canon_ahead ht) (canon_ahead hs) (canon_ahead ht) hj hi' hj' h3 hl'
    have h5 := (ownC_like (T := T) ht hj hj').1 h4
    exact hxy (by omega)
  have h2 := nodup_len (n := (shr0 T s).nodes.length) h1 (fun x hx => by
    obtain ⟨p, hp, rfl⟩ := List.mem_map.1 hx
    obtain ⟨j, hj, ej⟩ := ownC_onto (T := T) ht (List.mem_range.1 hp)
    obtain ⟨i, hi, hl⟩ := same_all hs ht h hj
    rw [← ej, trF_eq hs ht hi hj hl]
    exact ownC_at hs hi)
  rwa [List.length_map, List.length_range] at h2
theorem share_iso (hs : Right s) (ht : Right t) (h : SameT s t) : Iso (shr0 T s).nodes (shr0 T t).nodes (trF T s t) := by
  have at_ : ∀ x : Int, Pl (shr0 T t).nodes x → ∃ i j : Nat, i < (canonL s).length ∧ j < (canonL t).length ∧ x = rd (ownC T t) (j : Int) ∧ Like (canonL s) (canonL t) i j := fun x hx => by
    have h1 := hx.1
    have h2 := hx.2
    obtain ⟨j, hj, ej⟩ := ownC_onto (T := T) ht (x := x.toNat) (by omega)
    obtain ⟨i, hi, hl⟩ := same_all hs ht h hj
    exact ⟨i, j, hi, hj, by omega, hl⟩
  refine ⟨Nat.le_antisymm (share_le ht hs (h.symm hs ht)) (share_le hs ht h), fun x hx => ?_, fun x y hx hy e => ?_, fun x hx => ?_⟩
  · obtain ⟨i, j, hi, hj, rfl, hl⟩ := at_ x hx
    rw [trF_eq hs ht hi hj hl]
    exact ownC_at hs hi
  · obtain ⟨i, j, hi, hj, rfl, hl⟩ := at_ x hx
    obtain ⟨i', j', hi', hj', rfl, hl'⟩ := at_ y hy
    rw [trF_eq hs ht hi hj hl, trF_eq hs ht hi' hj' hl'] at e
    have h2 := (ownC_like (T := T) hs hi hi').2 e
    have h3 := like_trans (canon_ahead ht) (canon_ahead hs) (canon_ahead hs) hj hi hi' (like_symm (canon_ahead hs) (canon_ahead ht) hi hj hl) h2
    have h4 := like_trans (canon_ahead ht) (canon_ahead hs) (canon_ahead ht) hj hi' hj' h3 hl'
    exact (ownC_like (T := T) ht hj hj').1 h4
  · obtain ⟨i, j, hi, hj, rfl, hl⟩ := at_ x hx
    rw [trF_eq hs ht hi hj hl, shr0_nd hs hi]
    have e2 : kids (shr0 T t).nodes (rd (ownC T t) (j : Int)) = ((nd (canonL t) j).kids.map (rd (ownC T t))) := by
      show (nd (shr0 T t).nodes (rd (ownC T t) (j : Int)).toNat).kids = _
      rw [shr0_nd ht hj]; rfl
    rw [e2, shr0_nd ht hj]
    obtain ⟨g1, g2⟩ := (like_iff (canon_ahead hs) (canon_ahead ht) hi hj).1 hl
    have e3 : (nd (canonL s) i).kids.map (rd (ownC T s)) = ((nd (canonL t) j).kids.map (rd (ownC T t))).map (trF T s t) := by
      refine List.ext_getElem (by rw [List.length_map, List.length_map, List.length_map]; exact g1.2.2.2) (fun k k1 k2 => ?_)
      rw [List.length_map] at k1
      have k3 : k < (nd (canonL t) j).kids.length := by rw [← g1.2.2.2]; exact k1
      rw [List.getElem_map, List.getElem_map, List.getElem_map, ← rd_eq k1, ← rd_eq k3]
      have x1 := ahead_kid (canon_ahead hs) hi k1
      have x2 := ahead_kid (canon_ahead ht) hj k3
      have := trF_eq (T := T) hs ht (by omega) (by omega) (g2 k k1)
      rw [Int.toNat_of_nonneg x1.1, Int.toNat_of_nonneg x2.1] at this
      exact this.symm
    show Node.mk _ _ _ _ = Node.mk _ _ _ _
    rw [e3, g1.1, g1.2.1, g1.2.2.1]
    rfl
theorem share_eq (T : Lib.PrintTabs) (hs : Right s) (ht : Right t) (h : SameT s t) : shareS T s = shareS T t := by
  have hi := share_iso (T := T) hs ht h
  have hR := shr0_right T ht
  have hr : (shr0 T s).root = trF T s t (shr0 T t).root := by
    show rd (ownC T s) ((s.nodes.length : Int) - 1) = trF T s t (rd (ownC T t) ((t.nodes.length : Int) - 1))
    have := trF_eq (T := T) hs ht (same_lt hs) (same_lt ht) h
    have h1 := right_pos hs
    have h2 := right_pos ht
    rw [show ((s.nodes.length - 1 : Nat) : Int) = (s.nodes.length : Int) - 1 from by omega, show ((t.nodes.length - 1 : Nat) : Int) = (t.nodes.length : Int) - 1 from by omega] at this
    exact this.symm
  unfold shareS canS
  rw [hi.canonL hR.pl ⟨hR.r0, hR.r1⟩ hr, hi.len]
theorem share_conv (hs : Right s) (ht : Right t) (h : shareS T s = shareS T t) : SameT s t := by
  have e1 : canonL (shr0 T s) = canonL (shr0 T t) := congrArg Scene.nodes h
  have e2 : (shr0 T s).nodes.length = (shr0 T t).nodes.length := by
    have := congrArg List.length e1
    rwa [canon_len (shr0_right T hs), canon_len (shr0_right T ht)] at this
  have h1 := share_same T hs
  have h2 := share_same T ht
  have h3 : SameT s (shr0 T t) := by
    unfold SameT at h1 ⊢
    rw [e1, e2] at h1
    exact h1
  exact h3.trans hs (shr0_right T ht) ht (h2.symm ht (shr0_right T ht))
theorem share_lenle (T : Lib.PrintTabs) (hs : Right s) : (shareS T s).nodes.length ≤ s.nodes.length := by
  show (canonL (shr0 T s)).length ≤ _
  rw [canon_len (shr0_right T hs), shr0_len, canon_len hs]
  have : ∀ n : Nat, cntF (ownC T s) 0 n ≤ n := fun n => by
    induction n with
    | zero => exact Nat.le_refl _
    | succ n ih =>
      show (if rd (ownC T s) (n : Int) = (cntF (ownC T s) 0 n : Int) then cntF (ownC T s) 0 n + 1 else cntF (ownC T s) 0 n) ≤ n + 1
      split <;> omega
  exact this _
theorem share_one (hs : Right s) {i j : Nat} (hi : i < (shareS T s).nodes.length) (hj : j < (shareS T s).nodes.length) (h : Like (shareS T s).nodes (shareS T s).nodes i j) : i = j := by
  have hR := shr0_right T hs
  have hA := canon_ahead hs
  have hB := canon_ahead hR
  have hi : i < (canonL (shr0 T s)).length := hi
  have hj : j < (canonL (shr0 T s)).length := hj
  have back : ∀ m : Nat, m < (canonL (shr0 T s)).length → ∃ p : Nat, p < (canonL s).length ∧ m = idx (shr0 T s) (rd (ownC T s) (p : Int)) := fun m hm => by
    rw [canon_len hR] at hm
    obtain ⟨q, hq, hqn⟩ := ord_at hR hm
    obtain ⟨p, hp, e⟩ := ownC_onto (T := T) hs hqn
    refine ⟨p, hp, ?_⟩
    rw [e, ← hq, idx_at hR hm]
  obtain ⟨p, hp, ep⟩ := back i hi
  obtain ⟨q, hq, eq⟩ := back j hj
  have h1 := share_like (T := T) hs hp
  have h2 := share_like (T := T) hs hq
  rw [← ep] at h1
  rw [← eq] at h2
  have h3 := like_trans hA hB hB hp hi hj h1 h
  have h4 := like_trans hA hB hA hp hj hq h3 (like_symm hA hB hq hj h2)
  rw [ep, eq, (ownC_like (T := T) hs hp hq).1 h4]
theorem share_idem {u : Scene} (hu : Right u) (hc : isC u = true) (h1 : ∀ i j : Nat, i < u.nodes.length → j < u.nodes.length → Like u.nodes u.nodes i j → i = j) : shareS T u = u := by
  have ec : canS u = u := (isC_eq hu hc).symm
  have en : canonL u = u.nodes := congrArg Scene.nodes ec
  have er : (u.nodes.length : Int) - 1 = u.root := congrArg Scene.root ec
  have hcl := ownC_cls T hu
  rw [en] at hcl
  have key : ∀ i : Nat, i ≤ u.nodes.length → cntF (ownC T u) 0 i = i ∧ ∀ j : Nat, j < i → rd (ownC T u) (j : Int) = (j : Int) := fun i => by
    induction i with
    | zero => exact fun _ => ⟨rfl, fun j h => by omega⟩
    | succ i ih =>
      intro hi
      obtain ⟨e, hj⟩ := ih (by omega)
      have h2 := hcl.rise i (by omega)
      have h3 : rd (ownC T u) (i : Int) = (i : Int) := by
        refine Classical.byContradiction fun hn => ?_
        obtain ⟨m, hm⟩ : ∃ m : Nat, rd (ownC T u) (i : Int) = (m : Int) := ⟨_, (Int.toNat_of_nonneg h2.1).symm⟩
        have hmi : m < i := by omega
        have h4 := (ownC_like (T := T) hu (i := i) (j := m) (by rw [en]; omega) (by rw [en]; omega)).2 (by rw [hm, hj m hmi])
        rw [en] at h4
        have := h1 i m (by omega) (by omega) h4
        omega
      exact ⟨by rw [cntF, e, if_pos h3], ext_lt hj h3⟩
  have hrd := (key _ (Nat.le_refl _)).2
  have hU : ∀ i : Nat, i ≤ u.nodes.length → shrU u.nodes (ownC T u) i = u.nodes.take i := fun i => by
    induction i with
    | zero => exact fun _ => rfl
    | succ i ih =>
      intro hi
      have h2 := ih (by omega)
      show (if rd (ownC T u) (i : Int) = ((shrU u.nodes (ownC T u) i).length : Int) then shrU u.nodes (ownC T u) i ++ [reN (ownC T u) (nd u.nodes i)] else shrU u.nodes (ownC T u) i) = _
      rw [if_pos (by rw [hrd i (by omega), shr_len, (key i (by omega)).1]), h2, take_succ_getD nodez (show i < u.nodes.length by omega)]
      have e : reN (ownC T u) (nd u.nodes i) = nd u.nodes i := by
        have hk : (nd u.nodes i).kids.map (rd (ownC T u)) = (nd u.nodes i).kids := by
          conv => rhs; rw [← List.map_id (nd u.nodes i).kids]
          refine List.map_congr_left (fun k hk => ?_)
          have h5 := hcl.ahead i (by omega) k hk
          obtain ⟨m, rfl⟩ : ∃ m : Nat, k = (m : Int) := ⟨k.toNat, by omega⟩
          exact hrd m (by omega)
        unfold reN
        rw [hk]
      rw [e]; rfl
  have hn := right_pos hu
  have e0 : shr0 T u = u := by
    show Scene.mk (shrU (canonL u) (ownC T u) (canonL u).length) (rd (ownC T u) ((u.nodes.length : Int) - 1)) = u
    rw [en, hU _ (Nat.le_refl _), List.take_length]
    have h6 := hrd (u.nodes.length - 1) (by omega)
    rw [show ((u.nodes.length - 1 : Nat) : Int) = (u.nodes.length : Int) - 1 from by omega] at h6
    rw [h6, er]
  unfold shareS
  rw [e0, ec]
theorem share_right (T : Lib.PrintTabs) (hs : Right s) : Right (shareS T s) := canon_right (shr0_right T hs)
theorem share_isC (T : Lib.PrintTabs) (hs : Right s) : isC (shareS T s) = true := canon_isC (shr0_right T hs)
theorem share_twice (T : Lib.PrintTabs) (hs : Right s) : shareS T (shareS T s) = shareS T s := share_idem (share_right T hs) (share_isC T hs) (fun _ _ hi hj h => share_one hs hi hj h)
theorem canS_same (hs : Right s) : SameT s (canS s) := by
  have hR := canon_right hs
  have e : canonL (canS s) = canonL s := congrArg Scene.nodes (isC_eq hR (canon_isC hs)).symm
  have el : (canS s).nodes.length = s.nodes.length := canon_len hs
  unfold SameT
  rw [e, el]
  exact like_refl (canon_ahead hs) (same_lt hs)
theorem shareS_same (T : Lib.PrintTabs) (hs : Right s) : SameT s (shareS T s) := (share_same T hs).trans hs (shr0_right T hs) (share_right T hs) (canS_same (shr0_right T hs))
end
end Go.Proofs.YtdfneldenipljaaDoor.L
end
section
namespace Go.Proofs.YtdfneldenipljaaDoor.L
open Go.RowKit Go.ChangeShapes Go.WideShapes Go.Proofs.YtdfneldenipljaaDoorW.PrintWords Go.Proofs.YtdfneldenipljaaDoorW.PrintLast Go.Proofs.YtdfneldenipljaaDoorW.PrintMore
attribute [local go_sem] max2_int min2_int max_two min_two max_three min_three max_four min_four
structure FitN (n : Node) : Prop where
  ints : n.ints.length ≤ 100
  texts : n.texts.length ≤ 100
  kids : n.kids.length ≤ 300
  size : ∀ x ∈ n.texts, x.size ≤ 500
  nb : NBd n
theorem FitN.small {n : Node} (h : FitN n) : Small n := ⟨by have := h.ints; omega, by have := h.texts; omega, by have := h.kids; omega⟩
theorem FitN.like {n m : Node} (h : FitN n) (h1 : m.kind = n.kind) (h2 : m.ints = n.ints) (h3 : m.texts = n.texts) (h4 : m.kids.length = n.kids.length) : FitN m :=
  ⟨by rw [h2]; exact h.ints, by rw [h3]; exact h.texts, by rw [h4]; exact h.kids, by rw [h3]; exact h.size, ⟨by rw [h1]; exact h.nb.kind, by rw [h2]; exact h.nb.ints⟩⟩
def Fit (ns : List Node) : Prop := ns.length ≤ 60 ∧ ∀ i : Nat, i < ns.length → FitN (nd ns i)
theorem Fit.rows {ns : List Node} (h : Fit ns) : L.rows ns ≤ 130000 := by
  have h1 := rows_leB (ns := ns) (b := 300) (fun i hi => (h.2 i hi).kids)
  have h2 : ns.length * (300 + 1) ≤ 60 * 301 := Nat.mul_le_mul (by have := h.1; omega) (by omega)
  omega
theorem Fit.small {ns : List Node} (h : Fit ns) : ∀ i : Nat, i < ns.length → Small (nd ns i) := fun i hi => (h.2 i hi).small
theorem fit_of_great {s : Scene} (hg : greatS s = false) (hN : ∀ i : Nat, i < s.nodes.length → NBd (nd s.nodes i)) : Fit s.nodes := by
  have h1 := of_decide_eq_false hg
  refine ⟨Nat.le_of_not_lt fun e => h1 (.inl e), fun i hi => ?_⟩
  have h3 := of_decide_eq_false (Bool.eq_false_iff.2 (fun e => h1 (.inr (.inr ⟨i, hi, e⟩))) : greatN (nd s.nodes i) = false)
  refine ⟨Nat.le_of_not_lt fun e => h3 (.inl e), Nat.le_of_not_lt fun e => h3 (.inr (.inl e)), Nat.le_of_not_lt fun e => h3 (.inr (.inr (.inl e))), fun x hx => ?_, hN i hi⟩
  obtain ⟨j, hj, rfl⟩ := List.getElem_of_mem hx
  refine Nat.le_of_not_lt fun e => h3 (.inr (.inr (.inr ⟨j, hj, ?_⟩)))
  unfold str
  rw [getD_eq _ hj]
  exact e
theorem fit_of_mem {ns : List Node} (h1 : ns.length ≤ 60) (h2 : ∀ n ∈ ns, FitN n) : Fit ns := ⟨h1, fun i hi => h2 _ (by unfold nd; rw [getD_eq _ hi]; exact List.getElem_mem hi)⟩
theorem Fit.canon {s : Scene} (hr : Right s) (h : Fit s.nodes) : Fit (canonL s) := by
  refine fit_of_mem (by rw [canon_len hr]; exact h.1) (fun n hn => ?_)
  obtain ⟨q, hq, rfl⟩ := List.mem_map.1 hn
  have hpl := ord_pl hr q hq
  refine (h.2 q.toNat (by have := hpl.1; have := hpl.2; omega)).like rfl rfl rfl ?_
  show (List.map _ _).length = _
  rw [List.length_map]
theorem shrU_mem {ns : List Node} {own : List Int} : ∀ {m : Nat}, ∀ n ∈ shrU ns own m, ∃ i : Nat, i < m ∧ n = reN own (nd ns i)
  | 0, n, h => by cases h
  | m + 1, n, h => by
    have h : n ∈ (if rd own (m : Int) = ((shrU ns own m).length : Int) then shrU ns own m ++ [reN own (nd ns m)] else shrU ns own m) := h
    split at h
    · rcases List.mem_append.1 h with h | h
      · obtain ⟨i, hi, e⟩ := shrU_mem n h
        exact ⟨i, by omega, e⟩
      · exact ⟨m, by omega, List.mem_singleton.1 h⟩
    · obtain ⟨i, hi, e⟩ := shrU_mem n h
      exact ⟨i, by omega, e⟩
theorem cnt_le (own : List Int) : ∀ n : Nat, cntF own 0 n ≤ n
  | 0 => Nat.le_refl _
  | n + 1 => by
    have ih := cnt_le own n
    show (if rd own (n : Int) = (cntF own 0 n : Int) then cntF own 0 n + 1 else cntF own 0 n) ≤ n + 1
    split <;> omega
theorem Fit.shr {ns : List Node} (own : List Int) (h : Fit ns) : Fit (shrU ns own ns.length) := by
  refine fit_of_mem (by rw [shr_len]; have := cnt_le own ns.length; have := h.1; omega) (fun n hn => ?_)
  obtain ⟨i, hi, rfl⟩ := shrU_mem n hn
  refine (h.2 i hi).like rfl rfl rfl ?_
  show (List.map _ _).length = _
  rw [List.length_map]
theorem Fit.shr0 {s : Scene} (T : Lib.PrintTabs) (hr : Right s) (h : Fit s.nodes) : Fit (L.shr0 T s).nodes := (h.canon hr).shr _
theorem Fit.share {s : Scene} (T : Lib.PrintTabs) (hr : Right s) (h : Fit s.nodes) : Fit (shareS T s).nodes := (h.shr0 T hr).canon (shr0_right T hr)
end Go.Proofs.YtdfneldenipljaaDoor.L
end
section
namespace Go.Proofs.YtdfneldenipljaaDoor.L
open Go.RowKit Go.ChangeShapes Go.WideShapes Go.Proofs.YtdfneldenipljaaDoorW.PrintWords Go.Proofs.YtdfneldenipljaaDoorW.PrintLast Go.Proofs.YtdfneldenipljaaDoorW.PrintMore
attribute [local go_sem] max2_int min2_int max_two min_two max_three min_three max_four min_four
open Classical in
noncomputable def eqT (a b : Scene) : Bool := decide (Right a ∧ Right b ∧ SameT a b)
open Classical in
theorem eqT_yes {a b : Scene} (ha : Right a) (hb : Right b) (h : SameT a b) : eqT a b = true := decide_eq_true ⟨ha, hb, h⟩
open Classical in
theorem eqT_no {a b : Scene} (h : ¬ (Right a ∧ Right b ∧ SameT a b)) : eqT a b = false := decide_eq_false h
theorem canR_root (s : Scene) : ∃ r : Nat, (canonR s).root = (r : Int) := by
  unfold canonR
  split
  · rename_i h
    have := gcheck_right.1 h
    have h0 := this.r0
    have h1 := this.r1
    exact ⟨s.nodes.length - 1, by show (s.nodes.length : Int) - 1 = _; omega⟩
  · exact ⟨0, rfl⟩
theorem Fit.scbd {s : Scene} (h : Fit s.nodes) : ScBd s := ⟨fun i hi => ⟨(h.2 i hi).small, fun x hx => Nat.le_trans ((h.2 i hi).size x hx) (by omega), (h.2 i hi).nb⟩, by have := h.rows; omega⟩
theorem canR_eq {s : Scene} (h : Right s) : canonR s = canS s := by
  unfold canonR
  rw [if_pos (gcheck_right.2 h)]
  rfl
theorem two_roots (T : Lib.PrintTabs) {a b : Scene} (ha : Right a) (hb : Right b) : ∃ o1 o2 : List Int, (allS T [canS a, canS b]).2 = [o1, o2] ∧ o1.length = a.nodes.length ∧ o2.length = b.nodes.length ∧ (rd o1 ((a.nodes.length : Int) - 1) = rd o2 ((b.nodes.length : Int) - 1) ↔ SameT a b) := by
  have hA : ∀ s ∈ [canS a, canS b], AheadN s.nodes := fun s hs => by
    rcases List.mem_cons.1 hs with rfl | hs
    · exact canon_ahead ha
    · rw [List.mem_singleton.1 hs]
      exact canon_ahead hb
  refine ⟨(ownS T [] (canonL a)).2, (ownS T (ownS T [] (canonL a)).1 (canonL b)).2, rfl, by rw [own_len T _ _ _ rfl, canon_len ha], by rw [own_len T _ _ _ rfl, canon_len hb], ?_⟩
  have h1 := all_alk (T := T) hA (i := 0) (k := 1) (by simp) (by simp) (j := a.nodes.length - 1) (m := b.nodes.length - 1) (same_lt ha) (same_lt hb)
  have e1 : ((a.nodes.length - 1 : Nat) : Int) = (a.nodes.length : Int) - 1 := by have := right_pos ha; omega
  have e2 : ((b.nodes.length - 1 : Nat) : Int) = (b.nodes.length : Int) - 1 := by have := right_pos hb; omega
  rw [e1, e2] at h1
  have h2 : ((alkT (canonL a) (canonL b) (canonL a).length).getD (a.nodes.length - 1) []).getD (b.nodes.length - 1) false = alkC (canonL a) (canonL b) (alkT (canonL a) (canonL b) (a.nodes.length - 1)) (a.nodes.length - 1) (b.nodes.length - 1) := alk_cell _ _ (same_lt ha) (same_lt hb)
  refine Iff.trans h1.symm ?_
  show ((alkT (canonL a) (canonL b) (canonL a).length).getD (a.nodes.length - 1) []).getD (b.nodes.length - 1) false = true ↔ _
  rw [h2]
  exact Iff.rfl
set_option maxRecDepth 100000 in
set_option maxHeartbeats 8000000 in
theorem uequal_any (T : Lib.PrintTabs) (A : Option Addr) (c : Nat) (a : Scene) (B : Option Addr) (d : Nat) (b : Scene) (w : World) (h : kNode.C w A a.nodes.length a.nodes) (hc : a.nodes.length ≤ c) (h' : kNode.C w B b.nodes.length b.nodes) (hd : b.nodes.length ≤ d)
    (hFa : Fit a.nodes) (hFb : Fit b.nodes) (hT : QTabs T w) :
    Calls Tryd.prog 24 #[.agg #[.slice A a.nodes.length c, .int .i64 a.root], .agg #[.slice B b.nodes.length d, .int .i64 b.root]] w fun e w' => e = .returned (.bool (eqT a b)) ∧ Below w.heap.size w w' := by
  have HR := Aside0.mk h
  have HR' := Aside0.mk h'
  have HFa := Aside0.mk hFa
  have HFb := Aside0.mk hFb
  have HT := Aside0.mk hT
  have hu := Tryd.underlying34
  have hA0 := below_alloc (Below.refl w.heap.size w) (.cells #[.slice A a.nodes.length c, .int .i64 a.root] 34)
  have hA1 := below_alloc (Below.refl (w.alloc (.cells #[.slice A a.nodes.length c, .int .i64 a.root] 34)).heap.size (w.alloc (.cells #[.slice A a.nodes.length c, .int .i64 a.root] 34))) (.cells #[.slice B b.nodes.length d, .int .i64 b.root] 34)
  have HB := Aside0.mk (below_step hA0 hA1)
  have k0 := pw_cell_below hA1 (box_cell w _ rfl #[.slice A a.nodes.length c, .int .i64 a.root] 34 0 (.slice A a.nodes.length c) rfl)
  have k1 := pw_cell_below hA1 (box_cell w _ rfl #[.slice A a.nodes.length c, .int .i64 a.root] 34 1 (.int .i64 a.root) rfl)
  have q0 := box_cell (w.alloc (.cells #[.slice A a.nodes.length c, .int .i64 a.root] 34)) (w.heap.size + 1) (by simp) #[.slice B b.nodes.length d, .int .i64 b.root] 34 0 (.slice B b.nodes.length d) rfl
  have q1 := box_cell (w.alloc (.cells #[.slice A a.nodes.length c, .int .i64 a.root] 34)) (w.heap.size + 1) (by simp) #[.slice B b.nodes.length d, .int .i64 b.root] 34 1 (.int .i64 b.root) rfl
  clear h h' hFa hFb hT hA0 hA1
  go_enter Tryd.func24, Tryd.ntmps24
  go_wp2_with fail
  refine (canon_any A c a _ (Kd.C_below HR.out HB.out) (by have := HFa.out.rows; omega) HFa.out.small).mono ?_
  rintro e w1 ⟨A1, c1, rfl, hR1, hB1⟩
  replace q0 := pw_cell_below hB1 q0
  replace q1 := pw_cell_below hB1 q1
  have HB1 := Aside0.mk (below_step HB.out hB1)
  have HC1 := Aside0.mk (Kd.R_reads' hR1).2.2
  have hc1 := (Kd.R_reads' hR1).2.1
  clear hB1 HB k0 k1 hR1
  obtain ⟨CA, hCA⟩ : ∃ CA, CA = canonR a := ⟨_, rfl⟩
  obtain ⟨ra, hra⟩ := canR_root a
  rw [hra]
  rw [← hCA] at HC1 hc1 hra ⊢
  have HCA := Aside0.mk hCA
  have HRA := Aside0.mk hra
  clear hCA hra
  have hA2 := below_alloc (Below.refl w1.heap.size w1) (.cells #[.slice A1 CA.nodes.length c1, .int .i64 (ra : Int)] 34)
  have x0 := box_cell w1 _ rfl #[.slice A1 CA.nodes.length c1, .int .i64 (ra : Int)] 34 0 (.slice A1 CA.nodes.length c1) rfl
  have x1 := box_cell w1 _ rfl #[.slice A1 CA.nodes.length c1, .int .i64 (ra : Int)] 34 1 (.int .i64 (ra : Int)) rfl
  replace q0 := pw_cell_below hA2 q0
  replace q1 := pw_cell_below hA2 q1
  have HB2 := Aside0.mk (below_step HB1.out hA2)
  have HC2 := Aside0.mk (Kd.C_below HC1.out hA2)
  clear hA2 HB1 HC1
  go_wp2_with fail
  generalize w1.alloc (.cells #[.slice A1 CA.nodes.length c1, .int .i64 (ra : Int)] 34) = w2 at x0 x1 q0 q1 HB2 HC2 ⊢
  refine (canon_any B d b w2 (Kd.C_below HR'.out HB2.out) (by have := HFb.out.rows; omega) HFb.out.small).mono ?_
  rintro e w3 ⟨A3, c3, rfl, hR3, hB3⟩
  replace x0 := pw_cell_below hB3 x0
  replace x1 := pw_cell_below hB3 x1
  have HB3 := Aside0.mk (below_step HB2.out hB3)
  have HC3 := Aside0.mk (Kd.C_below HC2.out hB3)
  have HD3 := Aside0.mk (Kd.R_reads' hR3).2.2
  have hc3 := (Kd.R_reads' hR3).2.1
  clear hB3 HB2 HC2 hR3 q0 q1
  obtain ⟨CB, hCB⟩ : ∃ CB, CB = canonR b := ⟨_, rfl⟩
  obtain ⟨rb, hrb⟩ := canR_root b
  rw [hrb]
  rw [← hCB] at HD3 hc3 hrb ⊢
  have HCB := Aside0.mk hCB
  have HRB := Aside0.mk hrb
  clear hCB hrb
  have hA4 := below_alloc (Below.refl w3.heap.size w3) (.cells #[.slice A3 CB.nodes.length c3, .int .i64 (rb : Int)] 34)
  have y0 := box_cell w3 _ rfl #[.slice A3 CB.nodes.length c3, .int .i64 (rb : Int)] 34 0 (.slice A3 CB.nodes.length c3) rfl
  have y1 := box_cell w3 _ rfl #[.slice A3 CB.nodes.length c3, .int .i64 (rb : Int)] 34 1 (.int .i64 (rb : Int)) rfl
  replace x0 := pw_cell_below hA4 x0
  replace x1 := pw_cell_below hA4 x1
  have HB4 := Aside0.mk (below_step HB3.out hA4)
  have HC4 := Aside0.mk (Kd.C_below HC3.out hA4)
  have HD4 := Aside0.mk (Kd.C_below HD3.out hA4)
  by_cases hea : (gcheck a).1 = 0
  · by_cases heb : (gcheck b).1 = 0
    · have HRa := Aside0.mk (gcheck_right.1 hea)
      have HRb := Aside0.mk (gcheck_right.1 heb)
      have hca := HCA.out.trans (canR_eq HRa.out)
      have hcb := HCB.out.trans (canR_eq HRb.out)
      obtain ⟨o1, o2, ho, hl1, hl2, hs⟩ := two_roots T HRa.out HRb.out
      have HO := Aside0.mk (show (allS T [CA, CB]).2 = [o1, o2] from by rw [hca, hcb]; exact ho)
      have HFA := Aside0.mk (show Fit CA.nodes from by rw [hca]; exact HFa.out.canon HRa.out)
      have HFB := Aside0.mk (show Fit CB.nodes from by rw [hcb]; exact HFb.out.canon HRb.out)
      have HAA := Aside0.mk (show AheadN CA.nodes from by rw [hca]; exact canon_ahead HRa.out)
      have HAB := Aside0.mk (show AheadN CB.nodes from by rw [hcb]; exact canon_ahead HRb.out)
      have hra2 : (a.nodes.length : Int) - 1 = (ra : Int) := by rw [← HRA.out, hca]; rfl
      have hrb2 : (b.nodes.length : Int) - 1 = (rb : Int) := by rw [← HRB.out, hcb]; rfl
      have hpa := right_pos HRa.out
      have hpb := right_pos HRb.out
      rw [hra2, hrb2] at hs
      have HE := Aside0.mk (show (rd o1 (ra : Int) == rd o2 (rb : Int)) = eqT a b from by
        by_cases hst : SameT a b
        · rw [eqT_yes HRa.out HRb.out hst, hs.2 hst]; simp
        · rw [eqT_no (fun hh => hst hh.2.2)]
          have : ¬ rd o1 (ra : Int) = rd o2 (rb : Int) := fun e => hst (hs.1 e)
          simpa using this)
      have HL1 := Aside0.mk (show ra < o1.length ∧ rb < o2.length from ⟨by omega, by omega⟩)
      have HKA := Aside0.mk (show kScene.K _ CA [.slice A1 CA.nodes.length c1, .int .i64 (ra : Int)] from by rw [← HRA.out]; exact scK HC4.out hc1)
      have HKB := Aside0.mk (show kScene.K _ CB [.slice A3 CB.nodes.length c3, .int .i64 (rb : Int)] from by rw [← HRB.out]; exact scK HD4.out hc3)
      rw [hea, heb]
      clear hea heb hca hcb hs hl1 hl2 ho hra2 hrb2 hA4 HC4 HD4
      go_wp2_with fail
      have hz4 : (w3.alloc (.cells #[.slice A3 CB.nodes.length c3, .int .i64 (rb : Int)] 34)).heap.size = w3.heap.size + 1 := by simp
      have hrow := sc_row2 (w3.alloc (.cells #[.slice A3 CB.nodes.length c3, .int .i64 (rb : Int)] 34)) _ hz4 HKA.out HKB.out
      generalize w3.alloc (.cells #[.slice A3 CB.nodes.length c3, .int .i64 (rb : Int)] 34) = w4 at x0 x1 y0 y1 HB4 HKA HKB hz4 hrow ⊢
      have hA5 := below_alloc (Below.refl w4.heap.size w4) (.cells #[.slice A1 CA.nodes.length c1, .int .i64 (ra : Int), .slice A3 CB.nodes.length c3, .int .i64 (rb : Int)] 34)
      refine (classes_any T _ 2 [CA, CB] _ hrow (fun i hi => by
        have hi : i < 2 := hi
        match i, hi with
        | 0, _ => exact HFA.out.scbd
        | 1, _ => exact HFB.out.scbd) (fun i hi => by
        have hi : i < 2 := hi
        match i, hi with
        | 0, _ => exact HAA.out
        | 1, _ => exact HAB.out) (by simp) (by simp) (HT.out.below (below_step HB4.out hA5))).mono ?_
      rintro e w6 ⟨A6, c6, rfl, hc6, hC6, hB6⟩
      have hB6 := below_step hA5 hB6
      replace x0 := pw_cell_below hB6 x0
      replace x1 := pw_cell_below hB6 x1
      replace y0 := pw_cell_below hB6 y0
      replace y1 := pw_cell_below hB6 y1
      have HB6 := Aside0.mk (below_step HB4.out hB6)
      rw [HO.out] at hC6
      have HC6 := Aside0.mk (show kInts.C w6 A6 2 [o1, o2] from hC6)
      clear hB6 hA5 hrow hC6 HKA HKB
      obtain ⟨al, B0, d0, rfl, z0, -, hD0⟩ := at_ints HC6.out 0 (by simp)
      obtain ⟨al', B2, d2, el, z2, -, hD2⟩ := at_ints HC6.out 1 (by simp)
      injection el with el
      subst el
      have hD0 : (Kd.int .i64).C w6 B0 o1.length o1 := hD0
      have hD2 : (Kd.int .i64).C w6 B2 o2.length o2 := hD2
      have z0 : w6.cell? al = some (.slice B0 o1.length d0) := by
        rw [add_zero al] at z0
        exact z0
      have z2 : w6.cell? (al.add (1 : Nat)) = some (.slice B2 o2.length d2) := z2
      replace z2 : w6.cell? ⟨al.block, al.off + 1, none⟩ = some (.slice B2 o2.length d2) := z2
      obtain ⟨b0, rfl, r0⟩ := at_nat hD0 ra HL1.out.1
      obtain ⟨b2, rfl, r2⟩ := at_nat hD2 rb HL1.out.2
      have i1 : (ra : Int) < (o1.length : Int) := by have := HL1.out.1; omega
      have i2 : (rb : Int) < (o2.length : Int) := by have := HL1.out.2; omega
      have hE := HE.out
      have h2l : ([CA, CB] : List Scene).length = 2 := rfl
      clear hD0 hD2
      go_wp2
      go_quiet (fail)
      go_wp2
      go_ret
      exact ⟨rfl, below_step HB6.out (pw_below_drewN (Below.refl _ _) nq)⟩
    · have HE := Aside0.mk (eqT_no (a := a) (b := b) (fun hh => heb (gcheck_right.2 hh.2.1)))
      have d1 : ((gcheck b).1 != 0) = true := by simpa using heb
      rw [hea]
      clear hea heb x0 x1 y0 y1 hA4
      go_wp2
      go_ret
      exact ⟨ret_bool HE.out.symm, HB4.out⟩
  · have HE := Aside0.mk (eqT_no (a := a) (b := b) (fun hh => hea (gcheck_right.2 hh.1)))
    have d1 : ((gcheck a).1 != 0) = true := by simpa using hea
    clear hea x0 x1 y0 y1 hA4
    go_wp2
    go_ret
    exact ⟨ret_bool HE.out.symm, HB4.out⟩
end Go.Proofs.YtdfneldenipljaaDoor.L
end
section
namespace Go.Proofs.YtdfneldenipljaaDoor.L
open Go.RowKit Go.ChangeShapes Go.WideShapes Go.Proofs.YtdfneldenipljaaDoorW.PrintWords Go.Proofs.YtdfneldenipljaaDoorW.PrintLast Go.Proofs.YtdfneldenipljaaDoorW.PrintMore
attribute [local go_sem] max2_int min2_int max_two min_two max_three min_three max_four min_four
open Go.Proofs.YtdfneldenipljaaDoor.PClassNumbers
structure LedInv (ns : List Node) (K : List Int) (met : List Bool) (vs work : List Int) : Prop where
  len : met.length = ns.length
  tell : ∀ i : Nat, i < ns.length → rdOf false met (i : Int) = decide ((i : Int) ∈ vs)
  vpl : ∀ x ∈ vs, 0 ≤ x ∧ x < (ns.length : Int)
  wpl : ∀ x ∈ work, 0 ≤ x ∧ x < (ns.length : Int)
  vin : ∀ x ∈ vs, Rch ns K x
  win : ∀ x ∈ work, Rch ns K x
  k0 : ∀ k ∈ K, k ∈ vs ∨ k ∈ work
  clo : ∀ x ∈ vs, ∀ k ∈ kids ns x, k ∈ vs ∨ k ∈ work
theorem LedInv.done {ns : List Node} {K : List Int} {met : List Bool} {vs : List Int} (h : LedInv ns K met vs []) (x : Int) : Rch ns K x ↔ x ∈ vs := by
  refine ⟨fun hr => ?_, h.vin x⟩
  induction hr with
  | base hk => exact (h.k0 _ hk).resolve_right (by simp)
  | step _ hk ih => exact (h.clo _ ih _ hk).resolve_right (by simp)
theorem LedInv.skip {ns : List Node} {K : List Int} {met : List Bool} {vs work : List Int} {x : Int} (h : LedInv ns K met vs (x :: work)) (hx : x ∈ vs) : LedInv ns K met vs work :=
  ⟨h.len, h.tell, h.vpl, fun y hy => h.wpl y (by simp [hy]), h.vin, fun y hy => h.win y (by simp [hy]),
    fun k hk => (h.k0 k hk).elim .inl (fun hm => by
      rcases List.mem_cons.1 hm with rfl | hm
      · exact .inl hx
      · exact .inr hm),
    fun y hy k hk => (h.clo y hy k hk).elim .inl (fun hm => by
      rcases List.mem_cons.1 hm with rfl | hm
      · exact .inl hx
      · exact .inr hm)⟩
theorem LedInv.meet {ns : List Node} {K : List Int} {met : List Bool} {vs work : List Int} {x : Int} (hP : Places ns) (h : LedInv ns K met vs (x :: work)) (hx : ¬ x ∈ vs) : LedInv ns K (met.set x.toNat true) (x :: vs) (work ++ kids ns x) := by
  have hxp := h.wpl x (by simp)
  obtain ⟨q, rfl⟩ : ∃ q : Nat, x = (q : Int) := ⟨x.toNat, by omega⟩
  have hkp : ∀ k ∈ kids ns q, 0 ≤ k ∧ k < (ns.length : Int) := fun k hk => hP q (by omega) k hk
  refine ⟨by rw [List.length_set]; exact h.len, fun i hi => ?_, fun y hy => ?_, fun y hy => ?_, fun y hy => ?_, fun y hy => ?_, fun k hk => ?_, fun y hy k hk => ?_⟩
  · have ht := h.tell i hi
    unfold rdOf at ht ⊢
    rw [Int.toNat_natCast] at ht ⊢
    rw [Int.toNat_natCast, List.getD_eq_getElem?_getD, List.getElem?_set]
    rw [List.getD_eq_getElem?_getD] at ht
    by_cases e : q = i
    · subst e
      rw [if_pos rfl, if_pos (by rw [h.len]; exact hi)]
      simp
    · rw [if_neg e, ht]
      have : ((i : Int) ∈ (q : Int) :: vs) ↔ (i : Int) ∈ vs := by
        rw [List.mem_cons]
        exact ⟨fun h => h.resolve_left (fun e' => e (by omega)), .inr⟩
      exact decide_eq_decide.2 this.symm
  · rcases List.mem_cons.1 hy with rfl | hy
    · exact hxp
    · exact h.vpl y hy
  · rcases List.mem_append.1 hy with hy | hy
    · exact h.wpl y (by simp [hy])
    · exact hkp y hy
  · rcases List.mem_cons.1 hy with rfl | hy
    · exact h.win _ (by simp)
    · exact h.vin y hy
  · rcases List.mem_append.1 hy with hy | hy
    · exact h.win y (by simp [hy])
    · exact .step (h.win _ (List.mem_cons_self)) hy
  · rcases h.k0 k hk with hm | hm
    · exact .inl (by simp [hm])
    · rcases List.mem_cons.1 hm with rfl | hm
      · exact .inl (by simp)
      · exact .inr (by simp [hm])
  · rcases List.mem_cons.1 hy with rfl | hy
    · exact .inr (by simp [hk])
    · rcases h.clo y hy k hk with hm | hm
      · exact .inl (by simp [hm])
      · rcases List.mem_cons.1 hm with rfl | hm
        · exact .inl (by simp)
        · exact .inr (by simp [hm])
def Tells (ns : List Node) (K : List Int) (r : List Bool) : Prop := r.length = ns.length ∧ ∀ i : Nat, i < ns.length → (rdOf false r (i : Int) = true ↔ Rch ns K (i : Int))
theorem led_l0 {ns : List Node} (hP : Places ns) (K : List Int) (root : Int) (hM : rows ns ≤ 1000000) : ∀ (m : Nat) (met : List Bool) (vs work : List Int), LedInv ns K met vs work → left ns vs + work.length < m → work.length ≤ 3000000 →
    (work.length + left ns vs ≤ 3000000) → ∃ r, dioramaref09_Led.l0 m met work (ns.map toS) root = some r ∧ Tells ns K r
  | 0, _, _, _, _, h, _, _ => by omega
  | m + 1, met, vs, [], h, _, _, _ => by
    rw [dioramaref09_Led.l0, if_neg (by simp)]
    refine ⟨_, rfl, h.len, fun i hi => ?_⟩
    rw [h.tell i hi, decide_eq_true_iff]
    exact (h.done _).symm
  | m + 1, met, vs, x :: work, h, hl, hw, hs => by
    have hxp := h.wpl x (by simp)
    have hrd : rd (x :: work) 0 = x := rfl
    have hlen : (((x :: work).length : Nat) : Int) = (work.length : Int) + 1 := by simp
    rw [dioramaref09_Led.l0, if_pos (by rw [hlen]; omega), if_pos (by rw [hlen]; omega), if_pos (by rw [hlen]; omega), Option.bind_some, hrd, if_pos hxp.1, if_pos (by rw [h.len]; exact hxp.2)]
    rw [show (x :: work).drop (1 : Int).toNat = work from rfl]
    have hlen' : (x :: work).length = work.length + 1 := rfl
    obtain ⟨q, rfl⟩ : ∃ q : Nat, x = (q : Int) := ⟨x.toNat, by omega⟩
    have ht := h.tell q (by omega)
    by_cases hx : (q : Int) ∈ vs
    · rw [if_pos (by rw [ht]; exact decide_eq_true hx)]
      exact led_l0 hP K root hM m met vs work (h.skip hx) (by omega) (by omega) (by omega)
    · rw [if_neg (by rw [ht, decide_eq_false hx]; decide), Option.bind_some, if_pos (by simp; omega), Option.bind_some, if_pos (by rw [List.length_map]; exact hxp.2)]
      have hk := kids_to ns (q : Int)
      have hlc := left_cons (ns := ns) (vs := vs) (x := q) (by omega) hx
      have hwt : wt ns q = (kids ns (q : Int)).length + 1 := rfl
      rw [hk, if_pos (by simp; omega), List.nil_append]
      exact led_l0 hP K root hM m _ _ _ (h.meet hP hx) (by rw [List.length_append]; omega) (by rw [List.length_append]; omega) (by rw [List.length_append]; omega)
theorem wt_le {ns : List Node} {p : Nat} (hp : p < ns.length) : wt ns p ≤ rows ns := by
  have := left_cons (ns := ns) (vs := []) (x := p) hp (by simp)
  rw [left_nil] at this
  omega
theorem led_f {ns : List Node} (hP : Places ns) (root : Int) (hM : rows ns ≤ 1000000) (p : Nat) (hp : p < ns.length) (k : Nat) (hk : 2 * rows ns < k) :
    ∃ r, dioramaref09_Led.f k (ns.map toS) root (p : Int) = some r ∧ Tells ns (kids ns (p : Int)) r := by
  unfold dioramaref09_Led.f
  have hlr := len_rows ns
  have hl : (((ns.map toS).length : Nat) : Int) = (ns.length : Int) := by rw [List.length_map]
  have hwt : wt ns p = (kids ns (p : Int)).length + 1 := rfl
  have hle := wt_le hp
  rw [hl, if_pos (by omega), if_pos (by rw [Int.toNat_natCast]; omega), Option.bind_some, if_pos (by omega), if_pos (by omega), kids_to, if_pos (by simp; omega), List.nil_append, Int.toNat_natCast]
  refine led_l0 hP (kids ns (p : Int)) root hM k _ [] _ ⟨by simp, fun i hi => ?_, by simp, fun x hx => hP p hp x hx, by simp, fun x hx => .base hx, fun k hk => .inr hk, by simp⟩ ?_ (by omega) ?_
  · unfold rdOf
    rw [Int.toNat_natCast, List.getD_eq_getElem?_getD, List.getElem?_replicate, if_pos hi]
    simp
  · rw [left_nil]; omega
  · rw [left_nil]; omega
theorem rch_root {ns : List Node} {r x : Int} : Rch ns [r] x ↔ x = r ∨ Rch ns (kids ns r) x := by
  refine ⟨fun h => ?_, fun h => ?_⟩
  · induction h with
    | base hk => exact .inl (List.mem_singleton.1 hk)
    | step _ hk ih =>
      rcases ih with rfl | ih
      · exact .inr (.base hk)
      · exact .inr (.step ih hk)
  · rcases h with rfl | h
    · exact .base (by simp)
    · exact h.under
theorem chk_l1 (s : Scene) (led : List Bool) (hn : s.nodes.length ≤ 1000000) (hT : Tells s.nodes (kids s.nodes s.root) led) : ∀ (m i K : Nat), s.nodes.length ≤ i + m → i ≤ s.nodes.length → (∀ j : Nat, j < i → Rch s.nodes [s.root] (j : Int)) →
    dioramaref09_Check.l1 (K + 1 + m) led (i : Int) (s.nodes.map toS) s.root = some (if 0 ≤ looseAt s then (15, looseAt s) else (0, 0))
  | 0, i, K, h1, h2, h3 => by
    rw [show K + 1 + 0 = K + 1 by omega, dioramaref09_Check.l1, if_neg (by rw [List.length_map]; omega)]
    have : looseAt s = -1 := firstP_no _ 0 (fun j hj h => h (by rw [Nat.zero_add]; exact h3 j (by omega)))
    rw [this]; rfl
  | m + 1, i, K, h1, h2, h3 => by
    by_cases hi : i < s.nodes.length
    · rw [show K + 1 + (m + 1) = (K + 1 + m) + 1 by omega, dioramaref09_Check.l1, if_pos (by rw [List.length_map]; omega), wrap64_in ((i : Int) + 1) (by omega), show (i : Int) + 1 = ((i + 1 : Nat) : Int) from rfl]
      have next : Rch s.nodes [s.root] (i : Int) → dioramaref09_Check.l1 (K + 1 + m) led ((i + 1 : Nat) : Int) (s.nodes.map toS) s.root = some (if 0 ≤ looseAt s then (15, looseAt s) else (0, 0)) := fun hr =>
        chk_l1 s led hn hT m (i + 1) K (by omega) (by omega) (ext_lt (P := fun j : Nat => Rch s.nodes [s.root] (j : Int)) h3 hr)
      by_cases hr : (i : Int) = s.root
      · rw [if_pos hr]
        exact next (rch_root.2 (.inl hr))
      · rw [if_neg hr, if_pos (Int.natCast_nonneg i), if_pos (by rw [hT.1]; omega)]
        have ht := hT.2 i hi
        by_cases hl : rdOf false led (i : Int) = true
        · rw [if_pos hl]
          exact next (rch_root.2 (.inr (ht.1 hl)))
        · rw [if_neg hl]
          have : looseAt s = (i : Int) := by
            have := firstP_at (p := fun i => ¬ Rch s.nodes [s.root] (i : Int)) s.nodes.length 0 i hi (fun j hj h => h (by rw [Nat.zero_add]; exact h3 j hj)) (by rw [Nat.zero_add]; exact fun h => hl (ht.2 ((rch_root.1 h).resolve_left hr)))
            rw [Nat.zero_add] at this
            exact this
          rw [this, if_pos (Int.natCast_nonneg i)]
    · have := chk_l1 s led hn hT m i (K + 1) (by omega) h2 h3
      rw [show K + 1 + 1 + m = K + 1 + (m + 1) by omega] at this
      exact this
theorem chk_l0 (s : Scene) (hM : rows s.nodes ≤ 1000000) (hP : Places s.nodes) (h0 : 0 ≤ s.root) (h1 : s.root < s.nodes.length) : ∀ (m i K : Nat), s.nodes.length ≤ i + m → i ≤ s.nodes.length → (∀ j : Nat, j < i → ¬ Cyc s.nodes (j : Int)) →
    dioramaref09_Check.l0 (K + 2 * rows s.nodes + s.nodes.length + 3 + m) (i : Int) (s.nodes.map toS) s.root = some (if 0 ≤ cycAt s.nodes then (14, cycAt s.nodes) else if 0 ≤ looseAt s then (15, looseAt s) else (0, 0))
  | 0, i, K, k1, k2, k3 => by
    have hlr := len_rows s.nodes
    rw [show K + 2 * rows s.nodes + s.nodes.length + 3 + 0 = (K + 2 * rows s.nodes + s.nodes.length + 2) + 1 by omega, dioramaref09_Check.l0, if_neg (by rw [List.length_map]; omega)]
    obtain ⟨q, hq⟩ : ∃ q : Nat, s.root = (q : Int) := ⟨s.root.toNat, by omega⟩
    obtain ⟨r, hr, hT⟩ := led_f hP s.root hM q (by omega) (K + 2 * rows s.nodes + s.nodes.length + 2) (by omega)
    rw [← hq] at hr hT
    rw [hr, Option.bind_some]
    have hc : cycAt s.nodes = -1 := firstP_no _ 0 (fun j hj h => k3 j (by omega) (by rwa [Nat.zero_add] at h))
    rw [hc, if_neg (by decide)]
    have := chk_l1 s r (by omega) hT s.nodes.length 0 (K + 2 * rows s.nodes + 1) (by omega) (by omega) (fun j hj => by omega)
    rw [show K + 2 * rows s.nodes + 1 + 1 + s.nodes.length = K + 2 * rows s.nodes + s.nodes.length + 2 by omega] at this
    exact this
  | m + 1, i, K, k1, k2, k3 => by
    by_cases hi : i < s.nodes.length
    · have hlr := len_rows s.nodes
      rw [show K + 2 * rows s.nodes + s.nodes.length + 3 + (m + 1) = (K + 2 * rows s.nodes + s.nodes.length + 3 + m) + 1 by omega, dioramaref09_Check.l0, if_pos (by rw [List.length_map]; omega)]
      obtain ⟨r, hr, hT⟩ := led_f hP s.root hM i hi (K + 2 * rows s.nodes + s.nodes.length + 3 + m) (by omega)
      rw [hr, Option.bind_some, if_pos (Int.natCast_nonneg i), if_pos (by rw [hT.1]; omega), wrap64_in ((i : Int) + 1) (by omega), show (i : Int) + 1 = ((i + 1 : Nat) : Int) from rfl]
      have ht := hT.2 i hi
      by_cases hl : rdOf false r (i : Int) = true
      · rw [if_pos hl]
        have : cycAt s.nodes = (i : Int) := by
          have := firstP_at (p := fun i => Cyc s.nodes (i : Int)) s.nodes.length 0 i hi (fun j hj h => k3 j hj (by rwa [Nat.zero_add] at h)) (by rw [Nat.zero_add]; exact ht.1 hl)
          rw [Nat.zero_add] at this
          exact this
        rw [this, if_pos (Int.natCast_nonneg i)]
      · rw [if_neg hl]
        exact chk_l0 s hM hP h0 h1 m (i + 1) K (by omega) (by omega) (ext_lt (P := fun j : Nat => ¬ Cyc s.nodes (j : Int)) k3 (fun h => hl (ht.2 h)))
    · have := chk_l0 s hM hP h0 h1 m i (K + 1) (by omega) k2 k3
      rw [show K + 1 + 2 * rows s.nodes + s.nodes.length + 3 + m = K + 2 * rows s.nodes + s.nodes.length + 3 + (m + 1) by omega] at this
      exact this
theorem chk_f (s : Scene) (hM : rows s.nodes ≤ 1000000) : dioramaref09_Check.f (2 * rows s.nodes + 2 * s.nodes.length + 3) (s.nodes.map toS) s.root = some (gcheck s) := by
  unfold dioramaref09_Check.f dioramaref09_Place.f dioramaref09_Refs.f
  rw [Option.bind_some, List.length_map, Option.bind_some, map_of_to]
  by_cases h0 : s.root < 0 ∨ (s.nodes.length : Int) ≤ s.root
  · have : isPl s.nodes.length s.root = false := by unfold isPl; exact decide_eq_false (by omega)
    rw [this, if_neg (by decide), gcheck_root h0]
  · have : isPl s.nodes.length s.root = true := by unfold isPl; exact decide_eq_true (by omega)
    rw [this, if_pos rfl]
    by_cases h : 0 ≤ refsAt s.nodes
    · rw [if_pos h, gcheck_refs h0 h]
    · rw [if_neg h]
      have hP : Places s.nodes := Places.of_refs ((refsAt_lt _).resolve_right h)
      have := chk_l0 s hM hP (by omega) (by omega) s.nodes.length 0 0 (by omega) (by omega) (fun j hj => by omega)
      rw [show 0 + 2 * rows s.nodes + s.nodes.length + 3 + s.nodes.length = 2 * rows s.nodes + 2 * s.nodes.length + 3 by omega] at this
      refine this.trans ?_
      unfold gcheck
      rw [if_neg h0, if_neg h]
theorem rchk_any (A : Option Addr) (c : Nat) (s : Scene) (w : World) (h : kNode.C w A s.nodes.length s.nodes) (hc : s.nodes.length ≤ c) (hM : rows s.nodes ≤ 1000000) :
    Calls Tryd.prog 31 #[.agg #[.slice A s.nodes.length c, .int .i64 s.root]] w fun e w' => e = .returned (.tuple #[.int .i64 (gcheck s).1, .int .i64 (gcheck s).2]) ∧ Below w.heap.size w w' := by
  have hl : (s.nodes.map toS).length = s.nodes.length := List.length_map ..
  have := dioramaref09_Check.calls (2 * rows s.nodes + 2 * s.nodes.length + 3) A c (s.nodes.map toS) s.root (gcheck s).1 (gcheck s).2 w (by rw [hl]; exact C_to h) (by rw [hl]; exact hc) (chk_f s hM)
  rw [hl] at this
  exact this
end Go.Proofs.YtdfneldenipljaaDoor.L
end
section
namespace Go.Proofs.YtdfneldenipljaaDoor.L
open Go.RowKit Go.ChangeShapes Go.WideShapes Go.Proofs.YtdfneldenipljaaDoorW.PrintWords Go.Proofs.YtdfneldenipljaaDoorW.PrintLast Go.Proofs.YtdfneldenipljaaDoorW.PrintMore
attribute [local go_sem] max2_int min2_int max_two min_two max_three min_three max_four min_four
open Go.Proofs.YtdfneldenipljaaDoor.PClassNumbers
theorem meet_l0 (ns : List Node) (root a : Int) (met : List Int) (hm : met.length ≤ 1000000) : ∀ (m i K : Nat), met.length ≤ i + m → i ≤ met.length → (∀ j : Nat, j < i → ¬ rd met (j : Int) = a) →
    (a ∈ met → dioramaref10_meet.l0 (K + 1 + m) a met (i : Int) (ns.map toS) root = some met) ∧
    (¬ a ∈ met → ∃ K', K ≤ K' ∧ dioramaref10_meet.l0 (K + 1 + m) a met (i : Int) (ns.map toS) root = dioramaref10_meet.l1 K' a met 0 (ns.map toS) root)
  | 0, i, K, h1, h2, h3 => by
    have hno : ¬ a ∈ met := fun hm => by
      obtain ⟨j, hj⟩ := List.getElem?_of_mem hm
      have hjl := (List.getElem?_eq_some_iff.1 hj).1
      refine h3 j (by omega) ?_
      unfold rd
      rw [Int.toNat_natCast, List.getD_eq_getElem?_getD, hj]; rfl
    refine ⟨fun h => absurd h hno, fun _ => ⟨K, Nat.le_refl _, ?_⟩⟩
    rw [show K + 1 + 0 = K + 1 by omega, dioramaref10_meet.l0, if_neg (by omega)]
  | m + 1, i, K, h1, h2, h3 => by
    by_cases hi : i < met.length
    · rw [show K + 1 + (m + 1) = (K + 1 + m) + 1 by omega, dioramaref10_meet.l0, if_pos (by omega), if_pos (Int.natCast_nonneg i)]
      by_cases he : rd met (i : Int) = a
      · rw [if_pos he]
        have hin : a ∈ met := by rw [← he]; exact rd_mem hi
        exact ⟨fun _ => rfl, fun h => absurd hin h⟩
      · rw [if_neg he, wrap64_in ((i : Int) + 1) (by omega), show (i : Int) + 1 = ((i + 1 : Nat) : Int) from rfl]
        exact meet_l0 ns root a met hm m (i + 1) K (by omega) (by omega) (ext_lt (P := fun j : Nat => ¬ rd met (j : Int) = a) h3 he)
    · obtain ⟨g1, g2⟩ := meet_l0 ns root a met hm m i (K + 1) (by omega) h2 h3
      rw [show K + 1 + 1 + m = K + 1 + (m + 1) by omega] at g1 g2
      exact ⟨g1, fun h => by obtain ⟨K', h1, h2⟩ := g2 h; exact ⟨K', by omega, h2⟩⟩
def meetT (ns : List Node) : Nat := ns.length + rows ns + 4
theorem meet_f {ns : List Node} (hd : Dag ns) (root : Int) (hM : rows ns ≤ 1000000) : ∀ (N : Nat) (a : Int) (met : List Int) (K : Nat), reachN ns a < N → Pl ns a → Shut ns met → N * meetT ns ≤ K →
    dioramaref10_meet.f K (ns.map toS) root a met = some (M ns a met)
  | 0, _, _, _, h, _, _, _ => by omega
  | N + 1, a, met, K, hN, ha, hs, hK => by
    have hT : (N + 1) * meetT ns = N * meetT ns + meetT ns := Nat.succ_mul _ _
    have hlen := hs.len
    have hlr := len_rows ns
    have hTd : meetT ns = ns.length + rows ns + 4 := rfl
    obtain ⟨K1, rfl⟩ : ∃ K1, K = (K1 + (kids ns a).length + 1) + 1 + met.length + 1 := ⟨K - met.length - 3 - (kids ns a).length, by
      have hw : (kids ns a).length + 1 ≤ rows ns := wt_le (ns := ns) (p := a.toNat) (by have := ha.1; have := ha.2; omega)
      omega⟩
    rw [dioramaref10_meet.f]
    obtain ⟨g1, g2⟩ := meet_l0 ns root a met (by omega) met.length 0 (K1 + (kids ns a).length + 1) (by omega) (by omega) (fun j hj => by omega)
    by_cases hin : a ∈ met
    · rw [M_in hd ha hin]
      exact g1 hin
    · obtain ⟨K', hK', e⟩ := g2 hin
      rw [M_out hd ha hin]
      refine Eq.trans e ?_
      have hw : (kids ns a).length + 1 ≤ rows ns := wt_le (ns := ns) (p := a.toNat) (by have := ha.1; have := ha.2; omega)
      have hK1 : N * meetT ns ≤ K1 := by omega
      -- the kids, one behind the other
      have key : ∀ (m j K2 : Nat) (v : List Int), (kids ns a).length = j + m → N * meetT ns ≤ K2 → Shut ns v → (∀ x ∈ v, x ∈ v) → v = ML ns ((kids ns a).take j) met →
          dioramaref10_meet.l1 (K2 + 1 + m) a v (j : Int) (ns.map toS) root = some (ML ns (kids ns a) met ++ [a]) := by
        intro m
        induction m with
        | zero =>
          intro j K2 v hj hK2 hv _ hve
          have hvl := hv.len
          rw [show K2 + 1 + 0 = K2 + 1 by omega, dioramaref10_meet.l1, if_pos ha.1, if_pos (by rw [List.length_map]; exact ha.2), kids_to, if_neg (by omega), Option.bind_some, if_pos (by simp; omega), Option.bind_some, if_pos (by simp; omega), List.nil_append]
          rw [hve, List.take_of_length_le (by omega)]
        | succ m ih =>
          intro j K2 v hj hK2 hv _ hve
          have hjl : j < (kids ns a).length := by omega
          rw [show K2 + 1 + (m + 1) = (K2 + 1 + m) + 1 by omega, dioramaref10_meet.l1, if_pos ha.1, if_pos (by rw [List.length_map]; exact ha.2), kids_to, if_pos (by omega), if_pos (Int.natCast_nonneg j)]
          have hk : rd (kids ns a) (j : Int) ∈ kids ns a := rd_mem hjl
          have hkp := hd.kid ha hk
          have hlow := hd.lower ha hk
          rw [meet_f hd root hM N (rd (kids ns a) (j : Int)) v (K2 + 1 + m) (by omega) hkp hv (by omega), Option.bind_some, wrap64_in ((j : Int) + 1) (by have := hs.len; omega), show (j : Int) + 1 = ((j + 1 : Nat) : Int) from rfl]
          have hmet := M_met hd _ (rd (kids ns a) (j : Int)) v (Nat.lt_succ_self _) hkp hv (shut_next hv _)
          refine ih (j + 1) K2 _ (by omega) hK2 hmet.shut (fun _ h => h) ?_
          rw [take_succ_rd hjl, hve]
          unfold ML
          rw [List.foldl_append]
          rfl
      obtain ⟨K2, rfl⟩ : ∃ K2, K' = K2 + 1 + (kids ns a).length := ⟨K' - 1 - (kids ns a).length, by omega⟩
      exact key (kids ns a).length 0 K2 met (by omega) (by omega) hs (fun _ h => h) (by rw [List.take_zero]; rfl)
theorem order_f {s : Scene} (hd : Dag s.nodes) (hr : Pl s.nodes s.root) (hM : rows s.nodes ≤ 1000000) : dioramaref10_Order.f ((s.nodes.length + 1) * meetT s.nodes) (s.nodes.map toS) s.root = some (ord s) := by
  unfold dioramaref10_Order.f
  rw [meet_f hd s.root hM (s.nodes.length + 1) s.root [] _ (Nat.lt_succ_of_le (reachN_le _ _)) hr (Shut.nil _) (Nat.le_refl _)]
  rfl
theorem refCan_eq {s : Scene} (hd : Dag s.nodes) (hr : Pl s.nodes s.root) : refCanL s.nodes (ord s) = canonL s := by
  have hm := ord_met' hd hr
  unfold refCanL canonL
  refine List.map_congr_left (fun a ha => ?_)
  unfold refN relab
  congr 1
  refine List.map_congr_left (fun k hk => ?_)
  have := hm.shut.kids a ha k hk
  unfold findI idx
  rw [if_pos this]
end Go.Proofs.YtdfneldenipljaaDoor.L
end
section
namespace Go.Proofs.YtdfneldenipljaaDoor.L
open Go.RowKit Go.ChangeShapes Go.WideShapes Go.Proofs.YtdfneldenipljaaDoorW.PrintWords Go.Proofs.YtdfneldenipljaaDoorW.PrintLast Go.Proofs.YtdfneldenipljaaDoorW.PrintMore
attribute [local go_sem] max2_int min2_int max_two min_two max_three min_three max_four min_four
noncomputable def rightB (s : Scene) : Bool := (gcheck s).1 == 0
set_option maxRecDepth 100000 in
theorem rright_any (A : Option Addr) (c : Nat) (s : Scene) (w : World) (h : kNode.C w A s.nodes.length s.nodes) (hc : s.nodes.length ≤ c) (hM : rows s.nodes ≤ 1000000) :
    Calls Tryd.prog 26 #[.agg #[.slice A s.nodes.length c, .int .i64 s.root]] w fun e w' => e = .returned (.bool (rightB s)) ∧ Below w.heap.size w w' := by
  have HR := Aside0.mk h
  have HB := Aside0.mk (below_alloc (Below.refl w.heap.size w) (.cells #[.slice A s.nodes.length c, .int .i64 s.root] 34))
  have k0 := box_cell w _ rfl #[.slice A s.nodes.length c, .int .i64 s.root] 34 0 (.slice A s.nodes.length c) rfl
  have k1 := box_cell w _ rfl #[.slice A s.nodes.length c, .int .i64 s.root] 34 1 (.int .i64 s.root) rfl
  have hu := Tryd.underlying34
  have HE := Aside0.mk (show rightB s = ((gcheck s).1 == 0) from rfl)
  clear h
  go_enter Tryd.func26, Tryd.ntmps26
  go_wp2_with fail
  refine (rchk_any A c s _ (Kd.C_below HR.out HB.out) hc hM).mono ?_
  rintro e w1 ⟨rfl, hB1⟩
  have HB1 := Aside0.mk (below_step HB.out hB1)
  clear hB1 k0 k1
  generalize (gcheck s).1 = g at HE ⊢
  generalize (gcheck s).2 = g2
  go_wp2
  go_ret
  exact ⟨ret_bool HE.out.symm, HB1.out⟩
end Go.Proofs.YtdfneldenipljaaDoor.L
end
section
namespace Go.Proofs.YtdfneldenipljaaDoor.L
open Go.RowKit Go.ChangeShapes Go.WideShapes Go.Proofs.YtdfneldenipljaaDoorW.PrintWords Go.Proofs.YtdfneldenipljaaDoorW.PrintLast Go.Proofs.YtdfneldenipljaaDoorW.PrintMore
attribute [local go_sem] max2_int min2_int max_two min_two max_three min_three max_four min_four
open Go.Proofs.YtdfneldenipljaaDoor.PClassNumbers
theorem refN_len (ns : List Node) (l : List Int) : (refCanL ns l).length = l.length := by simp [refCanL]
theorem take_succ_map {α β : Type} (f : α → β) (l : List α) (i : Nat) (h : i < l.length) : (l.map f).take (i + 1) = (l.map f).take i ++ [f l[i]] := by
  rw [List.take_succ_eq_append_getElem (by simpa using h)]
  simp
set_option maxRecDepth 100000 in
set_option maxHeartbeats 8000000 in
theorem rcanon_any (A : Option Addr) (c : Nat) (s : Scene) (l : List Int) (k : Nat) (w : World) (h : kNode.C w A s.nodes.length s.nodes) (hc : s.nodes.length ≤ c) (hS : ∀ i : Nat, i < s.nodes.length → Small (nd s.nodes i))
    (ho : dioramaref10_Order.f k (s.nodes.map toS) s.root = some l) (hl : l.length ≤ 1000000) (hp : ∀ x ∈ l, 0 ≤ x ∧ x < (s.nodes.length : Int)) :
    Calls Tryd.prog 37 #[.agg #[.slice A s.nodes.length c, .int .i64 s.root]] w (SceneRPost ⟨refCanL s.nodes l, (l.length : Int) - 1⟩ w) := by
  have HR := Aside0.mk h
  have HSm := Aside0.mk hS
  have HO := Aside0.mk ho
  have HP := Aside0.mk hp
  have HCc := Aside0.mk hc
  have b0 := h.2.1
  have HB := Aside0.mk (below_alloc (below_alloc (Below.refl w.heap.size w) (.cells #[.slice A s.nodes.length c, .int .i64 s.root] 34)) (.cells #[.slice none 0 0, .int .i64 0] 34))
  have k0 := box_cell2 w _ rfl #[.slice A s.nodes.length c, .int .i64 s.root] 34 (.cells #[.slice none 0 0, .int .i64 0] 34) 0 (.slice A s.nodes.length c) rfl
  have k1 := box_cell2 w _ rfl #[.slice A s.nodes.length c, .int .i64 s.root] 34 (.cells #[.slice none 0 0, .int .i64 0] 34) 1 (.int .i64 s.root) rfl
  have HL := Aside0.mk (show ((w.alloc (.cells #[.slice A s.nodes.length c, .int .i64 s.root] 34)).alloc (.cells #[.slice none 0 0, .int .i64 0] 34)).heap[w.heap.size + 1]? = some (.cells #[.slice none 0 0, .int .i64 0] 34 (0, 0)) from by
    have := heap_alloc_new (w.alloc (.cells #[.slice A s.nodes.length c, .int .i64 s.root] 34)) (.cells #[.slice none 0 0, .int .i64 0] 34)
    simpa using this)
  have hu := Tryd.underlying34
  have hun := Tryd.underlying52
  clear h hc hS ho hp
  go_enter Tryd.func37, Tryd.ntmps37
  go_wp2_with fail
  have hml : (s.nodes.map toS).length = s.nodes.length := List.length_map ..
  have hcall := dioramaref10_Order.calls k A c (s.nodes.map toS) s.root l ((w.alloc (.cells #[.slice A s.nodes.length c, .int .i64 s.root] 34)).alloc (.cells #[.slice none 0 0, .int .i64 0] 34)) (by rw [hml]; exact C_to (Kd.C_below HR.out HB.out)) (by rw [hml]; exact HCc.out) HO.out
  rw [hml] at hcall
  refine hcall.mono ?_
  clear hcall hml
  rintro e w1 ⟨v, rfl, hV, hB1⟩
  obtain ⟨A3, c3, rfl⟩ := Kd.V_slice hV
  have HV := Aside0.mk (Kd.V_reads' hV)
  have hlc : l.length ≤ c3 := HV.out.2.1
  have HB1 := Aside0.mk (below_step HB.out hB1)
  have HL1 := Aside0.mk ((hB1.block _ (blk_lt HL.out)).trans HL.out)
  have HK1 := Aside0.mk (pw_cell_below hB1 k0)
  have HI := Aside0.mk (CnRel.start w1 ((l.length : Int) - 1))
  have hw1 : IntKind.i64.wrap ((l.length : Int) - 1) = (l.length : Int) - 1 := wrap_i (by omega) (by omega)
  clear hV hB1 k0 k1 HL HB
  go_wp2
  generalize w1.alloc (.cells #[.slice none 0 0, .int .i64 ((l.length : Int) - 1)] 34) = W5 at HI ⊢
  go_loopw [5] (fun v5 W => ∃ i : Nat, i ≤ l.length ∧ v5 = .int .i64 i ∧ ∃ A4 c4, Aside0 (CnRel w1 ((l.length : Int) - 1) ((refCanL s.nodes l).take i) (.slice A4 i c4) W)) (fun v5 _ => l.length - (intOf v5).toNat)
  case atStart => exact ⟨0, by omega, rfl, none, 0, by rw [List.take_zero]; exact HI⟩
  case round =>
    clear HI
    obtain ⟨i, hi, rfl, A4, c4, HI⟩ := hrel
    by_cases hlt : i < l.length
    · obtain ⟨adl, rfl, z0⟩ := at_nat (Kd.C_below HV.out.2.2 HI.out.below) i hlt
      have hpi := HP.out _ (rd_mem hlt)
      obtain ⟨q, hq⟩ : ∃ q : Nat, rd l (i : Int) = (q : Int) := ⟨(rd l (i : Int)).toNat, by omega⟩
      rw [hq] at z0 hpi
      have hqn : q < s.nodes.length := by omega
      have HRN : Aside0 ((refCanL s.nodes l).take (i + 1) = (refCanL s.nodes l).take i ++ [⟨(nd s.nodes q).kind, (nd s.nodes q).ints, (nd s.nodes q).texts, (nd s.nodes q).kids.map (findI l)⟩]) := ⟨by
        unfold refCanL
        rw [take_succ_map _ _ _ hlt]
        have : l[i] = (q : Int) := by rw [← hq, rd_eq hlt]
        rw [this]; unfold refN; rw [Int.toNat_natCast]⟩
      clear hq hpi
      obtain ⟨adn, A1, c1, A2, c2, A5, c5, rfl, x0, x1, x2, x3, hN⟩ := at_node HR.out q hqn
      have k0 := pw_cell_below HI.out.below HK1.out
      have HW := Aside0.mk (below_step HB1.out HI.out.below)
      replace x0 := pw_cell_below HW.out x0
      replace x1 := pw_cell_below HW.out x1
      replace x2 := pw_cell_below HW.out x2
      replace x3 := pw_cell_below HW.out x3
      have HN := Aside0.mk hN
      clear hN
      have HSq := Aside0.mk (HSm.out q hqn)
      have hbz : (wr.alloc (.cells #[.int .i64 0, .slice none 0 0, .slice none 0 0, .slice none 0 0] 52)).drew.heap[wr.heap.size]? = some (.cells #[.int .i64 0, .slice none 0 0, .slice none 0 0, .slice none 0 0] 52 (0, 0)) := by
        show (wr.alloc _).heap[wr.heap.size]? = _
        simpa using heap_alloc_new wr _
      have HBZ := Aside0.mk hbz
      have hbA := below_drew (below_alloc (Below.refl wr.heap.size wr) (.cells #[.int .i64 0, .slice none 0 0, .slice none 0 0, .slice none 0 0] 52))
      have HBA := Aside0.mk hbA
      have n0 : wr.heap.size ≠ w.heap.size := World.new_ne wr _ k0
      have n1 := World.new_ne wr _ z0
      have n2 := World.new_ne wr _ x0
      clear hbz hbA
      have k0d : wr.drew.cell? ⟨w.heap.size, 0, none⟩ = some (.slice (some adn) s.nodes.length c) := k0
      have k0a : (wr.alloc (.cells #[.int .i64 0, .slice none 0 0, .slice none 0 0, .slice none 0 0] 52)).drew.cell? ⟨w.heap.size, 0, none⟩ = some (.slice (some adn) s.nodes.length c) := pw_cell_below HBA.out k0
      have z0d : wr.drew.cell? (adl.add i) = some (.int .i64 q) := z0
      have z0a : (wr.alloc (.cells #[.int .i64 0, .slice none 0 0, .slice none 0 0, .slice none 0 0] 52)).drew.cell? (adl.add i) = some (.int .i64 q) := pw_cell_below HBA.out z0
      have x0d : wr.drew.cell? (adn.add (q * 4)) = some (.int .i64 (nd s.nodes q).kind) := x0
      have x0a : (wr.alloc (.cells #[.int .i64 0, .slice none 0 0, .slice none 0 0, .slice none 0 0] 52)).drew.cell? (adn.add (q * 4)) = some (.int .i64 (nd s.nodes q).kind) := pw_cell_below HBA.out x0
      have x1d : wr.drew.cell? ⟨(adn.add (q * 4)).block, (adn.add (q * 4)).off + 1, none⟩ = some (.slice A1 (nd s.nodes q).ints.length c1) := x1
      have x1a : (wr.alloc (.cells #[.int .i64 0, .slice none 0 0, .slice none 0 0, .slice none 0 0] 52)).drew.cell? ⟨(adn.add (q * 4)).block, (adn.add (q * 4)).off + 1, none⟩ = some (.slice A1 (nd s.nodes q).ints.length c1) := pw_cell_below HBA.out x1
      have x2d : wr.drew.cell? ⟨(adn.add (q * 4)).block, (adn.add (q * 4)).off + 2, none⟩ = some (.slice A2 (nd s.nodes q).texts.length c2) := x2
      have x2a : (wr.alloc (.cells #[.int .i64 0, .slice none 0 0, .slice none 0 0, .slice none 0 0] 52)).drew.cell? ⟨(adn.add (q * 4)).block, (adn.add (q * 4)).off + 2, none⟩ = some (.slice A2 (nd s.nodes q).texts.length c2) := pw_cell_below HBA.out x2
      have x3d : wr.drew.cell? ⟨(adn.add (q * 4)).block, (adn.add (q * 4)).off + 3, none⟩ = some (.slice A5 (nd s.nodes q).kids.length c5) := x3
      have x3a : (wr.alloc (.cells #[.int .i64 0, .slice none 0 0, .slice none 0 0, .slice none 0 0] 52)).drew.cell? ⟨(adn.add (q * 4)).block, (adn.add (q * 4)).off + 3, none⟩ = some (.slice A5 (nd s.nodes q).kids.length c5) := pw_cell_below HBA.out x3
      go_wp2
      go_region_held3 (fun W => W.cell? ⟨w.heap.size, 0, none⟩ = some (.slice (some adn) s.nodes.length c) ∧ W.cell? (adl.add i) = some (.int .i64 q) ∧ W.cell? (adn.add (q * 4)) = some (.int .i64 (nd s.nodes q).kind) ∧ W.cell? ⟨(adn.add (q * 4)).block, (adn.add (q * 4)).off + 1, none⟩ = some (.slice A1 (nd s.nodes q).ints.length c1) ∧ W.cell? ⟨(adn.add (q * 4)).block, (adn.add (q * 4)).off + 2, none⟩ = some (.slice A2 (nd s.nodes q).texts.length c2) ∧ W.cell? ⟨(adn.add (q * 4)).block, (adn.add (q * 4)).off + 3, none⟩ = some (.slice A5 (nd s.nodes q).kids.length c5))
        (first
          | (go_split_ands
             (repeat' apply And.intro)
             all_goals first
               | with_reducible assumption
               | with_reducible exact pw_cell_below hB (by assumption)
               | with_reducible exact pw_cell_below (below_alloc (Below.refl _ _) _) (pw_cell_below hB k0d)
               | with_reducible exact pw_cell_below (below_alloc (Below.refl _ _) _) (pw_cell_below hB z0d)
               | with_reducible exact pw_cell_below (below_alloc (Below.refl _ _) _) (pw_cell_below hB x0d)
               | with_reducible exact pw_cell_below (below_alloc (Below.refl _ _) _) (pw_cell_below hB x1d)
               | with_reducible exact pw_cell_below (below_alloc (Below.refl _ _) _) (pw_cell_below hB x2d)
               | with_reducible exact pw_cell_below (below_alloc (Below.refl _ _) _) (pw_cell_below hB x3d)
               | with_reducible exact far_set (far_set (far_set (far_set (by assumption) _ _ (by assumption) _) _ _ (by assumption) _) _ _ (by assumption) _) _ _ (by assumption) _
               | (simp [*]; done)))
        (first
          | (go_at_call 39; refine (rcopy_any (nd s.nodes q) A1 c1 A2 c2 A5 c5 wr.drew (HN.out.below (below_drew HW.out)) HSq.out).mono ?_; rintro e w6 ⟨_, rfl, ⟨v1, v2, v3, rfl, hM⟩, hB⟩; obtain ⟨v1', v2', v3', ev, hR1, hR2, hR3⟩ := kNode_openM hM; injection ev with _ ev; injection ev with e1 ev; injection ev with e2 ev; injection ev with e3 _; subst e1 e2 e3; obtain ⟨B1, d1, rfl⟩ := Kd.R_slice hR1; obtain ⟨B2, d2, rfl⟩ := Kd.R_slice hR2; obtain ⟨B3, d3, rfl⟩ := Kd.R_slice hR3)
          | (go_at_call 39; refine (rcopy_any (nd s.nodes q) A1 c1 A2 c2 A5 c5 (wr.alloc (.cells #[.int .i64 0, .slice none 0 0, .slice none 0 0, .slice none 0 0] 52)).drew (HN.out.below (below_step HW.out HBA.out)) HSq.out).mono ?_; rintro e w6 ⟨_, rfl, ⟨v1, v2, v3, rfl, hM⟩, hB⟩; obtain ⟨v1', v2', v3', ev, hR1, hR2, hR3⟩ := kNode_openM hM; injection ev with _ ev; injection ev with e1 ev; injection ev with e2 ev; injection ev with e3 _; subst e1 e2 e3; obtain ⟨B1, d1, rfl⟩ := Kd.R_slice hR1; obtain ⟨B2, d2, rfl⟩ := Kd.R_slice hR2; obtain ⟨B3, d3, rfl⟩ := Kd.R_slice hR3; have hb6 := (hB.block _ (blk_lt HBZ.out)).trans HBZ.out; have f0 := (blk_cell hb6 0).trans rfl; have f0f := blk_frozen hb6 0; have f1 := (blk_cell (blk_set hb6 0 (.int .i64 (nd s.nodes q).kind)) 1).trans rfl; have f1f := blk_frozen (blk_set hb6 0 (.int .i64 (nd s.nodes q).kind)) 1; have f2 := (blk_cell (blk_set (blk_set hb6 0 (.int .i64 (nd s.nodes q).kind)) 1 (.slice B1 (nd s.nodes q).ints.length d1)) 2).trans rfl; have f2f := blk_frozen (blk_set (blk_set hb6 0 (.int .i64 (nd s.nodes q).kind)) 1 (.slice B1 (nd s.nodes q).ints.length d1)) 2; have f3 := (blk_cell (blk_set (blk_set (blk_set hb6 0 (.int .i64 (nd s.nodes q).kind)) 1 (.slice B1 (nd s.nodes q).ints.length d1)) 2 (.slice B2 (nd s.nodes q).texts.length d2)) 3).trans rfl; have f3f := blk_frozen (blk_set (blk_set (blk_set hb6 0 (.int .i64 (nd s.nodes q).kind)) 1 (.slice B1 (nd s.nodes q).ints.length d1)) 2 (.slice B2 (nd s.nodes q).texts.length d2)) 3))
      have HK : Aside0 (KidB (findI l) (nd s.nodes q) (.slice B1 (nd s.nodes q).ints.length d1) (.slice B2 (nd s.nodes q).texts.length d2) (.slice B3 (nd s.nodes q).kids.length d3) 0 w6.heap.size wr (w6.alloc (.cells #[.int .i64 (nd s.nodes q).kind, .slice B1 (nd s.nodes q).ints.length d1, .slice B2 (nd s.nodes q).texts.length d2, .slice B3 (nd s.nodes q).kids.length d3] 52))) := ⟨⟨below_step ((below_drew (Below.refl _ _)).trans hB) (below_alloc (Below.refl _ _) _), hB.size, by simpa using heap_alloc_new w6 _, Kd.R_alloc hR1 _, Kd.R_alloc hR2 _, by rw [mapTake_zero]; exact Kd.R_alloc hR3 _⟩⟩
      clear hM hR1 hR2 hR3 hB k0 z0 x0 x1 x2 x3 k0d z0d x0d x1d x2d x3d k0a z0a x0a x1a x2a x3a n0 n1 n2
      generalize (w6.alloc (.cells #[.int .i64 (nd s.nodes q).kind, .slice B1 (nd s.nodes q).ints.length d1, .slice B2 (nd s.nodes q).texts.length d2, .slice B3 (nd s.nodes q).kids.length d3] 52)) = W7 at HK ⊢
      generalize w6.heap.size = g6 at HK ⊢
      rotate_left
      have HK : Aside0 (KidB (findI l) (nd s.nodes q) (.slice B1 (nd s.nodes q).ints.length d1) (.slice B2 (nd s.nodes q).texts.length d2) (.slice B3 (nd s.nodes q).kids.length d3) 0 wr.heap.size wr ((((w6.setCell ⟨wr.heap.size, 0, none⟩ (.int .i64 (nd s.nodes q).kind)).setCell ⟨wr.heap.size, 1, none⟩ (.slice B1 (nd s.nodes q).ints.length d1)).setCell ⟨wr.heap.size, 2, none⟩ (.slice B2 (nd s.nodes q).texts.length d2)).setCell ⟨wr.heap.size, 3, none⟩ (.slice B3 (nd s.nodes q).kids.length d3))) := ⟨by
        have hlt2 : wr.heap.size < (wr.alloc (.cells #[.int .i64 0, .slice none 0 0, .slice none 0 0, .slice none 0 0] 52)).drew.heap.size := by show _ < (wr.alloc _).heap.size; simp
        exact ⟨below_set4 (below_step HBA.out hB) (Nat.le_refl _), Nat.le_refl _, box4 hb6 _ _ _ _, Kd.R_lower (R_old4 hR1 hlt2 _ _ _ _) (Nat.le_of_lt hlt2), Kd.R_lower (R_old4 hR2 hlt2 _ _ _ _) (Nat.le_of_lt hlt2), by rw [mapTake_zero]; exact Kd.R_lower (R_old4 hR3 hlt2 _ _ _ _) (Nat.le_of_lt hlt2)⟩⟩
      clear hM hR1 hR2 hR3 hB k0 z0 x0 x1 x2 x3 k0d z0d x0d x1d x2d x3d k0a z0a x0a x1a x2a x3a n0 n1 n2 hb6 f0 f0f f1 f1f f2 f2f f3 f3f
      generalize ((((w6.setCell ⟨wr.heap.size, 0, none⟩ (.int .i64 (nd s.nodes q).kind)).setCell ⟨wr.heap.size, 1, none⟩ (.slice B1 (nd s.nodes q).ints.length d1)).setCell ⟨wr.heap.size, 2, none⟩ (.slice B2 (nd s.nodes q).texts.length d2)).setCell ⟨wr.heap.size, 3, none⟩ (.slice B3 (nd s.nodes q).kids.length d3)) = W7 at HK ⊢
      generalize hg6 : wr.heap.size = g6 at HK ⊢
      all_goals
        obtain ⟨W0, hW0⟩ : ∃ W, W = wr := ⟨_, rfl⟩
        have HW0 := Aside0.mk hW0
        rw [← hW0] at HI HK HW
        have hkl : (nd s.nodes q).kids.length ≤ 1000000 := HSq.out.2.2
        clear hW0 HBZ HBA
        go_wp2
        go_loopw [7] (fun v7 W => ∃ j : Nat, j ≤ (nd s.nodes q).kids.length ∧ v7 = .int .i64 j ∧ Aside0 (KidB (findI l) (nd s.nodes q) (.slice B1 (nd s.nodes q).ints.length d1) (.slice B2 (nd s.nodes q).texts.length d2) (.slice B3 (nd s.nodes q).kids.length d3) j g6 W0 W)) (fun v7 _ => (nd s.nodes q).kids.length - (intOf v7).toNat)
        case atStart => exact ⟨0, by omega, rfl, HK⟩
        case round =>
          clear HK
          obtain ⟨j, hj, rfl, HJ⟩ := hrel
          have hq3 : wr.cell? ⟨g6, 3, none⟩ = some (.slice B3 (nd s.nodes q).kids.length d3) := (blk_cell HJ.out.box 3).trans rfl
          by_cases hjl : j < (nd s.nodes q).kids.length
          · obtain ⟨g7, c7', hv, -⟩ := Kd.R_form HJ.out.r3 (by rw [mapTake_len]; omega)
            injection hv with hA hmm hcc
            clear hmm
            subst hA hcc
            obtain ⟨s1, s2, s3, -⟩ := HJ.out.set hjl
            have HLs := Aside0.mk (Kd.C_below HV.out.2.2 (below_step HI.out.below HJ.out.below))
            go_wp2
            go_region_with (first
                | (go_at_call 57; refine (find_C (some adl) c3 l (rd (nd s.nodes q).kids (j : Int)) _ (Kd.C_drew HLs.out) hlc hl).mono ?_; rintro e w8 ⟨rfl, ⟨nn, rfl⟩⟩; obtain ⟨t1, t2, -, t4⟩ := (HJ.out.drewN (1 + nn)).set hjl))
            all_goals
              have HS4 := Aside0.mk t4
              clear t1 t2 t4 s1 s2 hq3
              go_wp2
              go_roundw
              case rel => exact ⟨j + 1, by omega, by go_num, HS4⟩
              case measure => simp [intOf]; omega
          · obtain rfl : j = (nd s.nodes q).kids.length := by omega
            have HI7 := Aside0.mk (HI.out.later HJ.out.below)
            have q0 := (blk_cell HJ.out.box 0).trans rfl
            have q1 := (blk_cell HJ.out.box 1).trans rfl
            have q2 := (blk_cell HJ.out.box 2).trans rfl
            have o0 := (blk_cell HI7.out.out 0).trans rfl
            have hsz1 := HI.out.below.size
            have HMk := Aside0.mk (node_off (n := ⟨(nd s.nodes q).kind, (nd s.nodes q).ints, (nd s.nodes q).texts, (nd s.nodes q).kids.map (findI l)⟩) (Kd.R_lower HJ.out.r1 hsz1) (Kd.R_lower HJ.out.r2 hsz1) (Kd.R_lower (by have h := HJ.out.r3; rw [mapTake_all] at h; exact h) hsz1) HI7.out.row)
            have hlnx : ((refCanL s.nodes l).take i).length ≤ 1000000 := by rw [List.length_take, refN_len]; omega
            have hln : ((refCanL s.nodes l).take (i + 1)).length = i + 1 := by rw [List.length_take, refN_len]; omega
            go_wp2_with (at_builtin; refine Kd.R_append kNode (w0 := w1) w1.heap.size rfl (.tmp 48) (.tmp 50) 32 52 (.agg #[.int .i64 0, .slice none 0 0, .slice none 0 0, .slice none 0 0]) 80 rfl Tryd.underlying32 info_nodez rfl (by decide) (by omega) (.slice A4 i c4) ((refCanL s.nodes l).take i) ⟨(nd s.nodes q).kind, (nd s.nodes q).ints, (nd s.nodes q).texts, (nd s.nodes q).kids.map (findI l)⟩ [.int .i64 (nd s.nodes q).kind, .slice B1 (nd s.nodes q).ints.length d1, .slice B2 (nd s.nodes q).texts.length d2, .slice B3 (nd s.nodes q).kids.length d3] (fun _ => True) (fun k => some k ≠ (Value.slice A4 i c4).ownBlock) rfl (by go_simp) HMk.out (fun k hk => ⟨trivial, hk⟩) (fun _ _ => trivial) HI7.out.row HI7.out.below HI7.out.below.size (by omega) ?_; intro v5 w8 hR8 hB8 hg8 hat8; rw [← HRN.out] at hR8; obtain ⟨A5', c5', rfl⟩ := Kd.R_slice hR8; rw [hln] at hR8 ⊢; obtain ⟨hb8, hN8⟩ := HI7.out.put hR8 hB8 hg8; have HN8 := Aside0.mk hN8; have y0 := (blk_cell hb8 0).trans rfl; have y0f := blk_frozen hb8 0; clear hR8 hB8 hg8 hat8 hN8 q0 q1 q2 o0 hq3)
            go_roundw
            case rel => exact ⟨i + 1, by omega, by go_num, A5', c5', HN8⟩
            case measure => simp [intOf]; omega
    · obtain rfl : i = l.length := by omega
      have hlall : (refCanL s.nodes l).take l.length = refCanL s.nodes l := List.take_of_length_le (Nat.le_of_eq (refN_len _ _))
      have o0 := (blk_cell HI.out.out 0).trans rfl
      have o1 := (blk_cell HI.out.out 1).trans rfl
      have hres := (HI.out.below.block _ (blk_lt HL1.out)).trans HL1.out
      have l0 := (blk_cell hres 0).trans rfl
      have l0f := blk_frozen hres 0
      have l1 := (blk_cell (blk_set hres 0 (.slice A4 l.length c4)) 1).trans rfl
      have l1f := blk_frozen (blk_set hres 0 (.slice A4 l.length c4)) 1
      go_wp2
      have h2 := And.intro ((blk_cell (box2 hres (.slice A4 l.length c4) (.int .i64 ((l.length : Int) - 1))) 0).trans rfl) ((blk_cell (box2 hres (.slice A4 l.length c4) (.int .i64 ((l.length : Int) - 1))) 1).trans rfl)
      have hRR := Kd.R_lower (R_type (R_type HI.out.row hres (by decide) (.slice A4 l.length c4) 0) (blk_set hres 0 _) (by decide) (.int .i64 ((l.length : Int) - 1)) 1) HB1.out.size
      rw [hlall] at hRR
      exact bodyPost_ret (v := .agg #[.slice A4 l.length c4, .int .i64 ((l.length : Int) - 1)]) (by simp [results, Tryd.results37, go_sem, h2]) rfl
        ⟨A4, c4, by rw [refN_len], by rw [refN_len]; exact hRR, below_set2 (below_step HB1.out HI.out.below) (by omega)⟩
end Go.Proofs.YtdfneldenipljaaDoor.L
end
section
namespace Go.Proofs.YtdfneldenipljaaDoor.L
open Go.RowKit Go.ChangeShapes Go.WideShapes Go.Proofs.YtdfneldenipljaaDoorW.PrintWords Go.Proofs.YtdfneldenipljaaDoorW.PrintLast Go.Proofs.YtdfneldenipljaaDoorW.PrintMore
attribute [local go_sem] max2_int min2_int max_two min_two max_three min_three max_four min_four
theorem rcanon_right (A : Option Addr) (c : Nat) (s : Scene) (w : World) (h : kNode.C w A s.nodes.length s.nodes) (hc : s.nodes.length ≤ c) (hR : Right s) (hF : Fit s.nodes) :
    Calls Tryd.prog 37 #[.agg #[.slice A s.nodes.length c, .int .i64 s.root]] w (SceneRPost (canS s) w) := by
  have h1 := rcanon_any A c s (ord s) _ w h hc hF.small (order_f hR.dag ⟨hR.r0, hR.r1⟩ (by have := hF.rows; omega)) (by rw [ord_len hR]; have := hF.1; omega) (ord_met' hR.dag ⟨hR.r0, hR.r1⟩).shut.pl
  have e : (⟨refCanL s.nodes (ord s), ((ord s).length : Int) - 1⟩ : Scene) = canS s := by rw [refCan_eq hR.dag ⟨hR.r0, hR.r1⟩, ord_len hR]; rfl
  rwa [e] at h1
end Go.Proofs.YtdfneldenipljaaDoor.L
end
