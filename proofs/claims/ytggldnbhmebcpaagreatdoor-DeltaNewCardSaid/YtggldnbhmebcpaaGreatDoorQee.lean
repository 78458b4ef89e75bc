/- Part 5 of the texts that the rows of this seat rest on, joined by a program: what its functions come to. Conditions: those that each theorem states. -/
import Derived.Test.YtggldnbhmebcpaaGreatDoorQed
import Derived.Lib.Bytes
set_option linter.unusedVariables false
set_option linter.unusedSimpArgs false
section
-- PRINTED BY print.sh 35421559b90ae4d0a3588c463048766b98c2df88dd9212a6774a882060cdf62d: not written by this session
namespace Go.Proofs.YtggldnbhmebcpaaGreatDoor.PDeltaMakes
open Go.RowKit Go.Proofs.YtggldnbhmebcpaaGreatDoorW.PrintWords Go.Proofs.YtggldnbhmebcpaaGreatDoorW.PrintLast Go.Proofs.YtggldnbhmebcpaaGreatDoorW.PrintMore
attribute [local go_sem] max2_int min2_int max_two min_two max_three min_three max_four min_four   -- for this text's walks alone
set_option linter.unusedVariables false
set_option linter.unusedSimpArgs false
mutual
def dioramaref10_meet.l0 : Nat → Int → List Int → Int → List (S42) → Int → Option (List Int)
 | 0, _, _, _, _, _ => none
 | k + 1, x1, x2, x7, x560000, x560001 => if x7 < (x2.length : Int) then (if 0 ≤ x7 then (if (rd x2 x7) = x1 then (some x2) else (dioramaref10_meet.l0 k x1 x2 (wrap64 (x7 + 1)) x560000 x560001)) else (none)) else (dioramaref10_meet.l1 k x1 x2 0 x560000 x560001)
def dioramaref10_meet.l1 : Nat → Int → List Int → Int → List (S42) → Int → Option (List Int)
 | 0, _, _, _, _, _ => none
 | k + 1, x1, x2, x8, x560000, x560001 => if 0 ≤ x1 then (if x1 < (x560000.length : Int) then (if x8 < (((rd_T42 x560000 x1).f3).length : Int) then (if 0 ≤ x8 then ((dioramaref10_meet.f k x560000 x560001 (rd ((rd_T42 x560000 x1).f3) x8) x2).bind fun t564 => (dioramaref10_meet.l1 k x1 t564 (wrap64 (x8 + 1)) x560000 x560001)) else (none)) else ((some (([] : List Int) : List Int)).bind fun y567 => (if y567.length + x2.length < 17592186044416 then ((some (y567 ++ x2 : List Int)).bind fun y570 => (if y570.length < 17592186044416 then (some (y570 ++ [x1])) else (none))) else (none)))) else (none)) else (none)
def dioramaref10_meet.f : Nat → List (S42) → Int → Int → List Int → Option (List Int)
 | 0, _, _, _, _ => none
 | k + 1, l0_0, a0_1, a1, l2 => dioramaref10_meet.l0 k a1 l2 0 l0_0 a0_1
end
def dioramaref10_meet.T9 : Bool × List (List Nat × List Nat) := (true, [([], []), ([], []), ([1], [1]), ([], []), ([2, 3], [2, 3]), ([4], [4]), ([5], [5]), ([], []), ([6, 7], [6, 7]), ([8], [8]), ([], []), ([0, 9, 10], [0, 9, 10]), ([11, 11, 0, 1, 2, 3, 4, 5, 6, 7, 8, 9, 10, 11], [10, 11])])
def dioramaref10_meet.B9 : List Nat := [0, 0, 2, 0, 14, 30, 62, 0, 254, 510, 0, 2047, 4095]
theorem dioramaref10_meet.tab9 : rtab .any (opsOf Tryz.f100 9) = dioramaref10_meet.T9 := by kernel_rfl
theorem dioramaref10_meet.bits9 : waitsOk dioramaref10_meet.T9.2 dioramaref10_meet.B9 = true := by kernel_rfl
set_option maxHeartbeats 8000000 in
set_option maxRecDepth 100000 in
theorem dioramaref10_meet.calls (k : Nat) : ∀ (A0_0 : Option Addr) (c0_0 : Nat) (l0_0 : List (S42)) (a0_1 : Int) (a1 : Int) (P2_ : Nat → Prop) (A2 : Option Addr) (c2 : Nat) (l2 : List Int) (r : List Int) (w : World) (hr0_0 : Kd.C k42 w A0_0 l0_0.length l0_0) (hc0_0 : l0_0.length ≤ c0_0) (hs2 : Kd.V (Kd.int .i64) 3 w w.heap.size (fun k_ => P2_ k_) (.slice A2 l2.length c2) l2) (h : dioramaref10_meet.f k l0_0 a0_1 a1 l2 = some r),
  Calls Tryz.prog 100 #[.agg #[.slice A0_0 l0_0.length c0_0, .int .i64 a0_1], .int .i64 a1, .slice A2 l2.length c2] w fun e w' => ∃ v0_ : Value, e = .returned (v0_) ∧ Kd.V (Kd.int .i64) 3 w' w.heap.size (fun k_ => (P2_ k_ ∨ w.heap.size ≤ k_)) v0_ r ∧ Below w.heap.size w w' := by
 induction k using Nat.strongRecOn with
 | _ k ih =>
 intro A0_0 c0_0 l0_0 a0_1 a1 P2_ A2 c2 l2 r w hr0_0 hc0_0 hs2 h
 cases k with
 | zero => exact absurd h (by simp [dioramaref10_meet.f])
 | succ k =>
 simp only [dioramaref10_meet.f] at h
 have hu24 := Tryz.underlying24
 have HR0_0 := Aside0.mk hr0_0
 have HC0_0 := Aside0.mk hc0_0
 clear hr0_0 hc0_0
 have HO2 := Aside0.mk (show Kd.V (Kd.int .i64) 3 w w.heap.size (fun k_ => (P2_ k_ ∨ w.heap.size ≤ k_)) (.slice A2 l2.length c2) l2 from Kd.V_mono hs2 (fun k_ hk => .inl hk))
 have HB := Aside0.mk (Below.refl w.heap.size w)
 have H : (dioramaref10_meet.l0 k a1 l2 0 l0_0 a0_1) = some r := h
 clear h
 have H' := Aside0.mk H
 clear H
 go_enter Tryz.func100, Tryz.ntmps100
 go_wp2_with (first | ((with_reducible refine gate_dst (N := 3) rfl ?_); refine box_event ?hg (N := 3) ?hd (cs := #[.slice A0_0 l0_0.length c0_0, .int .i64 a0_1]) (t := 24) ?hr ?_; (case hd => rfl); (case hg => rfl); (case hr => first | (go_simp; done) | (go_simp; rfl)); intro gb559 hg w4 hbox hb; have n0_ := Aside0.mk (Kd.V_below (Kd.V_elderB (by (with_reducible repeat (first | apply Kd.V_alloc | apply Kd.V_drewN | apply Kd.V_drew)); exact HO2.out) gb559 (Nat.le_of_eq hg.symm)) hb); have n1_ := Aside0.mk (below_step (by repeat (first | (with_reducible first | exact HB.out | apply below_alloc | apply pw_below_drewN | apply below_drew1) | exact HB.out)) hb); have n2_ := Aside0.mk (hbox); have n3_ := Aside0.mk ((by rw [hg]; exact (below_size (by repeat (first | (with_reducible first | exact HB.out | apply below_alloc | apply pw_below_drewN | apply below_drew1) | exact HB.out))) : w.heap.size ≤ gb559)); have n4_ := Aside0.mk ((by rw [hg]; exact (below_size (by repeat (first | (with_reducible first | exact HB.out | apply below_alloc | apply pw_below_drewN | apply below_drew1) | exact HB.out))) : w.heap.size ≤ gb559)); clear HO2; clear HB; have HO2 := n0_; have HB := n1_; have BK559 := n2_; have GW559 := n3_; have GE559 := n4_; clear n0_ n1_ n2_ n3_ n4_; clear hb hbox hg))
 go_loopg [7] k (fun kq v7 w' => ∃ (x7_1 : Int), v7 = .int .i64 x7_1 ∧ Aside0 (dioramaref10_meet.l0 kq a1 l2 x7_1 l0_0 a0_1 = some r) ∧ Aside0 (kq ≤ k) ∧ Aside0 (Kd.V (Kd.int .i64) 3 w' w.heap.size (fun k_ => (P2_ k_ ∨ w.heap.size ≤ k_) ∧ k_ ≠ gb559) (.slice A2 l2.length c2) l2) ∧ Aside0 (w'.heap[gb559]? = some (.cells #[(.slice A0_0 l0_0.length c0_0), .int .i64 a0_1] 24 (0, 0))) ∧ Aside0 (Below w.heap.size w w'))
 case atStart => exact ⟨(0), (by first | rfl | (simp; done) | (simp [*]; done)), H', ⟨Nat.le_refl _⟩, ⟨by (with_reducible repeat (first | apply Kd.V_alloc | apply Kd.V_drewN | apply Kd.V_drew)); exact HO2.out⟩, ⟨by (with_reducible repeat (first | refine blk_drewN ?_ _ | refine blk_drew ?_ | refine blk_alloc ?_ _)); exact BK559.out⟩, ⟨by repeat (first | (with_reducible first | exact HB.out | apply below_alloc | apply pw_below_drewN | apply below_drew1 | refine below_set ?_ GE559.out) | exact HB.out)⟩⟩
 case round =>
  clear H'
  try clear c1
  try clear c2
  try clear p2
  obtain ⟨x7_1, rfl, HA, HK1, HO_2, BK559, HB⟩ := hrel
  cases gk with
  | zero => exact absurd HA.out (by simp [dioramaref10_meet.l0])
  | succ k1 =>
   have H := HA.out
   clear HA
   simp only [dioramaref10_meet.l0] at H
   by_cases c5 : x7_1 < (l2.length : Int)
   ·rw [if_pos c5] at H
    have c5b0 : decide (x7_1 < (l2.length : Int)) = true := decide_eq_true c5
    clear c5
    by_cases c6 : 0 ≤ x7_1
    ·rw [if_pos c6] at H
     have c6b0 : decide (0 ≤ x7_1) = true := decide_eq_true c6
     clear c6
     by_cases c7 : (rd l2 x7_1) = a1
     ·rw [if_pos c7] at H
      have c7b0 : ((rd l2 x7_1) == a1) = true := beq_iff_eq.mpr c7
      have c7b1 : ((rd l2 x7_1) != a1) = false := bne_eq_false_iff_eq.mpr c7
      clear c7
      obtain rfl := Option.some.inj H
      have p560 : 0 ≤ (x7_1 : Int) := of_decide_eq_true (by first | (with_reducible assumption) | assumption)
      have q560 : x7_1 < (l2.length : Int) := of_decide_eq_true (by first | (with_reducible assumption) | assumption)
      obtain ⟨ad560, e560, hx560_0⟩ := Kd.at_int (Kd.V_reads' HO_2.out).2.2 x7_1 p560 q560
      cases e560
      replace p560 := eq_true p560
      replace q560 := eq_true q560
      go_wp2
      go_ret
      exact ⟨_, by first | rfl | (simp [errW_none, errW_some] <;> rfl) | (simp [*, errW_none, errW_some] <;> rfl), by (with_reducible repeat (first | apply Kd.V_alloc | apply Kd.V_drewN | apply Kd.V_drew)); exact Kd.V_mono HO_2.out (fun _ hk => hk.1), by repeat (first | (with_reducible first | exact HB.out | apply below_alloc | apply pw_below_drewN | apply below_drew1 | refine below_set ?_ GE559.out) | exact HB.out)⟩
     ·rw [if_neg c7] at H
      have c7b0 : ((rd l2 x7_1) == a1) = false := beq_eq_false_iff_ne.mpr c7
      have c7b1 : ((rd l2 x7_1) != a1) = true := bne_iff_ne.mpr c7
      have H' := Aside0.mk H
      clear H
      have p560 : 0 ≤ (x7_1 : Int) := of_decide_eq_true (by first | (with_reducible assumption) | assumption)
      have q560 : x7_1 < (l2.length : Int) := of_decide_eq_true (by first | (with_reducible assumption) | assumption)
      obtain ⟨ad560, e560, hx560_0⟩ := Kd.at_int (Kd.V_reads' HO_2.out).2.2 x7_1 p560 q560
      cases e560
      replace p560 := eq_true p560
      replace q560 := eq_true q560
      go_wp2
      go_roundg k1
      case measure => have := HK1.out; omega
      case rel => exact ⟨(wrap64 (x7_1 + 1)), (by first | rfl | (simp; done) | (simp [*]; done)), H', ⟨by have := HK1.out; omega⟩, ⟨by (with_reducible repeat (first | apply Kd.V_alloc | apply Kd.V_drewN | apply Kd.V_drew)); exact HO_2.out⟩, ⟨by (with_reducible repeat (first | refine blk_drewN ?_ _ | refine blk_drew ?_ | refine blk_alloc ?_ _)); exact BK559.out⟩, ⟨by repeat (first | (with_reducible first | exact HB.out | apply below_alloc | apply pw_below_drewN | apply below_drew1 | refine below_set ?_ GE559.out) | exact HB.out)⟩⟩
    ·rw [if_neg c6] at H
     exact absurd H (by simp)
   ·rw [if_neg c5] at H
    have c5b0 : decide (x7_1 < (l2.length : Int)) = false := decide_eq_false c5
    clear c5
    have H' := Aside0.mk H
    clear H
    go_wp2
    go_loopg [2, 8] k1 (fun kq v2 v8 w' => ∃ (x2_2 : List Int) (x8_2 : Int), v8 = .int .i64 x8_2 ∧ Aside0 (dioramaref10_meet.l1 kq a1 x2_2 x8_2 l0_0 a0_1 = some r) ∧ Aside0 (kq ≤ k1) ∧ Aside0 (Kd.V (Kd.int .i64) 3 w' w.heap.size (fun k_ => (P2_ k_ ∨ w.heap.size ≤ k_) ∧ k_ ≠ gb559) v2 x2_2) ∧ Aside0 (w'.heap[gb559]? = some (.cells #[(.slice A0_0 l0_0.length c0_0), .int .i64 a0_1] 24 (0, 0))) ∧ Aside0 (Below w.heap.size w w'))
    case atStart => exact ⟨(l2), (0), (by first | rfl | (simp; done) | (simp [*]; done)), H', ⟨Nat.le_refl _⟩, ⟨by (with_reducible repeat (first | apply Kd.V_alloc | apply Kd.V_drewN | apply Kd.V_drew)); exact HO_2.out⟩, ⟨by (with_reducible repeat (first | refine blk_drewN ?_ _ | refine blk_drew ?_ | refine blk_alloc ?_ _)); exact BK559.out⟩, ⟨by repeat (first | (with_reducible first | exact HB.out | apply below_alloc | apply pw_below_drewN | apply below_drew1 | refine below_set ?_ GE559.out) | exact HB.out)⟩⟩
    case round =>
     clear H'
     try clear c1
     try clear c2
     try clear p2
     try clear c5
     try clear c5b0
     try clear p5
     try clear q5
     try clear hx5
     try clear c6
     try clear c6b0
     try clear p6
     try clear c7
     try clear c7b0
     try clear c7b1
     try clear hx560_0
     try clear p2
     try clear p560
     try clear q560
     obtain ⟨x2_2, x8_2, rfl, HA, HK2, HO_2, BK559, HB⟩ := hrel
     cases gk with
     | zero => exact absurd HA.out (by simp [dioramaref10_meet.l1])
     | succ k2 =>
      have H := HA.out
      clear HA
      simp only [dioramaref10_meet.l1] at H
      by_cases c8 : 0 ≤ a1
      ·rw [if_pos c8] at H
       have c8b0 : decide (0 ≤ a1) = true := decide_eq_true c8
       clear c8
       by_cases c9 : a1 < (l0_0.length : Int)
       ·rw [if_pos c9] at H
        have c9b0 : decide (a1 < (l0_0.length : Int)) = true := decide_eq_true c9
        clear c9
        by_cases c10 : x8_2 < (((rd_T42 l0_0 a1).f3).length : Int)
        ·rw [if_pos c10] at H
         have c10b0 : decide (x8_2 < (((rd_T42 l0_0 a1).f3).length : Int)) = true := decide_eq_true c10
         clear c10
         by_cases c11 : 0 ≤ x8_2
         ·rw [if_pos c11] at H
          have c11b0 : decide (0 ≤ x8_2) = true := decide_eq_true c11
          clear c11
          replace H := Option.bind_eq_some_iff.mp H
          obtain ⟨t564, A120, H⟩ := H
          replace H : (dioramaref10_meet.l1 k2 a1 t564 (wrap64 (x8_2 + 1)) l0_0 a0_1) = some r := H
          have A12 := Aside0.mk A120
          clear A120
          have H' := Aside0.mk H
          clear H
          have hcz13_0 : wr.cell? ⟨gb559, 0, none⟩ = some (.slice A0_0 l0_0.length c0_0) := (blk_cell BK559.out 0).trans rfl
          have hcz13_1 : wr.cell? ⟨gb559, 1, none⟩ = some (.int .i64 a0_1) := (blk_cell BK559.out 1).trans rfl
          have hfz13_0 := blk_frozen BK559.out 0
          have hfz13_1 := blk_frozen BK559.out 1
          have p561 : 0 ≤ (a1 : Int) := of_decide_eq_true (by first | (with_reducible assumption) | assumption)
          have q561 : a1 < (l0_0.length : Int) := of_decide_eq_true (by first | (with_reducible assumption) | assumption)
          obtain ⟨ad561, A561_1, c561_1, A561_2, c561_2, A561_3, c561_3, e561, hx561_0, hx561_1, hx561_2, hx561_3, hl561_1, hi561_1, hl561_2, hi561_2, hl561_3, hi561_3⟩ := at_T42 HR0_0.out a1 p561 q561
          cases e561
          replace hx561_0 := (HB.out.cell (World.block_lt_of_cell? w _ hx561_0)).trans hx561_0
          replace hx561_1 := (HB.out.cell (World.block_lt_of_cell? w _ hx561_1)).trans hx561_1
          replace hx561_2 := (HB.out.cell (World.block_lt_of_cell? w _ hx561_2)).trans hx561_2
          replace hx561_3 := (HB.out.cell (World.block_lt_of_cell? w _ hx561_3)).trans hx561_3
          have HR561_1 := Aside0.mk hi561_1
          have HC561_1 := Aside0.mk hl561_1
          clear hi561_1 hl561_1
          have HR561_2 := Aside0.mk hi561_2
          have HC561_2 := Aside0.mk hl561_2
          clear hi561_2 hl561_2
          have HR561_3 := Aside0.mk hi561_3
          have HC561_3 := Aside0.mk hl561_3
          clear hi561_3 hl561_3
          replace p561 := eq_true p561
          replace q561 := eq_true q561
          try go_wp2
          have n0_ := Aside0.mk (Kd.V_drew HO_2.out)
          have n1_ := Aside0.mk (blk_drew BK559.out)
          have n2_ := Aside0.mk (below_drew1 HB.out)
          clear HO_2
          clear BK559
          clear HB
          have HO_2 := n0_
          have BK559 := n1_
          have HB := n2_
          clear n0_ n1_ n2_
          have p562 : 0 ≤ (a1 : Int) := of_decide_eq_true (by first | (with_reducible assumption) | assumption)
          have q562 : a1 < (l0_0.length : Int) := of_decide_eq_true (by first | (with_reducible assumption) | assumption)
          obtain ⟨ad562, A562_1, c562_1, A562_2, c562_2, A562_3, c562_3, e562, hx562_0, hx562_1, hx562_2, hx562_3, hl562_1, hi562_1, hl562_2, hi562_2, hl562_3, hi562_3⟩ := at_T42 HR0_0.out a1 p562 q562
          have hw562_3 := hx562_3
          have hw562_2 := hx562_2
          have hw562_1 := hx562_1
          have hw562_0 := hx562_0
          obtain rfl : ad561 = ad562 := (by injection e562)
          replace hx562_0 := (HB.out.cell (World.block_lt_of_cell? w _ hx562_0)).trans hx562_0
          replace hx562_1 := (HB.out.cell (World.block_lt_of_cell? w _ hx562_1)).trans hx562_1
          replace hx562_2 := (HB.out.cell (World.block_lt_of_cell? w _ hx562_2)).trans hx562_2
          replace hx562_3 := (HB.out.cell (World.block_lt_of_cell? w _ hx562_3)).trans hx562_3
          have HR562_1 := Aside0.mk hi562_1
          have HC562_1 := Aside0.mk hl562_1
          clear hi562_1 hl562_1
          have HR562_2 := Aside0.mk hi562_2
          have HC562_2 := Aside0.mk hl562_2
          clear hi562_2 hl562_2
          have HR562_3 := Aside0.mk hi562_3
          have HC562_3 := Aside0.mk hl562_3
          clear hi562_3 hl562_3
          replace p562 := eq_true p562
          replace q562 := eq_true q562
          have p563 : 0 ≤ (x8_2 : Int) := of_decide_eq_true (by first | (with_reducible assumption) | assumption)
          have q563 : x8_2 < (((rd_T42 l0_0 a1).f3).length : Int) := of_decide_eq_true (by first | (with_reducible assumption) | assumption)
          obtain ⟨ad563, e563, hx563_0⟩ := Kd.at_int HR562_3.out x8_2 p563 q563
          have hw563_0 := hx563_0
          cases e563
          replace hx563_0 := (HB.out.cell (World.block_lt_of_cell? w _ hx563_0)).trans hx563_0
          replace p563 := eq_true p563
          replace q563 := eq_true q563
          obtain ⟨Ao15, co15, eo15⟩ := Kd.V_slice HO_2.out
          (first | subst eo15 | (injection eo15 with f1_ f2_ f3_; have f4_ := f1_.symm; have f5_ := f3_.symm; clear f1_ f2_ f3_; subst f4_; subst f5_))
          refine start_ (n := 13) (S := fun w' => w'.cell? ⟨gb559, 0, none⟩ = some (.slice (some ad561) l0_0.length c0_0) ∧ w'.cell? ⟨gb559, 1, none⟩ = some (.int .i64 a0_1) ∧ w'.cell? (ad561.add ((a1).toNat * 4)) = some (.int .i64 ((rd_T42 l0_0 a1).f0)) ∧ w'.cell? ⟨(ad561.add ((a1).toNat * 4)).block, (ad561.add ((a1).toNat * 4)).off + 1, none⟩ = some (.slice A562_1 ((rd_T42 l0_0 a1).f1).length c562_1) ∧ w'.cell? ⟨(ad561.add ((a1).toNat * 4)).block, (ad561.add ((a1).toNat * 4)).off + 2, none⟩ = some (.slice A562_2 ((rd_T42 l0_0 a1).f2).length c562_2) ∧ w'.cell? ⟨(ad561.add ((a1).toNat * 4)).block, (ad561.add ((a1).toNat * 4)).off + 3, none⟩ = some (.slice (some ad563) ((rd_T42 l0_0 a1).f3).length c562_3) ∧ w'.cell? (ad563.add (x8_2).toNat) = some (.int .i64 (rd ((rd_T42 l0_0 a1).f3) x8_2))) (ds := []) #[false, false, false, false, false, false, false, false, false, false, false, false, false] (by kernel_rfl) rfl rfl ⟨(blk_cell BK559.out 0).trans rfl, (blk_cell BK559.out 1).trans rfl, ((HB.out.cell (World.block_lt_of_cell? w _ hw562_0)).trans hw562_0), ((HB.out.cell (World.block_lt_of_cell? w _ hw562_1)).trans hw562_1), ((HB.out.cell (World.block_lt_of_cell? w _ hw562_2)).trans hw562_2), ((HB.out.cell (World.block_lt_of_cell? w _ hw562_3)).trans hw562_3), ((HB.out.cell (World.block_lt_of_cell? w _ hw563_0)).trans hw563_0)⟩ (fun hHeld => ?_); refine with_tabW dioramaref10_meet.tab9 dioramaref10_meet.bits9 (fun HT_ HW_ => ?_)
          generalize wr.drew = w14 at HO_2 BK559 HB HR562_1 HR562_2 HR562_3 hx562_0 hx562_1 hx562_2 hx562_3 hx563_0 hHeld ⊢
          refine pure_ (i := 1) (N := some 34) (v := ?_) (a' := ?_) #[false, true, false, false, false, false, false, false, false, false, false, false, false] rfl rfl (any_of HT_.out (by kernel_rfl)) (fun _ _ _ h => h) (Or.inl ⟨by rfl, ?_⟩) ?_ ?_
          rotate_left
          ·intro w'
           go_simp
           with_reducible rfl
          rotate_left
          ·simp only [Act.put, List.setIfInBounds_toArray, List.set_cons_zero, List.set_cons_succ, i64_w, i32_w]
           rfl
          refine pure_ (i := 3) (N := some 36) (v := ?_) (a' := ?_) #[false, true, false, true, false, false, false, false, false, false, false, false, false] rfl rfl (any_of HT_.out (by kernel_rfl)) (fun _ _ _ h => h) (Or.inl ⟨by rfl, ?_⟩) ?_ ?_
          rotate_left
          ·intro w'
           go_simp
           with_reducible rfl
          rotate_left
          ·simp only [Act.put, List.setIfInBounds_toArray, List.set_cons_zero, List.set_cons_succ, i64_w, i32_w]
           rfl
          refine pure_ (i := 7) (N := some 40) (v := ?_) (a' := ?_) #[false, true, false, true, false, false, false, true, false, false, false, false, false] rfl rfl (any_of HT_.out (by kernel_rfl)) (fun _ _ _ h => h) (Or.inl ⟨by rfl, ?_⟩) ?_ ?_
          rotate_left
          ·intro w'
           go_simp
           with_reducible rfl
          rotate_left
          ·simp only [Act.put, List.setIfInBounds_toArray, List.set_cons_zero, List.set_cons_succ, i64_w, i32_w]
           rfl
          refine pure_ (i := 10) (N := some 43) (v := ?_) (a' := ?_) #[false, true, false, true, false, false, false, true, false, false, true, false, false] rfl rfl (any_of HT_.out (by kernel_rfl)) (fun _ _ _ h => h) (Or.inl ⟨by rfl, ?_⟩) ?_ ?_
          rotate_left
          ·intro w'
           go_simp
           with_reducible rfl
          rotate_left
          ·simp only [Act.put, List.setIfInBounds_toArray, List.set_cons_zero, List.set_cons_succ, i64_w, i32_w]
           rfl
          refine take_ (i := 0) (N := some 33) (v := ?_) (a' := ?_) #[true, true, false, true, false, false, false, true, false, false, true, false, false] rfl rfl (take_ofW HT_.out HW_.out (by kernel_rfl)) (fun _ _ _ h => h) (Or.inl ⟨by rfl, ?_⟩) hHeld ?_ ?_
          rotate_left
          ·rintro w' ⟨s0, s1, s2, s3, s4, s5, s6⟩
           go_simp
           with_reducible rfl
          rotate_left
          ·simp only [Act.put, List.setIfInBounds_toArray, List.set_cons_zero, List.set_cons_succ, i64_w, i32_w]
           rfl
          refine take_ (i := 2) (N := some 35) (v := ?_) (a' := ?_) #[true, true, true, true, false, false, false, true, false, false, true, false, false] rfl rfl (take_ofW HT_.out HW_.out (by kernel_rfl)) (fun _ _ _ h => h) (Or.inl ⟨by rfl, ?_⟩) hHeld ?_ ?_
          rotate_left
          ·rintro w' ⟨s0, s1, s2, s3, s4, s5, s6⟩
           go_simp
           with_reducible rfl
          rotate_left
          ·simp only [Act.put, List.setIfInBounds_toArray, List.set_cons_zero, List.set_cons_succ, i64_w, i32_w]
           rfl
          refine pure_ (i := 4) (N := some 37) (v := ?_) (a' := ?_) #[true, true, true, true, true, false, false, true, false, false, true, false, false] rfl rfl (any_of HT_.out (by kernel_rfl)) (fun _ _ _ h => h) (Or.inl ⟨by rfl, ?_⟩) ?_ ?_
          rotate_left
          ·intro w'
           go_simp
           with_reducible rfl
          rotate_left
          ·simp only [Act.put, List.setIfInBounds_toArray, List.set_cons_zero, List.set_cons_succ, i64_w, i32_w]
           rfl
          refine pure_ (i := 5) (N := some 38) (v := ?_) (a' := ?_) #[true, true, true, true, true, true, false, true, false, false, true, false, false] rfl rfl (any_of HT_.out (by kernel_rfl)) (fun _ _ _ h => h) (Or.inl ⟨by rfl, ?_⟩) ?_ ?_
          rotate_left
          ·intro w'
           go_simp
           with_reducible rfl
          rotate_left
          ·simp only [Act.put, List.setIfInBounds_toArray, List.set_cons_zero, List.set_cons_succ, i64_w, i32_w]
           rfl
          refine take_ (i := 6) (N := some 39) (v := ?_) (a' := ?_) #[true, true, true, true, true, true, true, true, false, false, true, false, false] rfl rfl (take_ofW HT_.out HW_.out (by kernel_rfl)) (fun _ _ _ h => h) (Or.inl ⟨by rfl, ?_⟩) hHeld ?_ ?_
          rotate_left
          ·rintro w' ⟨s0, s1, s2, s3, s4, s5, s6⟩
           go_simp
           with_reducible rfl
          rotate_left
          ·simp only [Act.put, List.setIfInBounds_toArray, List.set_cons_zero, List.set_cons_succ, i64_w, i32_w]
           rfl
          refine pure_ (i := 8) (N := some 41) (v := ?_) (a' := ?_) #[true, true, true, true, true, true, true, true, true, false, true, false, false] rfl rfl (any_of HT_.out (by kernel_rfl)) (fun _ _ _ h => h) (Or.inl ⟨by rfl, ?_⟩) ?_ ?_
          rotate_left
          ·intro w'
           go_simp
           with_reducible rfl
          rotate_left
          ·simp only [Act.put, List.setIfInBounds_toArray, List.set_cons_zero, List.set_cons_succ, i64_w, i32_w]
           rfl
          refine take_ (i := 9) (N := some 42) (v := ?_) (a' := ?_) #[true, true, true, true, true, true, true, true, true, true, true, false, false] rfl rfl (take_ofW HT_.out HW_.out (by kernel_rfl)) (fun _ _ _ h => h) (Or.inl ⟨by rfl, ?_⟩) hHeld ?_ ?_
          rotate_left
          ·rintro w' ⟨s0, s1, s2, s3, s4, s5, s6⟩
           go_simp
           with_reducible rfl
          rotate_left
          ·simp only [Act.put, List.setIfInBounds_toArray, List.set_cons_zero, List.set_cons_succ, i64_w, i32_w]
           rfl
          refine one_ (i := 11) (N := some 44) #[true, true, true, true, true, true, true, true, true, true, true, true, false] rfl rfl (one_of HT_.out (by kernel_rfl)) (by decide) (fun K hK => ?_)
          refine goes_ Tryz.func100 (by kernel_rfl) rfl #[.agg #[.slice (some ad561) l0_0.length c0_0, .int .i64 a0_1], .int .i64 (rd ((rd_T42 l0_0 a1).f3) x8_2), .slice Ao15 x2_2.length co15] (by rfl) rfl rfl (by (try simp only [List.map_toArray, List.map_cons, List.map_nil]); first | done | rfl | (simp only [List.length_drop, List.length_take]; rfl)) ?_
          with_reducible refine (ih k2 (by have := HK1.out; have := HK2.out; omega) _ _ l0_0 a0_1 (rd ((rd_T42 l0_0 a1).f3) x8_2) (fun k_ => ((P2_ k_ ∨ w.heap.size ≤ k_) ∧ k_ ≠ gb559)) _ _ x2_2 t564 _ ?side1 ?side2 ?side3 A12.out).mono ?_
          (case side1 => repeat (first | exact (Kd.C_below HR0_0.out HB.out) | (with_reducible refine Kd.C_alloc ?_ _) | (with_reducible refine Kd.C_drewN ?_ _) | (with_reducible refine Kd.C_drew ?_)))
          (case side2 => exact HC0_0.out)
          (case side3 => exact HO_2.out)
          rintro e w16 ⟨v565, rfl, ho0, hb⟩
          refine ⟨_, rfl, ?_⟩
          have n0_ := Aside0.mk (Kd.V_below (by (with_reducible repeat (first | apply Kd.V_alloc | apply Kd.V_drewN | apply Kd.V_drew)); exact HO_2.out) hb)
          have n1_ := Aside0.mk (Kd.V_lower (Kd.V_mono (ok' := fun k_ => (P2_ k_ ∨ w.heap.size ≤ k_) ∧ k_ ≠ gb559) ho0 (fun k_ hk_ => ⟨Or.elim hk_ (fun hs_ => hs_.1) (fun hn_ => (.inr (Nat.le_trans (below_size (by repeat (first | (with_reducible first | exact HB.out | apply below_alloc | apply pw_below_drewN | apply below_drew1 | refine below_set ?_ GE559.out) | exact HB.out))) hn_))), Or.elim hk_ (fun hs_ => hs_.2) (fun hn_ => (Kd.freshB (g := gb559) (o := .cells #[.slice (some ad561) l0_0.length c0_0, .int .i64 a0_1] 24 (0, 0)) (by (with_reducible repeat (first | refine blk_drewN ?_ _ | refine blk_drew ?_ | refine blk_alloc ?_ _)); exact BK559.out) k_ hn_))⟩)) (below_size (by repeat (first | (with_reducible first | exact HB.out | apply below_alloc | apply pw_below_drewN | apply below_drew1 | refine below_set ?_ GE559.out) | exact HB.out))))
          have n2_ := Aside0.mk (blk_below (g := gb559) (o := .cells #[.slice (some ad561) l0_0.length c0_0, .int .i64 a0_1] 24 (0, 0)) (by (with_reducible repeat (first | refine blk_drewN ?_ _ | refine blk_drew ?_ | refine blk_alloc ?_ _)); exact BK559.out) hb)
          have n3_ := Aside0.mk (below_step (by repeat (first | (with_reducible first | exact HB.out | apply below_alloc | apply pw_below_drewN | apply below_drew1 | refine below_set ?_ GE559.out) | exact HB.out)) hb)
          clear HO_2
          clear BK559
          clear HB
          have HO_2 := n0_
          have HO566 := n1_
          have BK559 := n2_
          have HB := n3_
          clear n0_ n1_ n2_ n3_
          (try clear hb)
          (try clear hb2)
          (try clear hk)
          (try clear hi)
          (try clear ho0)
          refine hK.out _ _ ⟨(blk_cell BK559.out 0).trans rfl, (blk_cell BK559.out 1).trans rfl, ((HB.out.cell (World.block_lt_of_cell? w _ hw562_0)).trans hw562_0), ((HB.out.cell (World.block_lt_of_cell? w _ hw562_1)).trans hw562_1), ((HB.out.cell (World.block_lt_of_cell? w _ hw562_2)).trans hw562_2), ((HB.out.cell (World.block_lt_of_cell? w _ hw562_3)).trans hw562_3), ((HB.out.cell (World.block_lt_of_cell? w _ hw563_0)).trans hw563_0)⟩ (fun hHeld => ?_)
          clear hK K
          refine norm_ (a' := ?_) ?_ ?_
          rotate_left
          ·show Act.put _ (some 44) _ = _
           simp only [Act.put, List.setIfInBounds_toArray, List.set_cons_zero, List.set_cons_succ, i64_w, i32_w]
           rfl
          refine pure_ (i := 12) (N := some 2) (v := ?_) (a' := ?_) #[true, true, true, true, true, true, true, true, true, true, true, true, true] rfl rfl (any_of HT_.out (by kernel_rfl)) (fun _ _ _ h => h) (Or.inl ⟨by rfl, ?_⟩) ?_ ?_
          rotate_left
          ·intro w'
           go_simp
           with_reducible rfl
          rotate_left
          ·simp only [Act.put, List.setIfInBounds_toArray, List.set_cons_zero, List.set_cons_succ, i64_w, i32_w]
           rfl
          refine done_ (done_of HT_.out (by kernel_rfl)) ?_
          try go_wp2
          go_roundg k2
          case measure => have := HK1.out; have := HK2.out; omega
          case rel => exact ⟨(t564), (wrap64 (x8_2 + 1)), (by first | rfl | (simp; done) | (simp [*]; done)), H', ⟨by have := HK1.out; have := HK2.out; omega⟩, ⟨by (with_reducible repeat (first | apply Kd.V_alloc | apply Kd.V_drewN | apply Kd.V_drew)); exact HO566.out⟩, ⟨by (with_reducible repeat (first | refine blk_drewN ?_ _ | refine blk_drew ?_ | refine blk_alloc ?_ _)); exact BK559.out⟩, ⟨by repeat (first | (with_reducible first | exact HB.out | apply below_alloc | apply pw_below_drewN | apply below_drew1 | refine below_set ?_ GE559.out) | exact HB.out)⟩⟩
         ·rw [if_neg c11] at H
          exact absurd H (by simp)
        ·rw [if_neg c10] at H
         have c10b0 : decide (x8_2 < (((rd_T42 l0_0 a1).f3).length : Int)) = false := decide_eq_false c10
         clear c10
         obtain ⟨y567, hy567⟩ : ∃ y_ : List Int, y_ = (([] : List Int)) := ⟨_, rfl⟩
         replace H : (if y567.length + x2_2.length < 17592186044416 then ((some (y567 ++ x2_2 : List Int)).bind fun y570 => (if y570.length < 17592186044416 then (some (y570 ++ [a1])) else (none))) else (none)) = some r := by first | (rw [hy567]; with_reducible exact H) | (have H2_ := (Option.bind_some _ _).symm.trans H; rw [hy567]; with_reducible exact H2_) | (have H2_ := (Option.bind_some _ _).symm.trans H; with_reducible exact H2_) | with_reducible exact H | (rw [hy567]; exact H) | exact H
         have Ny567 := Aside0.mk hy567
         clear hy567
         by_cases c17 : y567.length + x2_2.length < 17592186044416
         ·rw [if_pos c17] at H
          have LMc17 := Aside0.mk c17
          clear c17
          obtain ⟨y570, hy570⟩ : ∃ y_ : List Int, y_ = (y567 ++ x2_2) := ⟨_, rfl⟩
          replace H : (if y570.length < 17592186044416 then (some (y570 ++ [a1])) else (none)) = some r := by first | (rw [hy570]; with_reducible exact H) | (have H2_ := (Option.bind_some _ _).symm.trans H; rw [hy570]; with_reducible exact H2_) | (have H2_ := (Option.bind_some _ _).symm.trans H; with_reducible exact H2_) | with_reducible exact H | (rw [hy570]; exact H) | exact H
          have Ny570 := Aside0.mk hy570
          clear hy570
          by_cases c18 : y570.length < 17592186044416
          ·rw [if_pos c18] at H
           have LMc18 := Aside0.mk c18
           clear c18
           obtain ⟨y573, hy573⟩ : ∃ y_ : List Int, y_ = (y570 ++ [a1]) := ⟨_, rfl⟩
           replace H : (some y573) = some r := by first | (rw [hy573]; with_reducible exact H) | (have H2_ := (Option.bind_some _ _).symm.trans H; rw [hy573]; with_reducible exact H2_) | (have H2_ := (Option.bind_some _ _).symm.trans H; with_reducible exact H2_) | with_reducible exact H | (rw [hy573]; exact H) | exact H
           have Ny573 := Aside0.mk hy573
           clear hy573
           obtain rfl := Option.some.inj H
           have hcz19_0 : wr.cell? ⟨gb559, 0, none⟩ = some (.slice A0_0 l0_0.length c0_0) := (blk_cell BK559.out 0).trans rfl
           have hcz19_1 : wr.cell? ⟨gb559, 1, none⟩ = some (.int .i64 a0_1) := (blk_cell BK559.out 1).trans rfl
           have hfz19_0 := blk_frozen BK559.out 0
           have hfz19_1 := blk_frozen BK559.out 1
           have p561 : 0 ≤ (a1 : Int) := of_decide_eq_true (by first | (with_reducible assumption) | assumption)
           have q561 : a1 < (l0_0.length : Int) := of_decide_eq_true (by first | (with_reducible assumption) | assumption)
           obtain ⟨ad561, A561_1, c561_1, A561_2, c561_2, A561_3, c561_3, e561, hx561_0, hx561_1, hx561_2, hx561_3, hl561_1, hi561_1, hl561_2, hi561_2, hl561_3, hi561_3⟩ := at_T42 HR0_0.out a1 p561 q561
           cases e561
           replace hx561_0 := (HB.out.cell (World.block_lt_of_cell? w _ hx561_0)).trans hx561_0
           replace hx561_1 := (HB.out.cell (World.block_lt_of_cell? w _ hx561_1)).trans hx561_1
           replace hx561_2 := (HB.out.cell (World.block_lt_of_cell? w _ hx561_2)).trans hx561_2
           replace hx561_3 := (HB.out.cell (World.block_lt_of_cell? w _ hx561_3)).trans hx561_3
           have HR561_1 := Aside0.mk hi561_1
           have HC561_1 := Aside0.mk hl561_1
           clear hi561_1 hl561_1
           have HR561_2 := Aside0.mk hi561_2
           have HC561_2 := Aside0.mk hl561_2
           clear hi561_2 hl561_2
           have HR561_3 := Aside0.mk hi561_3
           have HC561_3 := Aside0.mk hl561_3
           clear hi561_3 hl561_3
           replace p561 := eq_true p561
           replace q561 := eq_true q561
           go_wp2_with (first | ((with_reducible refine gate_dst (N := 45) rfl ?_); refine Kd.R_lit (Kd.int .i64) _ 3 ?hg (N := 45) ?hd (xs := ([] : List Int)) (inner := []) (ok := fun _ => True) (okp := fun _ => True) ?hr ?hp (fun _ hk => hk) trivial (Below.refl _ _) (Nat.le_refl _) (by simp) ?_; (case hd => rfl); (case hg => rfl); (case hr => first | (go_simp; done) | (go_simp; rfl)); (case hp => exact (Reps.none _ _)); intro v568 w20 ho21 hb hg_ hnew_; clear hg_ hnew_; (first | rw [← Ny567.out] at ho21 | (simp only [Int.reduceToNat] at ho21; rw [← Ny567.out] at ho21)); have n0_ := Aside0.mk (Kd.V_elder' (by (with_reducible repeat (first | apply Kd.V_alloc | apply Kd.V_drewN | apply Kd.V_drew)); exact HO_2.out) (Kd.R_base ho21) hb); have n1_ := Aside0.mk (Kd.R_lower (Kd.R_newM (M := fun k_ => (w.heap.size ≤ k_)) ho21 (below_size (by repeat (first | (with_reducible first | exact HB.out | apply below_alloc | apply pw_below_drewN | apply below_drew1 | refine below_set ?_ GE559.out) | exact HB.out))) (fun k_ h_ => h_)) (below_size (by repeat (first | (with_reducible first | exact HB.out | apply below_alloc | apply pw_below_drewN | apply below_drew1 | refine below_set ?_ GE559.out) | exact HB.out)))); have n2_ := Aside0.mk (blk_below (g := gb559) (o := .cells #[.slice (some ad561) l0_0.length c0_0, .int .i64 a0_1] 24 (0, 0)) (by (with_reducible repeat (first | refine blk_drewN ?_ _ | refine blk_drew ?_ | refine blk_alloc ?_ _)); exact BK559.out) hb); have n3_ := Aside0.mk (below_step (by repeat (first | (with_reducible first | exact HB.out | apply below_alloc | apply pw_below_drewN | apply below_drew1 | refine below_set ?_ GE559.out) | exact HB.out)) hb); clear HO_2; clear BK559; clear HB; have HO_2 := n0_; have HO569 := n1_; have BK559 := n2_; have HB := n3_; clear n0_ n1_ n2_ n3_; clear hb ho21; obtain ⟨Ao23, co23, eo23⟩ := Kd.V_slice HO_2.out; subst eo23) | ((with_reducible refine gate_builtin (b := .append) (xs := #[.tmp 45, .tmp 46]) rfl ?_); at_builtin; refine Kd.R_append_rows (Kd.int .i64) (w0 := w) w.heap.size rfl (.tmp 45) (.tmp 46) 40 3 (.int .i64 0) 8 rfl Tryz.underlying40 info3 rfl (by decide) (by omega) v568 y567 x2_2 _ _ _ (fun k_ => (w.heap.size ≤ k_)) (fun _ => False) rfl rfl ?aO ?aR (fun _ _ h => h) (fun _ h => h.elim) ?aF ?aB ?aS ?aL ?_; (case aR => repeat (first | exact (Kd.V_reads' HO_2.out).2.2 | (with_reducible refine Kd.C_alloc ?_ _) | (with_reducible refine Kd.C_drewN ?_ _) | (with_reducible refine Kd.C_drew ?_))); (case aB => exact (by repeat (first | (with_reducible first | exact HB.out | apply below_alloc | apply pw_below_drewN | apply below_drew1 | refine below_set ?_ GE559.out) | exact HB.out))); (case aF => exact (fun k_ hk => (Nat.le_trans (below_size (by repeat (first | (with_reducible first | exact HB.out | apply below_alloc | apply pw_below_drewN | apply below_drew1 | refine below_set ?_ GE559.out) | exact HB.out))) hk))); (case aO => exact (by (with_reducible repeat (first | apply Kd.R_alloc | apply Kd.R_drewN | apply Kd.R_drew)); exact Kd.R_mono HO569.out (fun _ hk => hk.1))); (case aS => exact (below_size (by repeat (first | (with_reducible first | exact HB.out | apply below_alloc | apply pw_below_drewN | apply below_drew1 | refine below_set ?_ GE559.out) | exact HB.out)))); (case aL => have := LMc17.out; omega); intro v571 w22 ho hb hg hat; rw [← Ny570.out] at ho; have n0_ := Aside0.mk (Kd.V_afterv (ok := (fun k_ => (P2_ k_ ∨ w.heap.size ≤ k_) ∧ k_ ≠ gb559)) (by (with_reducible repeat (first | apply Kd.V_alloc | apply Kd.V_drewN | apply Kd.V_drew)); exact HO_2.out) hg hat); have n1_ := Aside0.mk (blk_grown (g := gb559) (o := .cells #[.slice (some ad561) l0_0.length c0_0, .int .i64 a0_1] 24 (0, 0)) (by (with_reducible repeat (first | refine blk_drewN ?_ _ | refine blk_drew ?_ | refine blk_alloc ?_ _)); exact BK559.out) hg (Kd.R_ne HO569.out BK559.out (by decide))); have n2_ := Aside0.mk (hb); have n3_ := Aside0.mk (ho); clear HO_2; clear BK559; clear HB; clear HO569; have HO_2 := n0_; have BK559 := n1_; have HB := n2_; have HO572 := n3_; clear n0_ n1_ n2_ n3_; clear ho hb hg hat) | ((with_reducible refine gate_builtin (b := .append) (xs := #[.tmp 47, .tmp 49]) rfl ?_); at_builtin; refine Kd.R_append (Kd.int .i64) (w0 := w) w.heap.size rfl (.tmp 47) (.tmp 49) 40 3 (.int .i64 0) 8 rfl Tryz.underlying40 info3 rfl (by decide) (by omega) v571 y570 a1 [.int .i64 a1] (fun k_ => (w.heap.size ≤ k_)) (fun _ => False) rfl rfl ?aP (fun _ hk => hk.elim) ?aF ?aO ?aB ?aS ?aL ?_; (case aP => exact rfl); (case aB => exact (by repeat (first | (with_reducible first | exact HB.out | apply below_alloc | apply pw_below_drewN | apply below_drew1 | refine below_set ?_ GE559.out) | exact HB.out))); (case aF => exact (fun k_ hk => (Nat.le_trans (below_size (by repeat (first | (with_reducible first | exact HB.out | apply below_alloc | apply pw_below_drewN | apply below_drew1 | refine below_set ?_ GE559.out) | exact HB.out))) hk))); (case aO => exact (by (with_reducible repeat (first | apply Kd.R_alloc | apply Kd.R_drewN | apply Kd.R_drew)); exact HO572.out)); (case aS => exact (below_size (by repeat (first | (with_reducible first | exact HB.out | apply below_alloc | apply pw_below_drewN | apply below_drew1 | refine below_set ?_ GE559.out) | exact HB.out)))); (case aL => have := LMc18.out; omega); intro v574 w24 ho hb hg hat; rw [← Ny573.out] at ho; have n0_ := Aside0.mk (Kd.V_afterv (ok := (fun k_ => (P2_ k_ ∨ w.heap.size ≤ k_) ∧ k_ ≠ gb559)) (by (with_reducible repeat (first | apply Kd.V_alloc | apply Kd.V_drewN | apply Kd.V_drew)); exact HO_2.out) hg hat); have n1_ := Aside0.mk (blk_grown (g := gb559) (o := .cells #[.slice (some ad561) l0_0.length c0_0, .int .i64 a0_1] 24 (0, 0)) (by (with_reducible repeat (first | refine blk_drewN ?_ _ | refine blk_drew ?_ | refine blk_alloc ?_ _)); exact BK559.out) hg (Kd.R_ne HO572.out BK559.out (by decide))); have n2_ := Aside0.mk (hb); have n3_ := Aside0.mk (ho); clear HO_2; clear BK559; clear HB; clear HO572; have HO_2 := n0_; have BK559 := n1_; have HB := n2_; have HO575 := n3_; clear n0_ n1_ n2_ n3_; clear ho hb hg hat))
           go_ret
           exact ⟨_, by first | rfl | (simp [errW_none, errW_some] <;> rfl) | (simp [*, errW_none, errW_some] <;> rfl), Kd.V_mono (Kd.R_V (by (with_reducible repeat (first | apply Kd.R_alloc | apply Kd.R_drewN | apply Kd.R_drew)); exact HO575.out)) (fun k_ hk => by first | exact ⟨(.inr (hk.1)), hk.2⟩ | exact (.inr (hk))), by repeat (first | (with_reducible first | exact HB.out | apply below_alloc | apply pw_below_drewN | apply below_drew1 | refine below_set ?_ GE559.out) | exact HB.out)⟩
          ·rw [if_neg c18] at H
           exact absurd H (by simp)
         ·rw [if_neg c17] at H
          exact absurd H (by simp)
       ·rw [if_neg c9] at H
        exact absurd H (by simp)
      ·rw [if_neg c8] at H
       exact absurd H (by simp)

def dioramaref10_Order.f (k : Nat) (l0_0 : List (S42)) (a0_1 : Int) : Option (List Int) := (dioramaref10_meet.f k l0_0 a0_1 a0_1 ([] : List Int)).bind fun t577 => (some t577)
set_option maxHeartbeats 8000000 in
set_option maxRecDepth 100000 in
theorem dioramaref10_Order.calls (k : Nat) (A0_0 : Option Addr) (c0_0 : Nat) (l0_0 : List (S42)) (a0_1 : Int) (r : List Int) (w : World) (hr0_0 : Kd.C k42 w A0_0 l0_0.length l0_0) (hc0_0 : l0_0.length ≤ c0_0) (h : dioramaref10_Order.f k l0_0 a0_1 = some r) :
  Calls Tryz.prog 64 #[.agg #[.slice A0_0 l0_0.length c0_0, .int .i64 a0_1]] w fun e w' => ∃ v0_ : Value, e = .returned (v0_) ∧ Kd.V (Kd.int .i64) 3 w' w.heap.size (fun k_ => (w.heap.size ≤ k_)) v0_ r ∧ Below w.heap.size w w' := by
 have hu24 := Tryz.underlying24
 have HR0_0 := Aside0.mk hr0_0
 have HC0_0 := Aside0.mk hc0_0
 clear hr0_0 hc0_0
 have HB := Aside0.mk (Below.refl w.heap.size w)
 have H : ((dioramaref10_meet.f k l0_0 a0_1 a0_1 ([] : List Int)).bind fun t577 => (some t577)) = some r := h
 clear h
 replace H := Option.bind_eq_some_iff.mp H
 obtain ⟨t577, A20, H⟩ := H
 replace H : (some t577) = some r := H
 have A2 := Aside0.mk A20
 clear A20
 obtain rfl := Option.some.inj H
 go_enter Tryz.func64, Tryz.ntmps64
 go_wp2_with (first | ((with_reducible refine gate_dst (N := 1) rfl ?_); refine box_event ?hg (N := 1) ?hd (cs := #[.slice A0_0 l0_0.length c0_0, .int .i64 a0_1]) (t := 24) ?hr ?_; (case hd => rfl); (case hg => rfl); (case hr => first | (go_simp; done) | (go_simp; rfl)); intro gb576 hg w3 hbox hb; have n0_ := Aside0.mk (below_step (by repeat (first | (with_reducible first | exact HB.out | apply below_alloc | apply pw_below_drewN | apply below_drew1) | exact HB.out)) hb); have n1_ := Aside0.mk (hbox); have n2_ := Aside0.mk ((by rw [hg]; exact (below_size (by repeat (first | (with_reducible first | exact HB.out | apply below_alloc | apply pw_below_drewN | apply below_drew1) | exact HB.out))) : w.heap.size ≤ gb576)); have n3_ := Aside0.mk ((by rw [hg]; exact (below_size (by repeat (first | (with_reducible first | exact HB.out | apply below_alloc | apply pw_below_drewN | apply below_drew1) | exact HB.out))) : w.heap.size ≤ gb576)); clear HB; have HB := n0_; have BK576 := n1_; have GW576 := n2_; have GE576 := n3_; clear n0_ n1_ n2_ n3_; clear hb hbox hg; have hcz4_0 : w3.cell? ⟨gb576, 0, none⟩ = some (.slice A0_0 l0_0.length c0_0) := (blk_cell BK576.out 0).trans rfl; have hcz4_1 : w3.cell? ⟨gb576, 1, none⟩ = some (.int .i64 a0_1) := (blk_cell BK576.out 1).trans rfl; have hfz4_0 := blk_frozen BK576.out 0; have hfz4_1 := blk_frozen BK576.out 1) | ((with_reducible refine gate_callee (f := 100) rfl ?_); refine goesL_ (some 6) rfl rfl Tryz.func100 (by kernel_rfl) rfl #[.agg #[.slice A0_0 l0_0.length c0_0, .int .i64 a0_1], .int .i64 a0_1, .slice none 0 0] rfl (by (try simp only [List.map_toArray, List.map_cons, List.map_nil]); first | done | rfl | (simp only [List.length_drop, List.length_take]; rfl)) ?_; (refine (dioramaref10_meet.calls k _ _ l0_0 a0_1 a0_1 (fun k_ => False) _ _ ([] : List Int) t577 _ ?side1 ?side2 ?side3 A2.out).mono ?_); (case side1 => repeat (first | exact (Kd.C_below HR0_0.out HB.out) | (with_reducible refine Kd.C_alloc ?_ _) | (with_reducible refine Kd.C_drewN ?_ _) | (with_reducible refine Kd.C_drew ?_))); (case side2 => exact HC0_0.out); (case side3 => exact Kd.V_nil _ _ _ _ _); rintro e w5 ⟨v578, rfl, ho0, hb⟩; refine ⟨_, rfl, ?_⟩; have n0_ := Aside0.mk (Kd.V_lower (Kd.V_mono (ok' := fun k_ => (w.heap.size ≤ k_) ∧ k_ ≠ gb576) ho0 (fun k_ hk_ => ⟨Or.elim hk_ (fun hs_ => (hs_).elim) (fun hn_ => (Nat.le_trans (below_size (by repeat (first | (with_reducible first | exact HB.out | apply below_alloc | apply pw_below_drewN | apply below_drew1 | refine below_set ?_ GE576.out) | exact HB.out))) hn_)), Or.elim hk_ (fun hs_ => (hs_).elim) (fun hn_ => (Kd.freshB (g := gb576) (o := .cells #[.slice A0_0 l0_0.length c0_0, .int .i64 a0_1] 24 (0, 0)) (by (with_reducible repeat (first | refine blk_drewN ?_ _ | refine blk_drew ?_ | refine blk_alloc ?_ _)); exact BK576.out) k_ hn_))⟩)) (below_size (by repeat (first | (with_reducible first | exact HB.out | apply below_alloc | apply pw_below_drewN | apply below_drew1 | refine below_set ?_ GE576.out) | exact HB.out)))); have n1_ := Aside0.mk (blk_below (g := gb576) (o := .cells #[.slice A0_0 l0_0.length c0_0, .int .i64 a0_1] 24 (0, 0)) (by (with_reducible repeat (first | refine blk_drewN ?_ _ | refine blk_drew ?_ | refine blk_alloc ?_ _)); exact BK576.out) hb); have n2_ := Aside0.mk (below_step (by repeat (first | (with_reducible first | exact HB.out | apply below_alloc | apply pw_below_drewN | apply below_drew1 | refine below_set ?_ GE576.out) | exact HB.out)) hb); clear BK576; clear HB; have HO579 := n0_; have BK576 := n1_; have HB := n2_; clear n0_ n1_ n2_; (try clear hb); (try clear hb2); (try clear hk); (try clear hi); (try clear ho0)))
 go_ret
 exact ⟨_, by first | rfl | (simp [errW_none, errW_some] <;> rfl) | (simp [*, errW_none, errW_some] <;> rfl), by (with_reducible repeat (first | apply Kd.V_alloc | apply Kd.V_drewN | apply Kd.V_drew)); exact Kd.V_mono HO579.out (fun _ hk => hk.1), by repeat (first | (with_reducible first | exact HB.out | apply below_alloc | apply pw_below_drewN | apply below_drew1 | refine below_set ?_ GE576.out) | exact HB.out)⟩

def dioramaref10_Find.l0 : Nat → List Int → Int → Int → Option (Int)
 | 0, _, _, _ => none
 | k + 1, x0, x1, x5 => if x5 < (x0.length : Int) then (if 0 ≤ x5 then (if (rd x0 x5) = x1 then (some x5) else (dioramaref10_Find.l0 k x0 x1 (wrap64 (x5 + 1)))) else (none)) else (some (-1))
def dioramaref10_Find.f (k : Nat) (l0 : List Int) (a1 : Int) : Option (Int) := dioramaref10_Find.l0 k l0 a1 0
set_option maxHeartbeats 8000000 in
set_option maxRecDepth 100000 in
theorem dioramaref10_Find.calls (k : Nat) (A0 : Option Addr) (c0 : Nat) (l0 : List Int) (a1 : Int) (r : Int) (w : World) (hr0 : Kd.C (Kd.int .i64) w A0 l0.length l0) (hc0 : l0.length ≤ c0) (h : dioramaref10_Find.f k l0 a1 = some r) :
  Calls Tryz.prog 65 #[.slice A0 l0.length c0, .int .i64 a1] w fun e w' => e = .returned (.int .i64 r) ∧ Drawn0 w w' := by
 have HR0 := Aside0.mk hr0
 have HC0 := Aside0.mk hc0
 clear hr0 hc0
 have H : (dioramaref10_Find.l0 k l0 a1 0) = some r := h
 clear h
 have H' := Aside0.mk H
 clear H
 go_enter Tryz.func65, Tryz.ntmps65
 go_wp2
 go_loopg [5] k (fun kq v5 w' => ∃ (x5_1 : Int), v5 = .int .i64 x5_1 ∧ Aside0 (dioramaref10_Find.l0 kq l0 a1 x5_1 = some r) ∧ Aside0 (kq ≤ k) ∧ Drawn0 w w')
 case atStart => exact ⟨(0), (by first | rfl | (simp; done) | (simp [*]; done)), H', ⟨Nat.le_refl _⟩, by repeat (first | exact Drawn0.refl _ | apply Drawn0.step)⟩
 case round =>
  clear H'
  try clear p2
  obtain ⟨x5_1, rfl, HA, HK1, ⟨m1, rfl⟩⟩ := hrel
  cases gk with
  | zero => exact absurd HA.out (by simp [dioramaref10_Find.l0])
  | succ k1 =>
   have H := HA.out
   clear HA
   simp only [dioramaref10_Find.l0] at H
   by_cases c3 : x5_1 < (l0.length : Int)
   ·rw [if_pos c3] at H
    have c3b0 : decide (x5_1 < (l0.length : Int)) = true := decide_eq_true c3
    clear c3
    by_cases c4 : 0 ≤ x5_1
    ·rw [if_pos c4] at H
     have c4b0 : decide (0 ≤ x5_1) = true := decide_eq_true c4
     clear c4
     by_cases c5 : (rd l0 x5_1) = a1
     ·rw [if_pos c5] at H
      have c5b0 : ((rd l0 x5_1) == a1) = true := beq_iff_eq.mpr c5
      have c5b1 : ((rd l0 x5_1) != a1) = false := bne_eq_false_iff_eq.mpr c5
      clear c5
      obtain rfl := Option.some.inj H
      have p580 : 0 ≤ (x5_1 : Int) := of_decide_eq_true (by first | (with_reducible assumption) | assumption)
      have q580 : x5_1 < (l0.length : Int) := of_decide_eq_true (by first | (with_reducible assumption) | assumption)
      obtain ⟨ad580, e580, hx580_0⟩ := Kd.at_int HR0.out x5_1 p580 q580
      cases e580
      replace p580 := eq_true p580
      replace q580 := eq_true q580
      go_wp2
      go_ret
      exact ⟨by first | rfl | (simp; done) | (simp [*]; done), by repeat (first | exact Drawn0.refl _ | apply Drawn0.step)⟩
     ·rw [if_neg c5] at H
      have c5b0 : ((rd l0 x5_1) == a1) = false := beq_eq_false_iff_ne.mpr c5
      have c5b1 : ((rd l0 x5_1) != a1) = true := bne_iff_ne.mpr c5
      have H' := Aside0.mk H
      clear H
      have p580 : 0 ≤ (x5_1 : Int) := of_decide_eq_true (by first | (with_reducible assumption) | assumption)
      have q580 : x5_1 < (l0.length : Int) := of_decide_eq_true (by first | (with_reducible assumption) | assumption)
      obtain ⟨ad580, e580, hx580_0⟩ := Kd.at_int HR0.out x5_1 p580 q580
      cases e580
      replace p580 := eq_true p580
      replace q580 := eq_true q580
      go_wp2
      go_roundg k1
      case measure => have := HK1.out; omega
      case rel => exact ⟨(wrap64 (x5_1 + 1)), (by first | rfl | (simp; done) | (simp [*]; done)), H', ⟨by have := HK1.out; omega⟩, by repeat (first | exact Drawn0.refl _ | apply Drawn0.step)⟩
    ·rw [if_neg c4] at H
     exact absurd H (by simp)
   ·rw [if_neg c3] at H
    have c3b0 : decide (x5_1 < (l0.length : Int)) = false := decide_eq_false c3
    clear c3
    obtain rfl := Option.some.inj H
    go_wp2
    go_ret
    exact ⟨by first | rfl | (simp; done) | (simp [*]; done), by repeat (first | exact Drawn0.refl _ | apply Drawn0.step)⟩

end Go.Proofs.YtggldnbhmebcpaaGreatDoor.PDeltaMakes
end
section
namespace Go.Proofs.YtggldnbhmebcpaaGreatDoor.L
open Go.RowKit Go.ChangeShapes Go.WideShapes Go.Proofs.YtggldnbhmebcpaaGreatDoorW.PrintWords Go.Proofs.YtggldnbhmebcpaaGreatDoorW.PrintLast Go.Proofs.YtggldnbhmebcpaaGreatDoorW.PrintMore
attribute [local go_sem] max2_int min2_int max_two min_two max_three min_three max_four min_four
open Go.Proofs.YtggldnbhmebcpaaGreatDoor.PDeltaMakes
def findI (l : List Int) (a : Int) : Int := if a ∈ l then (l.idxOf a : Int) else -1
theorem find_l0 (l : List Int) (a : Int) (hl : l.length ≤ 1000000) : ∀ (m i : Nat), l.length ≤ i + m → i ≤ l.length → (∀ j : Nat, j < i → ¬ rd l (j : Int) = a) → dioramaref10_Find.l0 (m + 1) l a (i : Int) = some (findI l a)
  | 0, i, h1, h2, h3 => by
    rw [dioramaref10_Find.l0, if_neg (by omega)]
    have : ¬ a ∈ l := fun hm => by
      obtain ⟨j, hj⟩ := List.getElem?_of_mem hm
      have hjl := (List.getElem?_eq_some_iff.1 hj).1
      refine h3 j (by omega) ?_
      unfold rd
      rw [Int.toNat_natCast, List.getD_eq_getElem?_getD, hj]; rfl
    unfold findI
    rw [if_neg this]
  | m + 1, i, h1, h2, h3 => by
    by_cases hi : i < l.length
    · rw [dioramaref10_Find.l0, if_pos (by omega), if_pos (Int.natCast_nonneg i)]
      by_cases he : rd l (i : Int) = a
      · rw [if_pos he]
        have hg : l[i] = a := by rw [← he, rd_eq hi]
        have hm : a ∈ l := by rw [← hg]; exact List.getElem_mem hi
        unfold findI
        rw [if_pos hm]
        have h4 : l.idxOf a ≤ i := by
          refine Nat.le_of_not_lt (fun hlt => ?_)
          have := List.not_of_lt_findIdx (p := fun x => x == a) (xs := l) hlt
          simp [hg] at this
        have h5 : l.idxOf a = i := by
          refine Nat.le_antisymm h4 (Nat.le_of_not_lt (fun hlt => ?_))
          have h6 : l.idxOf a < l.length := by omega
          refine h3 _ hlt ?_
          rw [rd_eq h6]
          exact List.getElem_idxOf h6
        rw [h5]
      · rw [if_neg he, wrap64_in ((i : Int) + 1) (by omega), show (i : Int) + 1 = ((i + 1 : Nat) : Int) from rfl]
        exact find_l0 l a hl m (i + 1) (by omega) (by omega) (ext_lt (P := fun j : Nat => ¬ rd l (j : Int) = a) h3 he)
    · have := find_l0 l a hl m i (by omega) h2 h3
      rw [dioramaref10_Find.l0, if_neg (by omega)]
      rw [dioramaref10_Find.l0.eq_def] at this
      cases m with
      | zero => simpa [show ¬ ((i : Int) < (l.length : Int)) by omega] using this
      | succ m => simpa [show ¬ ((i : Int) < (l.length : Int)) by omega] using this
theorem find_C (A : Option Addr) (c : Nat) (l : List Int) (a : Int) (w : World) (h : (Kd.int .i64).C w A l.length l) (hc : l.length ≤ c) (hl : l.length ≤ 1000000) :
    Calls Tryz.prog 65 #[.slice A l.length c, .int .i64 a] w fun e w' => e = .returned (.int .i64 (findI l a)) ∧ Drawn0 w w' :=
  dioramaref10_Find.calls (l.length + 1) A c l a (findI l a) w h hc (by
    unfold dioramaref10_Find.f
    exact find_l0 l a hl l.length 0 (by omega) (by omega) (fun j hj => by omega))
def refN (ns : List Node) (l : List Int) (a : Int) : Node := ⟨(nd ns a.toNat).kind, (nd ns a.toNat).ints, (nd ns a.toNat).texts, (nd ns a.toNat).kids.map (findI l)⟩
def refCanL (ns : List Node) (l : List Int) : List Node := l.map (refN ns l)
def SceneRPost (t : Scene) (w : World) (e : Ending) (w' : World) : Prop := ∃ A c, e = .returned (.agg #[.slice A t.nodes.length c, .int .i64 t.root]) ∧ kNode.R 42 w' w.heap.size (fun _ => True) (.slice A t.nodes.length c) t.nodes ∧ Below w.heap.size w w'
structure KidB (f : Int → Int) (n : Node) (v1 v2 v3 : Value) (j g : Nat) (W0 W : World) : Prop where
  below : Below W0.heap.size W0 W
  gb : W0.heap.size ≤ g
  box : W.heap[g]? = some (.cells #[.int .i64 n.kind, v1, v2, v3] 42 (0, 0))
  r1 : (Kd.int .i64).R 2 W W0.heap.size (fun _ => True) v1 n.ints
  r2 : Kd.string.R 9 W W0.heap.size (fun _ => True) v2 n.texts
  r3 : (Kd.int .i64).R 3 W W0.heap.size (fun _ => True) v3 (mapTake f n.kids j)
theorem KidB.drewN {f : Int → Int} {n : Node} {v1 v2 v3 : Value} {j g : Nat} {W0 W : World} (h : KidB f n v1 v2 v3 j g W0 W) (m : Nat) : KidB f n v1 v2 v3 j g W0 (W.drewN m) :=
  ⟨pw_below_drewN h.below m, h.gb, h.box, Kd.R_drewN h.r1 m, Kd.R_drewN h.r2 m, Kd.R_drewN h.r3 m⟩
theorem KidB.set {f : Int → Int} {n : Node} {v1 v2 : Value} {g' g c m : Nat} {j : Nat} {W0 W : World} (h : KidB f n v1 v2 (.slice (some ⟨g, 0, none⟩) m c) j g' W0 W) (hj : j < n.kids.length) :
    W.cell? ⟨g, j, none⟩ = some (.int .i64 (rd n.kids (j : Int))) ∧ W.frozen? ⟨g, j, none⟩ = false ∧ g ≠ g' ∧ KidB f n v1 v2 (.slice (some ⟨g, 0, none⟩) m c) (j + 1) g' W0 (W.setCell ⟨g, j, none⟩ (.int .i64 (f (rd n.kids (j : Int))))) := by
  have hm := (Kd.R_reads' h.r3).1
  rw [mapTake_len] at hm
  obtain ⟨c1, c2⟩ := ints_cell h.r3 j (by omega)
  obtain ⟨s1, s2, s3⟩ := ints_store h.r3 j (by omega) (f (rd n.kids (j : Int)))
  rw [mapTake_rd f _ _ hj] at c1
  rw [mapTake_set f _ _ hj] at s1
  obtain ⟨cells, hc⟩ := Kd.R_typed h.r3 g rfl
  have hne : g ≠ g' := fun e => by
    rw [e, h.box] at hc
    cases hc
  refine ⟨c1, c2, hne, below_set h.below s3, h.gb, blk_grown h.box s2 (fun e => ?_), Kd.R_grown1 h.r1 rfl s2 (Kd.R_ne h.r1 hc (by decide)), Kd.R_grown1 h.r2 rfl s2 (Kd.R_ne h.r2 hc (by decide)), s1⟩
  injection e with e
  exact hne e.symm
end Go.Proofs.YtggldnbhmebcpaaGreatDoor.L
end
section
namespace Go.Proofs.YtggldnbhmebcpaaGreatDoor.L
open Go.RowKit Go.ChangeShapes Go.WideShapes Go.Proofs.YtggldnbhmebcpaaGreatDoorW.PrintWords Go.Proofs.YtggldnbhmebcpaaGreatDoorW.PrintLast Go.Proofs.YtggldnbhmebcpaaGreatDoorW.PrintMore
attribute [local go_sem] max2_int min2_int max_two min_two max_three min_three max_four min_four
open Go.Proofs.YtggldnbhmebcpaaGreatDoor.PDeltaMakes
structure LedInv (ns : List Node) (K : List Int) (met : List Bool) (vs work : List Int) : Prop where
 len : met.length = ns.length
 tell : ∀ i : Nat, i < ns.length → rdOf false met (i : Int) = decide ((i : Int) ∈ vs)
 vpl : ∀ x ∈ vs, 0 ≤ x ∧ x < (ns.length : Int)
 wpl : ∀ x ∈ work, 0 ≤ x ∧ x < (ns.length : Int)
 vin : ∀ x ∈ vs, Rch ns K x
 win : ∀ x ∈ work, Rch ns K x
 k0 : ∀ k ∈ K, k ∈ vs ∨ k ∈ work
 clo : ∀ x ∈ vs, ∀ k ∈ kids ns x, k ∈ vs ∨ k ∈ work
theorem LedInv.done {ns : List Node} {K : List Int} {met : List Bool} {vs : List Int} (h : LedInv ns K met vs []) (x : Int) : Rch ns K x ↔ x ∈ vs := by
 refine ⟨fun hr => ?_, h.vin x⟩
 induction hr with
 | base hk => exact (h.k0 _ hk).resolve_right (by simp)
 | step _ hk ih => exact (h.clo _ ih _ hk).resolve_right (by simp)
theorem LedInv.skip {ns : List Node} {K : List Int} {met : List Bool} {vs work : List Int} {x : Int} (h : LedInv ns K met vs (x :: work)) (hx : x ∈ vs) : LedInv ns K met vs work :=
 ⟨h.len, h.tell, h.vpl, fun y hy => h.wpl y (by simp [hy]), h.vin, fun y hy => h.win y (by simp [hy]),
  fun k hk => (h.k0 k hk).elim .inl (fun hm => by
   rcases List.mem_cons.1 hm with rfl | hm
   ·exact .inl hx
   ·exact .inr hm),
  fun y hy k hk => (h.clo y hy k hk).elim .inl (fun hm => by
   rcases List.mem_cons.1 hm with rfl | hm
   ·exact .inl hx
   ·exact .inr hm)⟩
theorem LedInv.meet {ns : List Node} {K : List Int} {met : List Bool} {vs work : List Int} {x : Int} (hP : Places ns) (h : LedInv ns K met vs (x :: work)) (hx : ¬ x ∈ vs) : LedInv ns K (met.set x.toNat true) (x :: vs) (work ++ kids ns x) := by
 have hxp := h.wpl x (by simp)
 obtain ⟨q, rfl⟩ : ∃ q : Nat, x = (q : Int) := ⟨x.toNat, by omega⟩
 have hkp : ∀ k ∈ kids ns q, 0 ≤ k ∧ k < (ns.length : Int) := fun k hk => hP q (by omega) k hk
 refine ⟨by rw [List.length_set]; exact h.len, fun i hi => ?_, fun y hy => ?_, fun y hy => ?_, fun y hy => ?_, fun y hy => ?_, fun k hk => ?_, fun y hy k hk => ?_⟩
 ·have ht := h.tell i hi
  unfold rdOf at ht ⊢
  rw [Int.toNat_natCast] at ht ⊢
  rw [Int.toNat_natCast, List.getD_eq_getElem?_getD, List.getElem?_set]
  rw [List.getD_eq_getElem?_getD] at ht
  by_cases e : q = i
  ·subst e
   rw [if_pos rfl, if_pos (by rw [h.len]; exact hi)]
   simp
  ·rw [if_neg e, ht]
   have : ((i : Int) ∈ (q : Int) :: vs) ↔ (i : Int) ∈ vs := by
    rw [List.mem_cons]
    exact ⟨fun h => h.resolve_left (fun e' => e (by omega)), .inr⟩
   exact decide_eq_decide.2 this.symm
 ·rcases List.mem_cons.1 hy with rfl | hy
  ·exact hxp
  ·exact h.vpl y hy
 ·rcases List.mem_append.1 hy with hy | hy
  ·exact h.wpl y (by simp [hy])
  ·exact hkp y hy
 ·rcases List.mem_cons.1 hy with rfl | hy
  ·exact h.win _ (by simp)
  ·exact h.vin y hy
 ·rcases List.mem_append.1 hy with hy | hy
  ·exact h.win y (by simp [hy])
  ·exact .step (h.win _ (List.mem_cons_self)) hy
 ·rcases h.k0 k hk with hm | hm
  ·exact .inl (by simp [hm])
  ·rcases List.mem_cons.1 hm with rfl | hm
   ·exact .inl (by simp)
   ·exact .inr (by simp [hm])
 ·rcases List.mem_cons.1 hy with rfl | hy
  ·exact .inr (by simp [hk])
  ·rcases h.clo y hy k hk with hm | hm
   ·exact .inl (by simp [hm])
   ·rcases List.mem_cons.1 hm with rfl | hm
    ·exact .inl (by simp)
    ·exact .inr (by simp [hm])
def Tells (ns : List Node) (K : List Int) (r : List Bool) : Prop := r.length = ns.length ∧ ∀ i : Nat, i < ns.length → (rdOf false r (i : Int) = true ↔ Rch ns K (i : Int))
theorem led_l0 {ns : List Node} (hP : Places ns) (K : List Int) (root : Int) (hM : rows ns ≤ 1000000) : ∀ (m : Nat) (met : List Bool) (vs work : List Int), LedInv ns K met vs work → left ns vs + work.length < m → work.length ≤ 3000000 →
  (work.length + left ns vs ≤ 3000000) → ∃ r, dioramaref09_Led.l0 m met work (ns.map toS) root = some r ∧ Tells ns K r
 | 0, _, _, _, _, h, _, _ => by omega
 | m + 1, met, vs, [], h, _, _, _ => by
  rw [dioramaref09_Led.l0, if_neg (by simp)]
  refine ⟨_, rfl, h.len, fun i hi => ?_⟩
  rw [h.tell i hi, decide_eq_true_iff]
  exact (h.done _).symm
 | m + 1, met, vs, x :: work, h, hl, hw, hs => by
  have hxp := h.wpl x (by simp)
  have hrd : rd (x :: work) 0 = x := rfl
  have hlen : (((x :: work).length : Nat) : Int) = (work.length : Int) + 1 := by simp
  rw [dioramaref09_Led.l0, if_pos (by rw [hlen]; omega), if_pos (by rw [hlen]; omega), if_pos (by rw [hlen]; omega), Option.bind_some, hrd, if_pos hxp.1, if_pos (by rw [h.len]; exact hxp.2)]
  rw [show (x :: work).drop (1 : Int).toNat = work from rfl]
  have hlen' : (x :: work).length = work.length + 1 := rfl
  obtain ⟨q, rfl⟩ : ∃ q : Nat, x = (q : Int) := ⟨x.toNat, by omega⟩
  have ht := h.tell q (by omega)
  by_cases hx : (q : Int) ∈ vs
  ·rw [if_pos (by rw [ht]; exact decide_eq_true hx)]
   exact led_l0 hP K root hM m met vs work (h.skip hx) (by omega) (by omega) (by omega)
  ·rw [if_neg (by rw [ht, decide_eq_false hx]; decide), Option.bind_some, if_pos (by simp; omega), Option.bind_some, if_pos (by rw [List.length_map]; exact hxp.2)]
   have hk := kids_to ns (q : Int)
   have hlc := left_cons (ns := ns) (vs := vs) (x := q) (by omega) hx
   have hwt : wt ns q = (kids ns (q : Int)).length + 1 := rfl
   rw [hk, if_pos (by simp; omega), List.nil_append]
   exact led_l0 hP K root hM m _ _ _ (h.meet hP hx) (by rw [List.length_append]; omega) (by rw [List.length_append]; omega) (by rw [List.length_append]; omega)
theorem wt_le {ns : List Node} {p : Nat} (hp : p < ns.length) : wt ns p ≤ rows ns := by
 have := left_cons (ns := ns) (vs := []) (x := p) hp (by simp)
 rw [left_nil] at this
 omega
theorem led_f {ns : List Node} (hP : Places ns) (root : Int) (hM : rows ns ≤ 1000000) (p : Nat) (hp : p < ns.length) (k : Nat) (hk : 2 * rows ns < k) :
  ∃ r, dioramaref09_Led.f k (ns.map toS) root (p : Int) = some r ∧ Tells ns (kids ns (p : Int)) r := by
 unfold dioramaref09_Led.f
 have hlr := len_rows ns
 have hl : (((ns.map toS).length : Nat) : Int) = (ns.length : Int) := by rw [List.length_map]
 have hwt : wt ns p = (kids ns (p : Int)).length + 1 := rfl
 have hle := wt_le hp
 rw [hl, if_pos (by omega), if_pos (by rw [Int.toNat_natCast]; omega), Option.bind_some, if_pos (by omega), if_pos (by omega), kids_to, if_pos (by simp; omega), List.nil_append, Int.toNat_natCast]
 refine led_l0 hP (kids ns (p : Int)) root hM k _ [] _ ⟨by simp, fun i hi => ?_, by simp, fun x hx => hP p hp x hx, by simp, fun x hx => .base hx, fun k hk => .inr hk, by simp⟩ ?_ (by omega) ?_
 ·unfold rdOf
  rw [Int.toNat_natCast, List.getD_eq_getElem?_getD, List.getElem?_replicate, if_pos hi]
  simp
 ·rw [left_nil]; omega
 ·rw [left_nil]; omega
theorem rch_root {ns : List Node} {r x : Int} : Rch ns [r] x ↔ x = r ∨ Rch ns (kids ns r) x := by
 refine ⟨fun h => ?_, fun h => ?_⟩
 ·induction h with
  | base hk => exact .inl (List.mem_singleton.1 hk)
  | step _ hk ih =>
   rcases ih with rfl | ih
   ·exact .inr (.base hk)
   ·exact .inr (.step ih hk)
 ·rcases h with rfl | h
  ·exact .base (by simp)
  ·exact h.under
theorem chk_l1 (s : Scene) (led : List Bool) (hn : s.nodes.length ≤ 1000000) (hT : Tells s.nodes (kids s.nodes s.root) led) : ∀ (m i K : Nat), s.nodes.length ≤ i + m → i ≤ s.nodes.length → (∀ j : Nat, j < i → Rch s.nodes [s.root] (j : Int)) →
  dioramaref09_Check.l1 (K + 1 + m) led (i : Int) (s.nodes.map toS) s.root = some (if 0 ≤ looseAt s then (15, looseAt s) else (0, 0))
 | 0, i, K, h1, h2, h3 => by
  rw [show K + 1 + 0 = K + 1 by omega, dioramaref09_Check.l1, if_neg (by rw [List.length_map]; omega)]
  have : looseAt s = -1 := firstP_no _ 0 (fun j hj h => h (by rw [Nat.zero_add]; exact h3 j (by omega)))
  rw [this]; rfl
 | m + 1, i, K, h1, h2, h3 => by
  by_cases hi : i < s.nodes.length
  ·rw [show K + 1 + (m + 1) = (K + 1 + m) + 1 by omega, dioramaref09_Check.l1, if_pos (by rw [List.length_map]; omega), wrap64_in ((i : Int) + 1) (by omega), show (i : Int) + 1 = ((i + 1 : Nat) : Int) from rfl]
   have next : Rch s.nodes [s.root] (i : Int) → dioramaref09_Check.l1 (K + 1 + m) led ((i + 1 : Nat) : Int) (s.nodes.map toS) s.root = some (if 0 ≤ looseAt s then (15, looseAt s) else (0, 0)) := fun hr =>
    chk_l1 s led hn hT m (i + 1) K (by omega) (by omega) (ext_lt (P := fun j : Nat => Rch s.nodes [s.root] (j : Int)) h3 hr)
   by_cases hr : (i : Int) = s.root
   ·rw [if_pos hr]
    exact next (rch_root.2 (.inl hr))
   ·rw [if_neg hr, if_pos (Int.natCast_nonneg i), if_pos (by rw [hT.1]; omega)]
    have ht := hT.2 i hi
    by_cases hl : rdOf false led (i : Int) = true
    ·rw [if_pos hl]
     exact next (rch_root.2 (.inr (ht.1 hl)))
    ·rw [if_neg hl]
     have : looseAt s = (i : Int) := by
      have := firstP_at (p := fun i => ¬ Rch s.nodes [s.root] (i : Int)) s.nodes.length 0 i hi (fun j hj h => h (by rw [Nat.zero_add]; exact h3 j hj)) (by rw [Nat.zero_add]; exact fun h => hl (ht.2 ((rch_root.1 h).resolve_left hr)))
      rw [Nat.zero_add] at this
      exact this
     rw [this, if_pos (Int.natCast_nonneg i)]
  ·have := chk_l1 s led hn hT m i (K + 1) (by omega) h2 h3
   rw [show K + 1 + 1 + m = K + 1 + (m + 1) by omega] at this
   exact this
theorem chk_l0 (s : Scene) (hM : rows s.nodes ≤ 1000000) (hP : Places s.nodes) (h0 : 0 ≤ s.root) (h1 : s.root < s.nodes.length) : ∀ (m i K : Nat), s.nodes.length ≤ i + m → i ≤ s.nodes.length → (∀ j : Nat, j < i → ¬ Cyc s.nodes (j : Int)) →
  dioramaref09_Check.l0 (K + 2 * rows s.nodes + s.nodes.length + 3 + m) (i : Int) (s.nodes.map toS) s.root = some (if 0 ≤ cycAt s.nodes then (14, cycAt s.nodes) else if 0 ≤ looseAt s then (15, looseAt s) else (0, 0))
 | 0, i, K, k1, k2, k3 => by
  have hlr := len_rows s.nodes
  rw [show K + 2 * rows s.nodes + s.nodes.length + 3 + 0 = (K + 2 * rows s.nodes + s.nodes.length + 2) + 1 by omega, dioramaref09_Check.l0, if_neg (by rw [List.length_map]; omega)]
  obtain ⟨q, hq⟩ : ∃ q : Nat, s.root = (q : Int) := ⟨s.root.toNat, by omega⟩
  obtain ⟨r, hr, hT⟩ := led_f hP s.root hM q (by omega) (K + 2 * rows s.nodes + s.nodes.length + 2) (by omega)
  rw [← hq] at hr hT
  rw [hr, Option.bind_some]
  have hc : cycAt s.nodes = -1 := firstP_no _ 0 (fun j hj h => k3 j (by omega) (by rwa [Nat.zero_add] at h))
  rw [hc, if_neg (by decide)]
  have := chk_l1 s r (by omega) hT s.nodes.length 0 (K + 2 * rows s.nodes + 1) (by omega) (by omega) (fun j hj => by omega)
  rw [show K + 2 * rows s.nodes + 1 + 1 + s.nodes.length = K + 2 * rows s.nodes + s.nodes.length + 2 by omega] at this
  exact this
 | m + 1, i, K, k1, k2, k3 => by
  by_cases hi : i < s.nodes.length
  ·have hlr := len_rows s.nodes
   rw [show K + 2 * rows s.nodes + s.nodes.length + 3 + (m + 1) = (K + 2 * rows s.nodes + s.nodes.length + 3 + m) + 1 by omega, dioramaref09_Check.l0, if_pos (by rw [List.length_map]; omega)]
   obtain ⟨r, hr, hT⟩ := led_f hP s.root hM i hi (K + 2 * rows s.nodes + s.nodes.length + 3 + m) (by omega)
   rw [hr, Option.bind_some, if_pos (Int.natCast_nonneg i), if_pos (by rw [hT.1]; omega), wrap64_in ((i : Int) + 1) (by omega), show (i : Int) + 1 = ((i + 1 : Nat) : Int) from rfl]
   have ht := hT.2 i hi
   by_cases hl : rdOf false r (i : Int) = true
   ·rw [if_pos hl]
    have : cycAt s.nodes = (i : Int) := by
     have := firstP_at (p := fun i => Cyc s.nodes (i : Int)) s.nodes.length 0 i hi (fun j hj h => k3 j hj (by rwa [Nat.zero_add] at h)) (by rw [Nat.zero_add]; exact ht.1 hl)
     rw [Nat.zero_add] at this
     exact this
    rw [this, if_pos (Int.natCast_nonneg i)]
   ·rw [if_neg hl]
    exact chk_l0 s hM hP h0 h1 m (i + 1) K (by omega) (by omega) (ext_lt (P := fun j : Nat => ¬ Cyc s.nodes (j : Int)) k3 (fun h => hl (ht.2 h)))
  ·have := chk_l0 s hM hP h0 h1 m i (K + 1) (by omega) k2 k3
   rw [show K + 1 + 2 * rows s.nodes + s.nodes.length + 3 + m = K + 2 * rows s.nodes + s.nodes.length + 3 + (m + 1) by omega] at this
   exact this
theorem chk_f (s : Scene) (hM : rows s.nodes ≤ 1000000) : dioramaref09_Check.f (2 * rows s.nodes + 2 * s.nodes.length + 3) (s.nodes.map toS) s.root = some (gcheck s) := by
 unfold dioramaref09_Check.f dioramaref09_Place.f dioramaref09_Refs.f
 rw [Option.bind_some, List.length_map, Option.bind_some, map_of_to]
 by_cases h0 : s.root < 0 ∨ (s.nodes.length : Int) ≤ s.root
 ·have : isPl s.nodes.length s.root = false := by unfold isPl; exact decide_eq_false (by omega)
  rw [this, if_neg (by decide), gcheck_root h0]
 ·have : isPl s.nodes.length s.root = true := by unfold isPl; exact decide_eq_true (by omega)
  rw [this, if_pos rfl]
  by_cases h : 0 ≤ refsAt s.nodes
  ·rw [if_pos h, gcheck_refs h0 h]
  ·rw [if_neg h]
   have hP : Places s.nodes := Places.of_refs ((refsAt_lt _).resolve_right h)
   have := chk_l0 s hM hP (by omega) (by omega) s.nodes.length 0 0 (by omega) (by omega) (fun j hj => by omega)
   rw [show 0 + 2 * rows s.nodes + s.nodes.length + 3 + s.nodes.length = 2 * rows s.nodes + 2 * s.nodes.length + 3 by omega] at this
   refine this.trans ?_
   unfold gcheck
   rw [if_neg h0, if_neg h]
theorem rchk_any (A : Option Addr) (c : Nat) (s : Scene) (w : World) (h : kNode.C w A s.nodes.length s.nodes) (hc : s.nodes.length ≤ c) (hM : rows s.nodes ≤ 1000000) :
  Calls Tryz.prog 44 #[.agg #[.slice A s.nodes.length c, .int .i64 s.root]] w fun e w' => e = .returned (.tuple #[.int .i64 (gcheck s).1, .int .i64 (gcheck s).2]) ∧ Below w.heap.size w w' := by
 have hl : (s.nodes.map toS).length = s.nodes.length := List.length_map ..
 have := dioramaref09_Check.calls (2 * rows s.nodes + 2 * s.nodes.length + 3) A c (s.nodes.map toS) s.root (gcheck s).1 (gcheck s).2 w (by rw [hl]; exact C_to h) (by rw [hl]; exact hc) (chk_f s hM)
 rw [hl] at this
 exact this
end Go.Proofs.YtggldnbhmebcpaaGreatDoor.L
end
section
namespace Go.Proofs.YtggldnbhmebcpaaGreatDoor.L
open Go.RowKit Go.ChangeShapes Go.WideShapes Go.Proofs.YtggldnbhmebcpaaGreatDoorW.PrintWords Go.Proofs.YtggldnbhmebcpaaGreatDoorW.PrintLast Go.Proofs.YtggldnbhmebcpaaGreatDoorW.PrintMore
attribute [local go_sem] max2_int min2_int max_two min_two max_three min_three max_four min_four
open Go.Proofs.YtggldnbhmebcpaaGreatDoor.PDeltaMakes
theorem meet_l0 (ns : List Node) (root a : Int) (met : List Int) (hm : met.length ≤ 1000000) : ∀ (m i K : Nat), met.length ≤ i + m → i ≤ met.length → (∀ j : Nat, j < i → ¬ rd met (j : Int) = a) →
    (a ∈ met → dioramaref10_meet.l0 (K + 1 + m) a met (i : Int) (ns.map toS) root = some met) ∧
    (¬ a ∈ met → ∃ K', K ≤ K' ∧ dioramaref10_meet.l0 (K + 1 + m) a met (i : Int) (ns.map toS) root = dioramaref10_meet.l1 K' a met 0 (ns.map toS) root)
  | 0, i, K, h1, h2, h3 => by
    have hno : ¬ a ∈ met := fun hm => by
      obtain ⟨j, hj⟩ := List.getElem?_of_mem hm
      have hjl := (List.getElem?_eq_some_iff.1 hj).1
      refine h3 j (by omega) ?_
      unfold rd
      rw [Int.toNat_natCast, List.getD_eq_getElem?_getD, hj]; rfl
    refine ⟨fun h => absurd h hno, fun _ => ⟨K, Nat.le_refl _, ?_⟩⟩
    rw [show K + 1 + 0 = K + 1 by omega, dioramaref10_meet.l0, if_neg (by omega)]
  | m + 1, i, K, h1, h2, h3 => by
    by_cases hi : i < met.length
    · rw [show K + 1 + (m + 1) = (K + 1 + m) + 1 by omega, dioramaref10_meet.l0, if_pos (by omega), if_pos (Int.natCast_nonneg i)]
      by_cases he : rd met (i : Int) = a
      · rw [if_pos he]
        have hin : a ∈ met := by rw [← he]; exact rd_mem hi
        exact ⟨fun _ => rfl, fun h => absurd hin h⟩
      · rw [if_neg he, wrap64_in ((i : Int) + 1) (by omega), show (i : Int) + 1 = ((i + 1 : Nat) : Int) from rfl]
        exact meet_l0 ns root a met hm m (i + 1) K (by omega) (by omega) (ext_lt (P := fun j : Nat => ¬ rd met (j : Int) = a) h3 he)
    · obtain ⟨g1, g2⟩ := meet_l0 ns root a met hm m i (K + 1) (by omega) h2 h3
      rw [show K + 1 + 1 + m = K + 1 + (m + 1) by omega] at g1 g2
      exact ⟨g1, fun h => by obtain ⟨K', h1, h2⟩ := g2 h; exact ⟨K', by omega, h2⟩⟩
def meetT (ns : List Node) : Nat := ns.length + rows ns + 4
theorem meet_f {ns : List Node} (hd : Dag ns) (root : Int) (hM : rows ns ≤ 1000000) : ∀ (N : Nat) (a : Int) (met : List Int) (K : Nat), reachN ns a < N → Pl ns a → Shut ns met → N * meetT ns ≤ K →
    dioramaref10_meet.f K (ns.map toS) root a met = some (M ns a met)
  | 0, _, _, _, h, _, _, _ => by omega
  | N + 1, a, met, K, hN, ha, hs, hK => by
    have hT : (N + 1) * meetT ns = N * meetT ns + meetT ns := Nat.succ_mul _ _
    have hlen := hs.len
    have hlr := len_rows ns
    have hTd : meetT ns = ns.length + rows ns + 4 := rfl
    obtain ⟨K1, rfl⟩ : ∃ K1, K = (K1 + (kids ns a).length + 1) + 1 + met.length + 1 := ⟨K - met.length - 3 - (kids ns a).length, by
      have hw : (kids ns a).length + 1 ≤ rows ns := wt_le (ns := ns) (p := a.toNat) (by have := ha.1; have := ha.2; omega)
      omega⟩
    rw [dioramaref10_meet.f]
    obtain ⟨g1, g2⟩ := meet_l0 ns root a met (by omega) met.length 0 (K1 + (kids ns a).length + 1) (by omega) (by omega) (fun j hj => by omega)
    by_cases hin : a ∈ met
    · rw [M_in hd ha hin]
      exact g1 hin
    · obtain ⟨K', hK', e⟩ := g2 hin
      rw [M_out hd ha hin]
      refine Eq.trans e ?_
      have hw : (kids ns a).length + 1 ≤ rows ns := wt_le (ns := ns) (p := a.toNat) (by have := ha.1; have := ha.2; omega)
      have hK1 : N * meetT ns ≤ K1 := by omega
      -- the kids, one behind the other
      have key : ∀ (m j K2 : Nat) (v : List Int), (kids ns a).length = j + m → N * meetT ns ≤ K2 → Shut ns v → (∀ x ∈ v, x ∈ v) → v = ML ns ((kids ns a).take j) met →
          dioramaref10_meet.l1 (K2 + 1 + m) a v (j : Int) (ns.map toS) root = some (ML ns (kids ns a) met ++ [a]) := by
        intro m
        induction m with
        | zero =>
          intro j K2 v hj hK2 hv _ hve
          have hvl := hv.len
          rw [show K2 + 1 + 0 = K2 + 1 by omega, dioramaref10_meet.l1, if_pos ha.1, if_pos (by rw [List.length_map]; exact ha.2), kids_to, if_neg (by omega), Option.bind_some, if_pos (by simp; omega), Option.bind_some, if_pos (by simp; omega), List.nil_append]
          rw [hve, List.take_of_length_le (by omega)]
        | succ m ih =>
          intro j K2 v hj hK2 hv _ hve
          have hjl : j < (kids ns a).length := by omega
          rw [show K2 + 1 + (m + 1) = (K2 + 1 + m) + 1 by omega, dioramaref10_meet.l1, if_pos ha.1, if_pos (by rw [List.length_map]; exact ha.2), kids_to, if_pos (by omega), if_pos (Int.natCast_nonneg j)]
          have hk : rd (kids ns a) (j : Int) ∈ kids ns a := rd_mem hjl
          have hkp := hd.kid ha hk
          have hlow := hd.lower ha hk
          rw [meet_f hd root hM N (rd (kids ns a) (j : Int)) v (K2 + 1 + m) (by omega) hkp hv (by omega), Option.bind_some, wrap64_in ((j : Int) + 1) (by have := hs.len; omega), show (j : Int) + 1 = ((j + 1 : Nat) : Int) from rfl]
          have hmet := M_met hd _ (rd (kids ns a) (j : Int)) v (Nat.lt_succ_self _) hkp hv (shut_next hv _)
          refine ih (j + 1) K2 _ (by omega) hK2 hmet.shut (fun _ h => h) ?_
          rw [take_succ_rd hjl, hve]
          unfold ML
          rw [List.foldl_append]
          rfl
      obtain ⟨K2, rfl⟩ : ∃ K2, K' = K2 + 1 + (kids ns a).length := ⟨K' - 1 - (kids ns a).length, by omega⟩
      exact key (kids ns a).length 0 K2 met (by omega) (by omega) hs (fun _ h => h) (by rw [List.take_zero]; rfl)
theorem order_f {s : Scene} (hd : Dag s.nodes) (hr : Pl s.nodes s.root) (hM : rows s.nodes ≤ 1000000) : dioramaref10_Order.f ((s.nodes.length + 1) * meetT s.nodes) (s.nodes.map toS) s.root = some (ord s) := by
  unfold dioramaref10_Order.f
  rw [meet_f hd s.root hM (s.nodes.length + 1) s.root [] _ (Nat.lt_succ_of_le (reachN_le _ _)) hr (Shut.nil _) (Nat.le_refl _)]
  rfl
theorem refCan_eq {s : Scene} (hd : Dag s.nodes) (hr : Pl s.nodes s.root) : refCanL s.nodes (ord s) = canonL s := by
  have hm := ord_met' hd hr
  unfold refCanL canonL
  refine List.map_congr_left (fun a ha => ?_)
  unfold refN relab
  congr 1
  refine List.map_congr_left (fun k hk => ?_)
  have := hm.shut.kids a ha k hk
  unfold findI idx
  rw [if_pos this]
end Go.Proofs.YtggldnbhmebcpaaGreatDoor.L
end
section
namespace Go.Proofs.YtggldnbhmebcpaaGreatDoor.L
open Go.RowKit Go.ChangeShapes Go.WideShapes Go.Proofs.YtggldnbhmebcpaaGreatDoorW.PrintWords Go.Proofs.YtggldnbhmebcpaaGreatDoorW.PrintLast Go.Proofs.YtggldnbhmebcpaaGreatDoorW.PrintMore
attribute [local go_sem] max2_int min2_int max_two min_two max_three min_three max_four min_four
theorem one_right (n : Node) (hk : n.kids = []) : Right ⟨[n], 0⟩ := by
  have hk0 : ∀ p : Nat, p < 1 → kids [n] (p : Int) = [] := fun p hp => by
    obtain rfl : p = 0 := by omega
    exact hk
  refine ⟨by show (0 : Int) ≤ 0; omega, by show (0 : Int) < ([n].length : Int); simp, fun p hp k hk' => ?_, fun p hp hc => ?_, fun p hp => ?_⟩
  · have h1 : p < 1 := by simpa using hp
    have h2 : k ∈ kids [n] (p : Int) := by rw [kids_nat]; exact hk'
    rw [hk0 p h1] at h2
    simp at h2
  · have h1 : p < 1 := by simpa using hp
    have hc' : Rch [n] (kids [n] (p : Int)) (p : Int) := hc
    rw [hk0 p h1] at hc'
    have : ∀ x, ¬ Rch [n] [] x := fun x hr => by
      induction hr with
      | base hb => simp at hb
      | step _ _ ih => exact ih
    exact this _ hc'
  · obtain rfl : p = 0 := by simpa using hp
    exact .base (by simp)
theorem one_isC (n : Node) (hk : n.kids = []) : isC ⟨[n], 0⟩ = true := by
  refine (isC_iff (one_right n hk)).2 ?_
  have ho : ord ⟨[n], 0⟩ = [0] := by
    have hl := ord_len (one_right n hk)
    have hp := ord_pl (one_right n hk)
    match h : ord ⟨[n], 0⟩, hl with
    | [x], _ =>
      have := hp x (by rw [h]; simp)
      have h1 := this.1
      have h2 := this.2
      have h3 : (([n] : List Node).length : Int) = 1 := rfl
      have : x = 0 := by
        have h4 : x < (([n] : List Node).length : Int) := h2
        omega
      rw [this]
  have hc : canonL ⟨[n], 0⟩ = [n] := by
    unfold canonL
    rw [ho]
    show [relab _ (nd [n] 0)] = [n]
    unfold relab
    have e : (nd [n] 0) = n := rfl
    rw [e, hk]
    cases n
    simp only at hk
    subst hk
    rfl
  rw [hc]
  rfl
def bA : Node := ⟨4, [1], [⟨#[97]⟩], []⟩
def bB : Node := ⟨4, [2], [⟨#[97]⟩], []⟩
def sA : Scene := ⟨[bA], 0⟩
def sB : Scene := ⟨[bB], 0⟩
end Go.Proofs.YtggldnbhmebcpaaGreatDoor.L
end
section
namespace Go.Proofs.YtggldnbhmebcpaaGreatDoor.L
open Go.RowKit Go.ChangeShapes Go.WideShapes Go.Proofs.YtggldnbhmebcpaaGreatDoorW.PrintWords Go.Proofs.YtggldnbhmebcpaaGreatDoorW.PrintLast Go.Proofs.YtggldnbhmebcpaaGreatDoorW.PrintMore
attribute [local go_sem] max2_int min2_int max_two min_two max_three min_three max_four min_four
def sNine : Scene := ⟨[⟨9, [], [], []⟩], 0⟩
def opE : Opn := ⟨2, 0, [⟨false, 0, 2, ByteArray.empty⟩], [], nodez⟩
theorem dErr_ab : dErr sA sB = 0 := by
  unfold dErr
  rw [if_neg (fun h => h (by kernel_rfl)), if_neg (fun h => h (by kernel_rfl)), show isC sA = true from one_isC bA rfl, show isC sB = true from one_isC bB rfl]; rfl
theorem dErr_nine : dErr sA sNine = 9 := by
  have h : (typedS newTab sNine.nodes).1 = 9 := by kernel_rfl
  unfold dErr
  rw [if_neg (fun hh => hh (by kernel_rfl)), h]; rfl
theorem mat_ab : matS sA.nodes sB.nodes = [0] := by
  unfold matS
  rw [matP_congr (Q' := fun i k => alike (nd sA.nodes k) (nd sB.nodes i)) (fun _ _ _ _ => rfl) (fun i k _ _ => QK_alike _ _ i k)]
  decide
theorem op_ab {o : Opn} (h : OpM sA.nodes sB.nodes (matS sA.nodes sB.nodes) 0 o) : o = opE := by
  rw [mat_ab] at h
  have hd : diffL bA bB = [⟨false, 0, 2, ByteArray.empty⟩] := by
    unfold diffL
    rw [if_pos (show alike bA bB = true from by decide)]
    kernel_rfl
  rcases h with ⟨h1, -⟩ | ⟨b, hb, he, hO⟩
  · exact absurd h1 (by decide)
  · have e0 : b = 0 := by have : b < 1 := hb; omega
    subst e0
    have hO : OpOf bA bB [] 0 o := hO
    rcases hO with ⟨-, h2, -⟩ | ⟨-, l, hM, rfl⟩
    · rw [hd] at h2; cases h2
    · have hl : l = [] := by
        have := hM.nil_left rfl
        rw [this]; rfl
      rw [hd, hl]; rfl
theorem fit_one {n : Node} (h : FitN n) : Fit (⟨[n], 0⟩ : Scene).nodes := ⟨by show 1 ≤ 61; omega, fun i hi => by
  have : i < 1 := hi
  obtain rfl : i = 0 := by omega
  exact h⟩
theorem fitN_ball {x : Int} (hx : I64 x) : FitN ⟨4, [x], [⟨#[97]⟩], []⟩ :=
  ⟨by simp, by simp, by simp, fun y hy => by
    have hy : y ∈ [(⟨#[97]⟩ : ByteArray)] := hy
    rw [List.mem_singleton.1 hy]; decide, ⟨⟨by simp, by simp⟩, fun y hy => by
    have hy : y ∈ [x] := hy
    rw [List.mem_singleton.1 hy]; exact hx⟩⟩
theorem fitN_nine : FitN ⟨9, [], [], []⟩ := ⟨by simp, by simp, by simp, fun y hy => (by cases hy), ⟨⟨by simp, by simp⟩, fun y hy => (by cases hy)⟩⟩
abbrev bO1 (x : Int) : Obj := .cells #[.int .i64 x] 2
abbrev bO2 : Obj := .cells #[.string ⟨#[97]⟩] 9
abbrev bO3 (g : Nat) : Obj := .cells #[.int .i64 4, .slice (some ⟨g, 0, none⟩) 1 1, .slice (some ⟨g + 1, 0, none⟩) 1 1, .slice none 0 0] 42
abbrev bO4 (g : Nat) : Obj := .cells #[.slice (some ⟨g + 1 + 1, 0, none⟩) 1 1, .int .i64 0] 24
theorem ball_C (w : World) (x : Int) (g : Nat) (hg : w.heap.size = g) : kNode.C (((w.alloc (bO1 x)).alloc bO2).alloc (bO3 g)) (some ⟨g + 1 + 1, 0, none⟩) 1 [⟨4, [x], [⟨#[97]⟩], []⟩] := by
  subst hg
  refine C_lits kNode _ 42 _ (by simp) [⟨4, [x], [⟨#[97]⟩], []⟩] [.int .i64 4, .slice (some ⟨w.heap.size, 0, none⟩) 1 1, .slice (some ⟨w.heap.size + 1, 0, none⟩) 1 1, .slice none 0 0] ?_ (by simp) rfl
  refine ⟨_, _, (show _ = [_, _, _, _] ++ [] from rfl), ?_, rfl⟩
  exact kNode_mk (x := ⟨4, [x], [⟨#[97]⟩], []⟩) ⟨by simp, by simp, by simp, Kd.C_alloc (C_ints w _ _ rfl [x] (by simp) rfl) _, C_strs _ _ _ (by simp) [⟨#[97]⟩] (by simp) rfl, C_nil _ _⟩
attribute [local go_sem high] eqA_set_same
set_option maxRecDepth 100000 in
set_option maxHeartbeats 4000000 in
theorem dawake_any (T : Lib.PrintTabs) (w : World) (hT : QTabs T w) : Calls Tryz.prog 9 #[] w fun e w' => e = .returned (.bool true) ∧ Below w.heap.size w w' := by
  have HT := Aside0.mk hT
  have hua := Tryz.underlying24
  have hun := Tryz.underlying42
  have huo := Tryz.underlying44
  have hus := Tryz.underlying56
  clear hT
  go_enter Tryz.func9, Tryz.ntmps9
  go_wp2_with fail
  have CA := Aside0.mk (show kNode.C ((((((((w.alloc (bO1 1)).alloc bO2).alloc (bO3 w.heap.size)).alloc (bO4 w.heap.size)).alloc (bO1 2)).alloc bO2).alloc (bO3 (w.heap.size + 1 + 1 + 1 + 1))).alloc (bO4 (w.heap.size + 1 + 1 + 1 + 1))) (some ⟨w.heap.size + 1 + 1, 0, none⟩) 1 sA.nodes from Kd.C_alloc (Kd.C_alloc (Kd.C_alloc (Kd.C_alloc (Kd.C_alloc (ball_C w 1 _ rfl) _) _) _) _) _)
  have CB := Aside0.mk (show kNode.C ((((((((w.alloc (bO1 1)).alloc bO2).alloc (bO3 w.heap.size)).alloc (bO4 w.heap.size)).alloc (bO1 2)).alloc bO2).alloc (bO3 (w.heap.size + 1 + 1 + 1 + 1))).alloc (bO4 (w.heap.size + 1 + 1 + 1 + 1))) (some ⟨w.heap.size + 1 + 1 + 1 + 1 + 1 + 1, 0, none⟩) 1 sB.nodes from Kd.C_alloc (ball_C ((((w.alloc (bO1 1)).alloc bO2).alloc (bO3 w.heap.size)).alloc (bO4 w.heap.size)) 2 _ (by simp)) _)
  have HB4 := below_alloc (below_alloc (below_alloc (below_alloc (Below.refl w.heap.size w) (bO1 1)) bO2) (bO3 w.heap.size)) (bO4 w.heap.size)
  have HB8 := Aside0.mk (show Below w.heap.size w ((((((((w.alloc (bO1 1)).alloc bO2).alloc (bO3 w.heap.size)).alloc (bO4 w.heap.size)).alloc (bO1 2)).alloc bO2).alloc (bO3 (w.heap.size + 1 + 1 + 1 + 1))).alloc (bO4 (w.heap.size + 1 + 1 + 1 + 1))) from below_alloc (below_alloc (below_alloc (below_alloc HB4 _) _) _) _)
  have hbx : Below ((((w.alloc (bO1 1)).alloc bO2).alloc (bO3 w.heap.size)).alloc (bO4 w.heap.size)).heap.size ((((w.alloc (bO1 1)).alloc bO2).alloc (bO3 w.heap.size)).alloc (bO4 w.heap.size)) ((((((((w.alloc (bO1 1)).alloc bO2).alloc (bO3 w.heap.size)).alloc (bO4 w.heap.size)).alloc (bO1 2)).alloc bO2).alloc (bO3 (w.heap.size + 1 + 1 + 1 + 1))).alloc (bO4 (w.heap.size + 1 + 1 + 1 + 1))) := below_alloc (below_alloc (below_alloc (below_alloc (Below.refl _ _) _) _) _) _
  have k0 := pw_cell_below hbx (box_cell (((w.alloc (bO1 1)).alloc bO2).alloc (bO3 w.heap.size)) (w.heap.size + 1 + 1 + 1) (by simp) #[.slice (some ⟨w.heap.size + 1 + 1, 0, none⟩) 1 1, .int .i64 0] 24 0 _ rfl)
  have k1 := pw_cell_below hbx (box_cell (((w.alloc (bO1 1)).alloc bO2).alloc (bO3 w.heap.size)) (w.heap.size + 1 + 1 + 1) (by simp) #[.slice (some ⟨w.heap.size + 1 + 1, 0, none⟩) 1 1, .int .i64 0] 24 1 _ rfl)
  clear HB4 hbx
  generalize ((((((((w.alloc (bO1 1)).alloc bO2).alloc (bO3 w.heap.size)).alloc (bO4 w.heap.size)).alloc (bO1 2)).alloc bO2).alloc (bO3 (w.heap.size + 1 + 1 + 1 + 1))).alloc (bO4 (w.heap.size + 1 + 1 + 1 + 1))) = w8 at CA CB HB8 k0 k1 ⊢
  refine (dmake_any T (some ⟨w.heap.size + 1 + 1, 0, none⟩) 1 sA (some ⟨w.heap.size + 1 + 1 + 1 + 1 + 1 + 1, 0, none⟩) 1 sB w8 CA.out (by decide) CB.out (by decide) (fit_one (fitN_ball ⟨by decide, by decide⟩)) (fit_one (fitN_ball ⟨by decide, by decide⟩)) (HT.out.below HB8.out)).mono ?_
  rintro e w9 (⟨hb, -⟩ | ⟨-, l, Al, cl, rfl, hll, hRl, hOl, hB9⟩)
  · exact absurd dErr_ab hb
  have hll1 : l.length = 1 := hll
  have hop : op l 0 = opE := op_ab (hOl 0 (by decide))
  have hle : l = [opE] := by
    match l, hll1, hop with
    | [q], _, hop => rw [show q = opE from hop]
  subst hle
  have HL9 := Aside0.mk (Kd.R_reads' hRl).2.2
  have CA9 := Aside0.mk (Kd.C_below CA.out hB9)
  have HB9 := Aside0.mk (below_step HB8.out hB9)
  replace k0 := pw_cell_below hB9 k0
  replace k1 := pw_cell_below hB9 k1
  clear hll hll1 hop hRl hOl hB9 CA CB HB8
  go_wp2_with fail
  have hA9 := below_alloc (Below.refl w9.heap.size w9) (.cells #[.int .i64 9, .slice none 0 0, .slice none 0 0, .slice none 0 0] 42)
  refine (dmake_any T (some ⟨w.heap.size + 1 + 1, 0, none⟩) 1 sA (some ⟨w9.heap.size, 0, none⟩) 1 sNine _ (Kd.C_below CA9.out hA9) (by decide) (C_lits kNode w9 42 _ rfl [⟨9, [], [], []⟩] _ ⟨_, _, (show _ = [_, _, _, _] ++ [] from rfl), kNode_mk (x := ⟨9, [], [], []⟩) ⟨by simp, by simp, by simp, C_nil _ _, C_nil _ _, C_nil _ _⟩, rfl⟩ (by simp) rfl) (by decide) (fit_one (fitN_ball ⟨by decide, by decide⟩)) (fit_one fitN_nine) (HT.out.below (below_step HB9.out hA9))).mono ?_
  rintro e w10 (⟨-, rfl, hB10⟩ | ⟨hb, -⟩)
  rotate_left
  · rw [dErr_nine] at hb; exact absurd hb (by decide)
  rw [dErr_nine]
  have HL10 := Aside0.mk (Kd.C_below HL9.out (below_step hA9 hB10))
  have HB10 := Aside0.mk (below_step (below_step HB9.out hA9) hB10)
  clear hB10 hA9 k0 k1 HL9 CA9 HB9
  obtain ⟨ad, B1, d1, B2, d2, A1, c1, A2, c2, A3, c3, ead, p0, p1, p2, p3, -, -, -, -, hO⟩ := at_op HL10.out 0 (by decide)
  subst ead
  obtain ⟨sd, esd, s0, s1, s2, s3⟩ := at_set hO.s 0 (by decide)
  subst esd
  rw [Nat.zero_mul, add_zero ad] at p0 p2 p3
  rw [Nat.zero_mul, add_zero sd] at s0 s1 s2 s3
  replace p0 : w10.cell? ad = some (.int .i64 2) := p0
  replace p2 : w10.cell? ⟨ad.block, ad.off + 2, none⟩ = some (.slice (some sd) 1 d1) := p2
  replace p3 : w10.cell? ⟨ad.block, ad.off + 3, none⟩ = some (.slice B2 0 d2) := p3
  replace s0 : w10.cell? sd = some (.bool false) := s0
  replace s1 : w10.cell? ⟨sd.block, sd.off + 1, none⟩ = some (.int .i64 0) := s1
  replace s2 : w10.cell? ⟨sd.block, sd.off + 2, none⟩ = some (.int .i64 2) := s2
  replace s3 : w10.cell? ⟨sd.block, sd.off + 3, none⟩ = some (.string ByteArray.empty) := s3
  clear p1 hO HL10 HT
  rw [show sB.nodes.length = 1 from rfl]
  go_wp2
  go_ret
  exact ⟨rfl, HB10.out⟩
end Go.Proofs.YtggldnbhmebcpaaGreatDoor.L
end
section
namespace Go.Proofs.YtggldnbhmebcpaaGreatDoor.L
open Go.RowKit Go.ChangeShapes Go.WideShapes Go.Proofs.YtggldnbhmebcpaaGreatDoorW.PrintWords Go.Proofs.YtggldnbhmebcpaaGreatDoorW.PrintLast Go.Proofs.YtggldnbhmebcpaaGreatDoorW.PrintMore
attribute [local go_sem] max2_int min2_int max_two min_two max_three min_three max_four min_four
def great22 (a b : Scene) : Bool := greatS a || (greatS b || (decide (40 < a.nodes.length) || decide (40 < b.nodes.length)))
theorem great22_no {a b : Scene} (h : great22 a b = false) : greatS a = false ∧ greatS b = false ∧ a.nodes.length ≤ 40 ∧ b.nodes.length ≤ 40 := by
  unfold great22 at h
  simp only [Bool.or_eq_false_iff, decide_eq_false_iff_not] at h
  exact ⟨h.1, h.2.1, by omega, by omega⟩
set_option maxRecDepth 100000 in
set_option maxHeartbeats 4000000 in
theorem great22_any (A : Option Addr) (c : Nat) (a : Scene) (B : Option Addr) (d : Nat) (b : Scene) (w : World) (h : kNode.C w A a.nodes.length a.nodes) (h' : kNode.C w B b.nodes.length b.nodes) :
    Calls Tryz.prog 10 #[.agg #[.slice A a.nodes.length c, .int .i64 a.root], .agg #[.slice B b.nodes.length d, .int .i64 b.root]] w fun e w' => e = .returned (.bool (great22 a b)) ∧ Below w.heap.size w w' := by
  have HR := Aside0.mk h
  have HR' := Aside0.mk h'
  have hA0 := below_alloc (Below.refl w.heap.size w) (.cells #[.slice A a.nodes.length c, .int .i64 a.root] 24)
  have hA1 := below_alloc (Below.refl (w.alloc (.cells #[.slice A a.nodes.length c, .int .i64 a.root] 24)).heap.size (w.alloc (.cells #[.slice A a.nodes.length c, .int .i64 a.root] 24))) (.cells #[.slice B b.nodes.length d, .int .i64 b.root] 24)
  have HB := Aside0.mk (below_step hA0 hA1)
  have k0 := pw_cell_below hA1 (box_cell w _ rfl #[.slice A a.nodes.length c, .int .i64 a.root] 24 0 (.slice A a.nodes.length c) rfl)
  have k1 := pw_cell_below hA1 (box_cell w _ rfl #[.slice A a.nodes.length c, .int .i64 a.root] 24 1 (.int .i64 a.root) rfl)
  have q0 := box_cell (w.alloc (.cells #[.slice A a.nodes.length c, .int .i64 a.root] 24)) (w.heap.size + 1) (by simp) #[.slice B b.nodes.length d, .int .i64 b.root] 24 0 (.slice B b.nodes.length d) rfl
  have q1 := box_cell (w.alloc (.cells #[.slice A a.nodes.length c, .int .i64 a.root] 24)) (w.heap.size + 1) (by simp) #[.slice B b.nodes.length d, .int .i64 b.root] 24 1 (.int .i64 b.root) rfl
  have hu := Tryz.underlying24
  have HE := Aside0.mk (show great22 a b = (greatS a || (greatS b || (decide (40 < a.nodes.length) || decide (40 < b.nodes.length)))) from rfl)
  clear h h' hA0 hA1
  go_enter Tryz.func10, Tryz.ntmps10
  go_wp2_with fail
  generalize (w.alloc (.cells #[.slice A a.nodes.length c, .int .i64 a.root] 24)).alloc (.cells #[.slice B b.nodes.length d, .int .i64 b.root] 24) = w4 at HB k0 k1 q0 q1 ⊢
  refine (greatS_any A c a w4 (Kd.C_below HR.out HB.out)).mono ?_
  rintro e w5 ⟨rfl, hB5⟩
  replace k0 := pw_cell_below hB5 k0
  replace q0 := pw_cell_below hB5 q0
  replace q1 := pw_cell_below hB5 q1
  have HB5 := Aside0.mk (below_step HB.out hB5)
  clear hB5 HB
  cases hga : greatS a with
  | true =>
    rw [hga] at HE
    clear hga
    go_wp2
    go_ret
    exact ⟨by rw [HE.out]; rfl, HB5.out⟩
  | false =>
    rw [hga] at HE
    clear hga
    go_wp2_with fail
    refine (greatS_any B d b w5 (Kd.C_below HR'.out HB5.out)).mono ?_
    rintro e w6 ⟨rfl, hB6⟩
    replace k0 := pw_cell_below hB6 k0
    replace q0 := pw_cell_below hB6 q0
    have HB6 := Aside0.mk (below_step HB5.out hB6)
    clear hB6 HB5
    cases hgb : greatS b with
    | true =>
      rw [hgb] at HE
      clear hgb
      go_wp2
      go_ret
      exact ⟨by rw [HE.out]; rfl, HB6.out⟩
    | false =>
      rw [hgb] at HE
      clear hgb
      by_cases h1 : 40 < a.nodes.length
      · have d1 : decide (40 < (a.nodes.length : Int)) = true := decide_eq_true (by omega)
        rw [decide_eq_true h1] at HE
        go_wp2
        go_ret
        exact ⟨by rw [HE.out]; rfl, HB6.out⟩
      · have d1 : decide (40 < (a.nodes.length : Int)) = false := decide_eq_false (by omega)
        rw [decide_eq_false h1] at HE
        by_cases h2 : 40 < b.nodes.length
        · have d2 : decide (40 < (b.nodes.length : Int)) = true := decide_eq_true (by omega)
          rw [decide_eq_true h2] at HE
          go_wp2
          go_ret
          exact ⟨by rw [HE.out]; rfl, HB6.out⟩
        · have d2 : decide (40 < (b.nodes.length : Int)) = false := decide_eq_false (by omega)
          rw [decide_eq_false h2] at HE
          go_wp2
          go_ret
          exact ⟨by rw [HE.out]; rfl, HB6.out⟩
end Go.Proofs.YtggldnbhmebcpaaGreatDoor.L
end
section
-- PRINTED BY print.sh 35421559b90ae4d0a3588c463048766b98c2df88dd9212a6774a882060cdf62d: not written by this session
namespace Go.Proofs.YtggldnbhmebcpaaGreatDoor.PDeltaMakes
open Go.RowKit Go.Proofs.YtggldnbhmebcpaaGreatDoorW.PrintWords Go.Proofs.YtggldnbhmebcpaaGreatDoorW.PrintLast Go.Proofs.YtggldnbhmebcpaaGreatDoorW.PrintMore
attribute [local go_sem] max2_int min2_int max_two min_two max_three min_three max_four min_four   -- for this text's walks alone
set_option linter.unusedVariables false
set_option linter.unusedSimpArgs false
def dioramaref07_In.f (a0 : Int) (a1 : Int) : Option (Bool) := if a0 = 1 then (some true) else (if a0 = 2 then (if a1 ≥ 0 then (if a1 ≤ 140737488355328 then (some true) else (if a1 < 0 then (some (decide (a1 ≥ (-140737488355328)))) else (some false))) else (if a1 < 0 then (some (decide (a1 ≥ (-140737488355328)))) else (some false))) else (if a0 = 3 then (if a1 ≥ 0 then (some (decide (a1 ≤ 140737488355328))) else (some false)) else (if a0 = 4 then (if a1 ≥ 0 then (some (decide (a1 < 256))) else (some false)) else (if a0 = 5 then (if (wrap64 (a1 * a1)) = a1 then (if a1 ≥ 0 then (some (decide (a1 ≤ 1))) else (some false)) else (some false)) else (some false)))))
set_option maxHeartbeats 8000000 in
set_option maxRecDepth 100000 in
theorem dioramaref07_In.calls (a0 : Int) (a1 : Int) (r : Bool) (w : World) (h : dioramaref07_In.f a0 a1 = some r) :
  Calls Tryz.prog 62 #[.int .i64 a0, .int .i64 a1] w fun e w' => e = .returned (.bool r) ∧ Drawn0 w w' := by
 have H : (if a0 = 1 then (some true) else (if a0 = 2 then (if a1 ≥ 0 then (if a1 ≤ 140737488355328 then (some true) else (if a1 < 0 then (some (decide (a1 ≥ (-140737488355328)))) else (some false))) else (if a1 < 0 then (some (decide (a1 ≥ (-140737488355328)))) else (some false))) else (if a0 = 3 then (if a1 ≥ 0 then (some (decide (a1 ≤ 140737488355328))) else (some false)) else (if a0 = 4 then (if a1 ≥ 0 then (some (decide (a1 < 256))) else (some false)) else (if a0 = 5 then (if (wrap64 (a1 * a1)) = a1 then (if a1 ≥ 0 then (some (decide (a1 ≤ 1))) else (some false)) else (some false)) else (some false)))))) = some r := h
 clear h
 by_cases c3 : a0 = 1
 ·rw [if_pos c3] at H
  have c3b0 : (a0 == 1) = true := beq_iff_eq.mpr c3
  have c3b1 : (a0 != 1) = false := bne_eq_false_iff_eq.mpr c3
  clear c3
  obtain rfl := Option.some.inj H
  go_enter Tryz.func62, Tryz.ntmps62
  go_wp2
  go_ret
  exact ⟨by first | rfl | (simp; done) | (simp [*]; done), by repeat (first | exact Drawn0.refl _ | apply Drawn0.step)⟩
 ·rw [if_neg c3] at H
  have c3b0 : (a0 == 1) = false := beq_eq_false_iff_ne.mpr c3
  have c3b1 : (a0 != 1) = true := bne_iff_ne.mpr c3
  by_cases c4 : a0 = 2
  ·rw [if_pos c4] at H
   have c4b0 : (a0 == 2) = true := beq_iff_eq.mpr c4
   have c4b1 : (a0 != 2) = false := bne_eq_false_iff_eq.mpr c4
   clear c4
   by_cases c5 : a1 ≥ 0
   ·rw [if_pos c5] at H
    have c5b0 : decide (0 ≤ a1) = true := decide_eq_true c5
    clear c5
    by_cases c6 : a1 ≤ 140737488355328
    ·rw [if_pos c6] at H
     have c6b0 : decide (a1 ≤ 140737488355328) = true := decide_eq_true c6
     clear c6
     obtain rfl := Option.some.inj H
     go_enter Tryz.func62, Tryz.ntmps62
     go_wp2
     go_ret
     exact ⟨by first | rfl | (simp; done) | (simp [*]; done), by repeat (first | exact Drawn0.refl _ | apply Drawn0.step)⟩
    ·rw [if_neg c6] at H
     have c6b0 : decide (a1 ≤ 140737488355328) = false := decide_eq_false c6
     clear c6
     by_cases c7 : a1 < 0
     ·rw [if_pos c7] at H
      have c7b0 : decide (a1 < 0) = true := decide_eq_true c7
      clear c7
      obtain rfl := Option.some.inj H
      go_enter Tryz.func62, Tryz.ntmps62
      go_wp2
      go_ret
      exact ⟨by first | rfl | (simp; done) | (simp [*]; done), by repeat (first | exact Drawn0.refl _ | apply Drawn0.step)⟩
     ·rw [if_neg c7] at H
      have c7b0 : decide (a1 < 0) = false := decide_eq_false c7
      clear c7
      obtain rfl := Option.some.inj H
      go_enter Tryz.func62, Tryz.ntmps62
      go_wp2
      go_ret
      exact ⟨by first | rfl | (simp; done) | (simp [*]; done), by repeat (first | exact Drawn0.refl _ | apply Drawn0.step)⟩
   ·rw [if_neg c5] at H
    have c5b0 : decide (0 ≤ a1) = false := decide_eq_false c5
    clear c5
    by_cases c8 : a1 < 0
    ·rw [if_pos c8] at H
     have c8b0 : decide (a1 < 0) = true := decide_eq_true c8
     clear c8
     obtain rfl := Option.some.inj H
     go_enter Tryz.func62, Tryz.ntmps62
     go_wp2
     go_ret
     exact ⟨by first | rfl | (simp; done) | (simp [*]; done), by repeat (first | exact Drawn0.refl _ | apply Drawn0.step)⟩
    ·rw [if_neg c8] at H
     have c8b0 : decide (a1 < 0) = false := decide_eq_false c8
     clear c8
     obtain rfl := Option.some.inj H
     go_enter Tryz.func62, Tryz.ntmps62
     go_wp2
     go_ret
     exact ⟨by first | rfl | (simp; done) | (simp [*]; done), by repeat (first | exact Drawn0.refl _ | apply Drawn0.step)⟩
  ·rw [if_neg c4] at H
   have c4b0 : (a0 == 2) = false := beq_eq_false_iff_ne.mpr c4
   have c4b1 : (a0 != 2) = true := bne_iff_ne.mpr c4
   by_cases c9 : a0 = 3
   ·rw [if_pos c9] at H
    have c9b0 : (a0 == 3) = true := beq_iff_eq.mpr c9
    have c9b1 : (a0 != 3) = false := bne_eq_false_iff_eq.mpr c9
    clear c9
    by_cases c10 : a1 ≥ 0
    ·rw [if_pos c10] at H
     have c10b0 : decide (0 ≤ a1) = true := decide_eq_true c10
     clear c10
     obtain rfl := Option.some.inj H
     go_enter Tryz.func62, Tryz.ntmps62
     go_wp2
     go_ret
     exact ⟨by first | rfl | (simp; done) | (simp [*]; done), by repeat (first | exact Drawn0.refl _ | apply Drawn0.step)⟩
    ·rw [if_neg c10] at H
     have c10b0 : decide (0 ≤ a1) = false := decide_eq_false c10
     clear c10
     obtain rfl := Option.some.inj H
     go_enter Tryz.func62, Tryz.ntmps62
     go_wp2
     go_ret
     exact ⟨by first | rfl | (simp; done) | (simp [*]; done), by repeat (first | exact Drawn0.refl _ | apply Drawn0.step)⟩
   ·rw [if_neg c9] at H
    have c9b0 : (a0 == 3) = false := beq_eq_false_iff_ne.mpr c9
    have c9b1 : (a0 != 3) = true := bne_iff_ne.mpr c9
    by_cases c11 : a0 = 4
    ·rw [if_pos c11] at H
     have c11b0 : (a0 == 4) = true := beq_iff_eq.mpr c11
     have c11b1 : (a0 != 4) = false := bne_eq_false_iff_eq.mpr c11
     clear c11
     by_cases c12 : a1 ≥ 0
     ·rw [if_pos c12] at H
      have c12b0 : decide (0 ≤ a1) = true := decide_eq_true c12
      clear c12
      obtain rfl := Option.some.inj H
      go_enter Tryz.func62, Tryz.ntmps62
      go_wp2
      go_ret
      exact ⟨by first | rfl | (simp; done) | (simp [*]; done), by repeat (first | exact Drawn0.refl _ | apply Drawn0.step)⟩
     ·rw [if_neg c12] at H
      have c12b0 : decide (0 ≤ a1) = false := decide_eq_false c12
      clear c12
      obtain rfl := Option.some.inj H
      go_enter Tryz.func62, Tryz.ntmps62
      go_wp2
      go_ret
      exact ⟨by first | rfl | (simp; done) | (simp [*]; done), by repeat (first | exact Drawn0.refl _ | apply Drawn0.step)⟩
    ·rw [if_neg c11] at H
     have c11b0 : (a0 == 4) = false := beq_eq_false_iff_ne.mpr c11
     have c11b1 : (a0 != 4) = true := bne_iff_ne.mpr c11
     by_cases c13 : a0 = 5
     ·rw [if_pos c13] at H
      have c13b0 : (a0 == 5) = true := beq_iff_eq.mpr c13
      have c13b1 : (a0 != 5) = false := bne_eq_false_iff_eq.mpr c13
      clear c13
      by_cases c14 : (wrap64 (a1 * a1)) = a1
      ·rw [if_pos c14] at H
       have c14b0 : ((wrap64 (a1 * a1)) == a1) = true := beq_iff_eq.mpr c14
       have c14b1 : ((wrap64 (a1 * a1)) != a1) = false := bne_eq_false_iff_eq.mpr c14
       clear c14
       by_cases c15 : a1 ≥ 0
       ·rw [if_pos c15] at H
        have c15b0 : decide (0 ≤ a1) = true := decide_eq_true c15
        clear c15
        obtain rfl := Option.some.inj H
        go_enter Tryz.func62, Tryz.ntmps62
        go_wp2
        go_ret
        exact ⟨by first | rfl | (simp; done) | (simp [*]; done), by repeat (first | exact Drawn0.refl _ | apply Drawn0.step)⟩
       ·rw [if_neg c15] at H
        have c15b0 : decide (0 ≤ a1) = false := decide_eq_false c15
        clear c15
        obtain rfl := Option.some.inj H
        go_enter Tryz.func62, Tryz.ntmps62
        go_wp2
        go_ret
        exact ⟨by first | rfl | (simp; done) | (simp [*]; done), by repeat (first | exact Drawn0.refl _ | apply Drawn0.step)⟩
      ·rw [if_neg c14] at H
       have c14b0 : ((wrap64 (a1 * a1)) == a1) = false := beq_eq_false_iff_ne.mpr c14
       have c14b1 : ((wrap64 (a1 * a1)) != a1) = true := bne_iff_ne.mpr c14
       obtain rfl := Option.some.inj H
       go_enter Tryz.func62, Tryz.ntmps62
       go_wp2
       go_ret
       exact ⟨by first | rfl | (simp; done) | (simp [*]; done), by repeat (first | exact Drawn0.refl _ | apply Drawn0.step)⟩
     ·rw [if_neg c13] at H
      have c13b0 : (a0 == 5) = false := beq_eq_false_iff_ne.mpr c13
      have c13b1 : (a0 != 5) = true := bne_iff_ne.mpr c13
      obtain rfl := Option.some.inj H
      go_enter Tryz.func62, Tryz.ntmps62
      go_wp2
      go_ret
      exact ⟨by first | rfl | (simp; done) | (simp [*]; done), by repeat (first | exact Drawn0.refl _ | apply Drawn0.step)⟩

end Go.Proofs.YtggldnbhmebcpaaGreatDoor.PDeltaMakes
end
section
-- PRINTED BY print.sh 35421559b90ae4d0a3588c463048766b98c2df88dd9212a6774a882060cdf62d: not written by this session
namespace Go.Proofs.YtggldnbhmebcpaaGreatDoor.PDeltaMakes
open Go.RowKit Go.Proofs.YtggldnbhmebcpaaGreatDoorW.PrintWords Go.Proofs.YtggldnbhmebcpaaGreatDoorW.PrintLast Go.Proofs.YtggldnbhmebcpaaGreatDoorW.PrintMore
attribute [local go_sem] max2_int min2_int max_two min_two max_three min_three max_four min_four   -- for this text's walks alone
set_option linter.unusedVariables false
set_option linter.unusedSimpArgs false
def dioramaref05_Char.j0 : Nat → Int → Bool → Option (ByteArray)
 | 0, _, _ => none
 | k + 1, x0, x17 => if x17 = true then (some (⟨#[]⟩ : ByteArray)) else (if (wrap64 (x0)) < 128 then (some (strOfNums (([(wrap64 (x0)) % 256] : List Int)))) else (if (wrap64 (x0)) < 2048 then (some (strOfNums (([(wrap64 (192 + (wrap64 (Int.tdiv (wrap64 (x0)) 64)))) % 256, (wrap64 (128 + (Int.tmod (wrap64 (x0)) 64))) % 256] : List Int)))) else (if (wrap64 (x0)) < 65536 then (some (strOfNums (([(wrap64 (224 + (wrap64 (Int.tdiv (wrap64 (x0)) 4096)))) % 256, (wrap64 (128 + (Int.tmod (wrap64 (Int.tdiv (wrap64 (x0)) 64)) 64))) % 256, (wrap64 (128 + (Int.tmod (wrap64 (x0)) 64))) % 256] : List Int)))) else (some (strOfNums (([(wrap64 (240 + (wrap64 (Int.tdiv (wrap64 (x0)) 262144)))) % 256, (wrap64 (128 + (Int.tmod (wrap64 (Int.tdiv (wrap64 (x0)) 4096)) 64))) % 256, (wrap64 (128 + (Int.tmod (wrap64 (Int.tdiv (wrap64 (x0)) 64)) 64))) % 256, (wrap64 (128 + (Int.tmod (wrap64 (x0)) 64))) % 256] : List Int)))))))
def dioramaref05_Char.f (k : Nat) (a0 : Int) : Option (ByteArray) := if a0 < 0 then (dioramaref05_Char.j0 k a0 true) else (if a0 > 1114111 then (dioramaref05_Char.j0 k a0 true) else (if a0 ≥ 55296 then (dioramaref05_Char.j0 k a0 (decide (a0 ≤ 57343))) else (dioramaref05_Char.j0 k a0 false)))
set_option maxHeartbeats 8000000 in
set_option maxRecDepth 100000 in
theorem dioramaref05_Char.calls (k : Nat) (a0 : Int) (r : ByteArray) (w : World) (h : dioramaref05_Char.f k a0 = some r) :
  Calls Tryz.prog 126 #[.int .i32 a0] w fun e w' => e = .returned (.string r) ∧ Below w.heap.size w w' := by
 have HB := Aside0.mk (Below.refl w.heap.size w)
 have H : (if a0 < 0 then (dioramaref05_Char.j0 k a0 true) else (if a0 > 1114111 then (dioramaref05_Char.j0 k a0 true) else (if a0 ≥ 55296 then (dioramaref05_Char.j0 k a0 (decide (a0 ≤ 57343))) else (dioramaref05_Char.j0 k a0 false)))) = some r := h
 clear h
 have HC2 := Aside0.mk H
 clear H
 go_enter Tryz.func126, Tryz.ntmps126
 go_upto_region 1 with (fail)
 go_cut [17] (fun v17 wc => ∃ (kq : Nat) (x17_1 : Bool), v17 = .bool x17_1 ∧ Aside0 (dioramaref05_Char.j0 kq a0 x17_1 = some r) ∧ Aside0 (kq ≤ k) ∧ Aside0 (Below w.heap.size w wc))
 case first =>
  have H := HC2.out
  clear HC2
  by_cases c3 : a0 < 0
  ·rw [if_pos c3] at H
   have c3b0 : decide (a0 < 0) = true := decide_eq_true c3
   clear c3
   (first | rw [c3b0] | (simp only [i64_w, i32_w]; rw [c3b0]) | skip)
   have H' := Aside0.mk H
   clear H
   go_wp2
   go_meet
   case rel => exact ⟨_, (true), (by first | rfl | (simp; done) | (simp [*]; done)), H', ⟨by first | omega | exact Nat.le_refl _⟩, ⟨by repeat (first | (with_reducible first | exact HB.out | apply below_alloc | apply pw_below_drewN | apply below_drew1) | exact HB.out)⟩⟩
  ·rw [if_neg c3] at H
   have c3b0 : decide (a0 < 0) = false := decide_eq_false c3
   clear c3
   (first | rw [c3b0] | (simp only [i64_w, i32_w]; rw [c3b0]) | skip)
   by_cases c4 : a0 > 1114111
   ·rw [if_pos c4] at H
    have c4b0 : decide (1114111 < a0) = true := decide_eq_true c4
    clear c4
    have H' := Aside0.mk H
    clear H
    go_wp2
    go_meet
    case rel => exact ⟨_, (true), (by first | rfl | (simp; done) | (simp [*]; done)), H', ⟨by first | omega | exact Nat.le_refl _⟩, ⟨by repeat (first | (with_reducible first | exact HB.out | apply below_alloc | apply pw_below_drewN | apply below_drew1) | exact HB.out)⟩⟩
   ·rw [if_neg c4] at H
    have c4b0 : decide (1114111 < a0) = false := decide_eq_false c4
    clear c4
    by_cases c5 : a0 ≥ 55296
    ·rw [if_pos c5] at H
     have c5b0 : decide (55296 ≤ a0) = true := decide_eq_true c5
     clear c5
     have H' := Aside0.mk H
     clear H
     go_wp2
     go_meet
     case rel => exact ⟨_, (decide (a0 ≤ 57343)), (by first | rfl | (simp; done) | (simp [*]; done)), H', ⟨by first | omega | exact Nat.le_refl _⟩, ⟨by repeat (first | (with_reducible first | exact HB.out | apply below_alloc | apply pw_below_drewN | apply below_drew1) | exact HB.out)⟩⟩
    ·rw [if_neg c5] at H
     have c5b0 : decide (55296 ≤ a0) = false := decide_eq_false c5
     clear c5
     have H' := Aside0.mk H
     clear H
     go_wp2
     go_meet
     case rel => exact ⟨_, (false), (by first | rfl | (simp; done) | (simp [*]; done)), H', ⟨by first | omega | exact Nat.le_refl _⟩, ⟨by repeat (first | (with_reducible first | exact HB.out | apply below_alloc | apply pw_below_drewN | apply below_drew1) | exact HB.out)⟩⟩
 case rest =>
  clear HC2
  try clear c1
  try clear p2
  try clear c3
  try clear c3b0
  try clear c4
  try clear c4b0
  try clear c5
  try clear c5b0
  obtain ⟨kq, x17_1, rfl, HA, HJ1, HB⟩ := hcut
  cases kq with
  | zero => exact absurd HA.out (by simp [dioramaref05_Char.j0])
  | succ kj1 =>
   have H := HA.out
   clear HA
   simp only [dioramaref05_Char.j0] at H
   by_cases c6 : x17_1 = true
   ·subst c6
    have H1 : (some (⟨#[]⟩ : ByteArray)) = some r := by rw [if_pos rfl] at H; exact H
    clear H
    have H := H1
    clear H1
    obtain rfl := Option.some.inj H
    go_wp2
    go_ret
    exact ⟨by first | rfl | (simp [errW_none, errW_some] <;> rfl) | (simp [*, errW_none, errW_some] <;> rfl), by repeat (first | (with_reducible first | exact HB.out | apply below_alloc | apply pw_below_drewN | apply below_drew1) | exact HB.out)⟩
   ·replace c6 := Bool.eq_false_iff.mpr c6
    subst c6
    have H1 : (if (wrap64 (a0)) < 128 then (some (strOfNums (([(wrap64 (a0)) % 256] : List Int)))) else (if (wrap64 (a0)) < 2048 then (some (strOfNums (([(wrap64 (192 + (wrap64 (Int.tdiv (wrap64 (a0)) 64)))) % 256, (wrap64 (128 + (Int.tmod (wrap64 (a0)) 64))) % 256] : List Int)))) else (if (wrap64 (a0)) < 65536 then (some (strOfNums (([(wrap64 (224 + (wrap64 (Int.tdiv (wrap64 (a0)) 4096)))) % 256, (wrap64 (128 + (Int.tmod (wrap64 (Int.tdiv (wrap64 (a0)) 64)) 64))) % 256, (wrap64 (128 + (Int.tmod (wrap64 (a0)) 64))) % 256] : List Int)))) else (some (strOfNums (([(wrap64 (240 + (wrap64 (Int.tdiv (wrap64 (a0)) 262144)))) % 256, (wrap64 (128 + (Int.tmod (wrap64 (Int.tdiv (wrap64 (a0)) 4096)) 64))) % 256, (wrap64 (128 + (Int.tmod (wrap64 (Int.tdiv (wrap64 (a0)) 64)) 64))) % 256, (wrap64 (128 + (Int.tmod (wrap64 (a0)) 64))) % 256] : List Int))))))) = some r := by rw [if_neg (show ¬ (false = true) by decide)] at H; exact H
    clear H
    have H := H1
    clear H1
    by_cases c7 : (wrap64 (a0)) < 128
    ·rw [if_pos c7] at H
     have c7b0 : decide ((wrap64 (a0)) < 128) = true := decide_eq_true c7
     clear c7
     obtain ⟨y435, hy435⟩ : ∃ y_ : List Int, y_ = (([(wrap64 (a0)) % 256] : List Int)) := ⟨_, rfl⟩
     replace H : (some (strOfNums y435)) = some r := by first | (rw [hy435]; with_reducible exact H) | (have H2_ := (Option.bind_some _ _).symm.trans H; rw [hy435]; with_reducible exact H2_) | (have H2_ := (Option.bind_some _ _).symm.trans H; with_reducible exact H2_) | with_reducible exact H | (rw [hy435]; exact H) | exact H
     have Ny435 := Aside0.mk hy435
     clear hy435
     obtain rfl := Option.some.inj H
     go_wp2_with (first | ((with_reducible refine gate_dst (N := 24) rfl ?_); refine Kd.R_lit (Kd.int .u8) _ 5 ?hg (N := 24) ?hd (xs := ([(wrap64 (a0)) % 256] : List Int)) (inner := [.int .u8 ((wrap64 (a0)) % 256)]) (ok := fun _ => True) (okp := fun _ => True) ?hr ?hp (fun _ hk => hk) trivial (Below.refl _ _) (Nat.le_refl _) (by simp) ?_; (case hd => rfl); (case hg => rfl); (case hr => first | (go_simp; done) | (go_simp; rfl)); (case hp => exact (Reps.one (show Kd.M (Kd.int .u8) _ _ _ ((wrap64 (a0)) % 256) [.int .u8 ((wrap64 (a0)) % 256)] from rfl) (Reps.none _ _))); intro v436 w8 ho9 hb hg_ hnew_; clear hg_ hnew_; (first | rw [← Ny435.out] at ho9 | (simp only [Int.reduceToNat] at ho9; rw [← Ny435.out] at ho9)); have n0_ := Aside0.mk (Kd.R_lower ho9 (below_size (by repeat (first | (with_reducible first | exact HB.out | apply below_alloc | apply pw_below_drewN | apply below_drew1) | exact HB.out)))); have n1_ := Aside0.mk (below_step (by repeat (first | (with_reducible first | exact HB.out | apply below_alloc | apply pw_below_drewN | apply below_drew1) | exact HB.out)) hb); clear HB; have HO437 := n0_; have HB := n1_; clear n0_ n1_; clear hb ho9; have hcv10 := own_string (P := Tryz.prog) Tryz.underlying162 Tryz.underlying5 Tryz.underlying9 (Kd.own_of_R HO437.out)))
     go_ret
     exact ⟨by first | rfl | (simp [errW_none, errW_some] <;> rfl) | (simp [*, errW_none, errW_some] <;> rfl), by repeat (first | (with_reducible first | exact HB.out | apply below_alloc | apply pw_below_drewN | apply below_drew1) | exact HB.out)⟩
    ·rw [if_neg c7] at H
     have c7b0 : decide ((wrap64 (a0)) < 128) = false := decide_eq_false c7
     clear c7
     by_cases c11 : (wrap64 (a0)) < 2048
     ·rw [if_pos c11] at H
      have c11b0 : decide ((wrap64 (a0)) < 2048) = true := decide_eq_true c11
      clear c11
      obtain ⟨y438, hy438⟩ : ∃ y_ : List Int, y_ = (([(wrap64 (192 + (wrap64 (Int.tdiv (wrap64 (a0)) 64)))) % 256, (wrap64 (128 + (Int.tmod (wrap64 (a0)) 64))) % 256] : List Int)) := ⟨_, rfl⟩
      replace H : (some (strOfNums y438)) = some r := by first | (rw [hy438]; with_reducible exact H) | (have H2_ := (Option.bind_some _ _).symm.trans H; rw [hy438]; with_reducible exact H2_) | (have H2_ := (Option.bind_some _ _).symm.trans H; with_reducible exact H2_) | with_reducible exact H | (rw [hy438]; exact H) | exact H
      have Ny438 := Aside0.mk hy438
      clear hy438
      obtain rfl := Option.some.inj H
      go_wp2_with (first | ((with_reducible refine gate_dst (N := 36) rfl ?_); refine Kd.R_lit (Kd.int .u8) _ 5 ?hg (N := 36) ?hd (xs := ([(wrap64 (192 + (wrap64 (Int.tdiv (wrap64 (a0)) 64)))) % 256, (wrap64 (128 + (Int.tmod (wrap64 (a0)) 64))) % 256] : List Int)) (inner := [.int .u8 ((wrap64 (192 + (wrap64 (Int.tdiv (wrap64 (a0)) 64)))) % 256), .int .u8 ((wrap64 (128 + (Int.tmod (wrap64 (a0)) 64))) % 256)]) (ok := fun _ => True) (okp := fun _ => True) ?hr ?hp (fun _ hk => hk) trivial (Below.refl _ _) (Nat.le_refl _) (by simp) ?_; (case hd => rfl); (case hg => rfl); (case hr => first | (go_simp; done) | (go_simp; rfl)); (case hp => exact (Reps.one (show Kd.M (Kd.int .u8) _ _ _ ((wrap64 (192 + (wrap64 (Int.tdiv (wrap64 (a0)) 64)))) % 256) [.int .u8 ((wrap64 (192 + (wrap64 (Int.tdiv (wrap64 (a0)) 64)))) % 256)] from rfl) (Reps.one (show Kd.M (Kd.int .u8) _ _ _ ((wrap64 (128 + (Int.tmod (wrap64 (a0)) 64))) % 256) [.int .u8 ((wrap64 (128 + (Int.tmod (wrap64 (a0)) 64))) % 256)] from rfl) (Reps.none _ _)))); intro v439 w12 ho13 hb hg_ hnew_; clear hg_ hnew_; (first | rw [← Ny438.out] at ho13 | (simp only [Int.reduceToNat] at ho13; rw [← Ny438.out] at ho13)); have n0_ := Aside0.mk (Kd.R_lower ho13 (below_size (by repeat (first | (with_reducible first | exact HB.out | apply below_alloc | apply pw_below_drewN | apply below_drew1) | exact HB.out)))); have n1_ := Aside0.mk (below_step (by repeat (first | (with_reducible first | exact HB.out | apply below_alloc | apply pw_below_drewN | apply below_drew1) | exact HB.out)) hb); clear HB; have HO440 := n0_; have HB := n1_; clear n0_ n1_; clear hb ho13; have hcv14 := own_string (P := Tryz.prog) Tryz.underlying162 Tryz.underlying5 Tryz.underlying9 (Kd.own_of_R HO440.out)))
      go_ret
      exact ⟨by first | rfl | (simp [errW_none, errW_some] <;> rfl) | (simp [*, errW_none, errW_some] <;> rfl), by repeat (first | (with_reducible first | exact HB.out | apply below_alloc | apply pw_below_drewN | apply below_drew1) | exact HB.out)⟩
     ·rw [if_neg c11] at H
      have c11b0 : decide ((wrap64 (a0)) < 2048) = false := decide_eq_false c11
      clear c11
      by_cases c15 : (wrap64 (a0)) < 65536
      ·rw [if_pos c15] at H
       have c15b0 : decide ((wrap64 (a0)) < 65536) = true := decide_eq_true c15
       clear c15
       obtain ⟨y441, hy441⟩ : ∃ y_ : List Int, y_ = (([(wrap64 (224 + (wrap64 (Int.tdiv (wrap64 (a0)) 4096)))) % 256, (wrap64 (128 + (Int.tmod (wrap64 (Int.tdiv (wrap64 (a0)) 64)) 64))) % 256, (wrap64 (128 + (Int.tmod (wrap64 (a0)) 64))) % 256] : List Int)) := ⟨_, rfl⟩
       replace H : (some (strOfNums y441)) = some r := by first | (rw [hy441]; with_reducible exact H) | (have H2_ := (Option.bind_some _ _).symm.trans H; rw [hy441]; with_reducible exact H2_) | (have H2_ := (Option.bind_some _ _).symm.trans H; with_reducible exact H2_) | with_reducible exact H | (rw [hy441]; exact H) | exact H
       have Ny441 := Aside0.mk hy441
       clear hy441
       obtain rfl := Option.some.inj H
       go_wp2_with (first | ((with_reducible refine gate_dst (N := 53) rfl ?_); refine Kd.R_lit (Kd.int .u8) _ 5 ?hg (N := 53) ?hd (xs := ([(wrap64 (224 + (wrap64 (Int.tdiv (wrap64 (a0)) 4096)))) % 256, (wrap64 (128 + (Int.tmod (wrap64 (Int.tdiv (wrap64 (a0)) 64)) 64))) % 256, (wrap64 (128 + (Int.tmod (wrap64 (a0)) 64))) % 256] : List Int)) (inner := [.int .u8 ((wrap64 (224 + (wrap64 (Int.tdiv (wrap64 (a0)) 4096)))) % 256), .int .u8 ((wrap64 (128 + (Int.tmod (wrap64 (Int.tdiv (wrap64 (a0)) 64)) 64))) % 256), .int .u8 ((wrap64 (128 + (Int.tmod (wrap64 (a0)) 64))) % 256)]) (ok := fun _ => True) (okp := fun _ => True) ?hr ?hp (fun _ hk => hk) trivial (Below.refl _ _) (Nat.le_refl _) (by simp) ?_; (case hd => rfl); (case hg => rfl); (case hr => first | (go_simp; done) | (go_simp; rfl)); (case hp => exact (Reps.one (show Kd.M (Kd.int .u8) _ _ _ ((wrap64 (224 + (wrap64 (Int.tdiv (wrap64 (a0)) 4096)))) % 256) [.int .u8 ((wrap64 (224 + (wrap64 (Int.tdiv (wrap64 (a0)) 4096)))) % 256)] from rfl) (Reps.one (show Kd.M (Kd.int .u8) _ _ _ ((wrap64 (128 + (Int.tmod (wrap64 (Int.tdiv (wrap64 (a0)) 64)) 64))) % 256) [.int .u8 ((wrap64 (128 + (Int.tmod (wrap64 (Int.tdiv (wrap64 (a0)) 64)) 64))) % 256)] from rfl) (Reps.one (show Kd.M (Kd.int .u8) _ _ _ ((wrap64 (128 + (Int.tmod (wrap64 (a0)) 64))) % 256) [.int .u8 ((wrap64 (128 + (Int.tmod (wrap64 (a0)) 64))) % 256)] from rfl) (Reps.none _ _))))); intro v442 w16 ho17 hb hg_ hnew_; clear hg_ hnew_; (first | rw [← Ny441.out] at ho17 | (simp only [Int.reduceToNat] at ho17; rw [← Ny441.out] at ho17)); have n0_ := Aside0.mk (Kd.R_lower ho17 (below_size (by repeat (first | (with_reducible first | exact HB.out | apply below_alloc | apply pw_below_drewN | apply below_drew1) | exact HB.out)))); have n1_ := Aside0.mk (below_step (by repeat (first | (with_reducible first | exact HB.out | apply below_alloc | apply pw_below_drewN | apply below_drew1) | exact HB.out)) hb); clear HB; have HO443 := n0_; have HB := n1_; clear n0_ n1_; clear hb ho17; have hcv18 := own_string (P := Tryz.prog) Tryz.underlying162 Tryz.underlying5 Tryz.underlying9 (Kd.own_of_R HO443.out)))
       go_ret
       exact ⟨by first | rfl | (simp [errW_none, errW_some] <;> rfl) | (simp [*, errW_none, errW_some] <;> rfl), by repeat (first | (with_reducible first | exact HB.out | apply below_alloc | apply pw_below_drewN | apply below_drew1) | exact HB.out)⟩
      ·rw [if_neg c15] at H
       have c15b0 : decide ((wrap64 (a0)) < 65536) = false := decide_eq_false c15
       clear c15
       obtain ⟨y444, hy444⟩ : ∃ y_ : List Int, y_ = (([(wrap64 (240 + (wrap64 (Int.tdiv (wrap64 (a0)) 262144)))) % 256, (wrap64 (128 + (Int.tmod (wrap64 (Int.tdiv (wrap64 (a0)) 4096)) 64))) % 256, (wrap64 (128 + (Int.tmod (wrap64 (Int.tdiv (wrap64 (a0)) 64)) 64))) % 256, (wrap64 (128 + (Int.tmod (wrap64 (a0)) 64))) % 256] : List Int)) := ⟨_, rfl⟩
       replace H : (some (strOfNums y444)) = some r := by first | (rw [hy444]; with_reducible exact H) | (have H2_ := (Option.bind_some _ _).symm.trans H; rw [hy444]; with_reducible exact H2_) | (have H2_ := (Option.bind_some _ _).symm.trans H; with_reducible exact H2_) | with_reducible exact H | (rw [hy444]; exact H) | exact H
       have Ny444 := Aside0.mk hy444
       clear hy444
       obtain rfl := Option.some.inj H
       go_wp2_with (first | ((with_reducible refine gate_dst (N := 73) rfl ?_); refine Kd.R_lit (Kd.int .u8) _ 5 ?hg (N := 73) ?hd (xs := ([(wrap64 (240 + (wrap64 (Int.tdiv (wrap64 (a0)) 262144)))) % 256, (wrap64 (128 + (Int.tmod (wrap64 (Int.tdiv (wrap64 (a0)) 4096)) 64))) % 256, (wrap64 (128 + (Int.tmod (wrap64 (Int.tdiv (wrap64 (a0)) 64)) 64))) % 256, (wrap64 (128 + (Int.tmod (wrap64 (a0)) 64))) % 256] : List Int)) (inner := [.int .u8 ((wrap64 (240 + (wrap64 (Int.tdiv (wrap64 (a0)) 262144)))) % 256), .int .u8 ((wrap64 (128 + (Int.tmod (wrap64 (Int.tdiv (wrap64 (a0)) 4096)) 64))) % 256), .int .u8 ((wrap64 (128 + (Int.tmod (wrap64 (Int.tdiv (wrap64 (a0)) 64)) 64))) % 256), .int .u8 ((wrap64 (128 + (Int.tmod (wrap64 (a0)) 64))) % 256)]) (ok := fun _ => True) (okp := fun _ => True) ?hr ?hp (fun _ hk => hk) trivial (Below.refl _ _) (Nat.le_refl _) (by simp) ?_; (case hd => rfl); (case hg => rfl); (case hr => first | (go_simp; done) | (go_simp; rfl)); (case hp => exact (Reps.one (show Kd.M (Kd.int .u8) _ _ _ ((wrap64 (240 + (wrap64 (Int.tdiv (wrap64 (a0)) 262144)))) % 256) [.int .u8 ((wrap64 (240 + (wrap64 (Int.tdiv (wrap64 (a0)) 262144)))) % 256)] from rfl) (Reps.one (show Kd.M (Kd.int .u8) _ _ _ ((wrap64 (128 + (Int.tmod (wrap64 (Int.tdiv (wrap64 (a0)) 4096)) 64))) % 256) [.int .u8 ((wrap64 (128 + (Int.tmod (wrap64 (Int.tdiv (wrap64 (a0)) 4096)) 64))) % 256)] from rfl) (Reps.one (show Kd.M (Kd.int .u8) _ _ _ ((wrap64 (128 + (Int.tmod (wrap64 (Int.tdiv (wrap64 (a0)) 64)) 64))) % 256) [.int .u8 ((wrap64 (128 + (Int.tmod (wrap64 (Int.tdiv (wrap64 (a0)) 64)) 64))) % 256)] from rfl) (Reps.one (show Kd.M (Kd.int .u8) _ _ _ ((wrap64 (128 + (Int.tmod (wrap64 (a0)) 64))) % 256) [.int .u8 ((wrap64 (128 + (Int.tmod (wrap64 (a0)) 64))) % 256)] from rfl) (Reps.none _ _)))))); intro v445 w19 ho20 hb hg_ hnew_; clear hg_ hnew_; (first | rw [← Ny444.out] at ho20 | (simp only [Int.reduceToNat] at ho20; rw [← Ny444.out] at ho20)); have n0_ := Aside0.mk (Kd.R_lower ho20 (below_size (by repeat (first | (with_reducible first | exact HB.out | apply below_alloc | apply pw_below_drewN | apply below_drew1) | exact HB.out)))); have n1_ := Aside0.mk (below_step (by repeat (first | (with_reducible first | exact HB.out | apply below_alloc | apply pw_below_drewN | apply below_drew1) | exact HB.out)) hb); clear HB; have HO446 := n0_; have HB := n1_; clear n0_ n1_; clear hb ho20; have hcv21 := own_string (P := Tryz.prog) Tryz.underlying162 Tryz.underlying5 Tryz.underlying9 (Kd.own_of_R HO446.out)))
       go_ret
       exact ⟨by first | rfl | (simp [errW_none, errW_some] <;> rfl) | (simp [*, errW_none, errW_some] <;> rfl), by repeat (first | (with_reducible first | exact HB.out | apply below_alloc | apply pw_below_drewN | apply below_drew1) | exact HB.out)⟩

end Go.Proofs.YtggldnbhmebcpaaGreatDoor.PDeltaMakes
end
section
-- PRINTED BY print.sh 35421559b90ae4d0a3588c463048766b98c2df88dd9212a6774a882060cdf62d: not written by this session
namespace Go.Proofs.YtggldnbhmebcpaaGreatDoor.PDeltaMakes
open Go.RowKit Go.Proofs.YtggldnbhmebcpaaGreatDoorW.PrintWords Go.Proofs.YtggldnbhmebcpaaGreatDoorW.PrintLast Go.Proofs.YtggldnbhmebcpaaGreatDoorW.PrintMore
attribute [local go_sem] max2_int min2_int max_two min_two max_three min_three max_four min_four   -- for this text's walks alone
set_option linter.unusedVariables false
set_option linter.unusedSimpArgs false
mutual
def dioramaref05_At.l0 : Nat → ByteArray → Int → Int → Option (Int × Int)
 | 0, _, _, _ => none
 | k + 1, x0, x1, x6 => if x6 ≤ 4 then (dioramaref05_At.j1 k x0 x1 x6 (decide ((wrap64 (x1 + x6)) ≤ (x0.size : Int)))) else (dioramaref05_At.j1 k x0 x1 x6 false)
def dioramaref05_At.j1 : Nat → ByteArray → Int → Int → Bool → Option (Int × Int)
 | 0, _, _, _, _ => none
 | k + 1, x0, x1, x6, x18 => if x18 = true then (if 0 ≤ x1 then (if x1 < (x0.size : Int) then (if x6 = 2 then (dioramaref05_At.j2 k x0 x1 x6 (wrap64 ((wrap64 (bt x0 x1)) - 192))) else (dioramaref05_At.j2 k x0 x1 x6 (wrap64 (bt x0 x1)))) else (none)) else (none)) else (some (0, 0))
def dioramaref05_At.j2 : Nat → ByteArray → Int → Int → Int → Option (Int × Int)
 | 0, _, _, _, _ => none
 | k + 1, x0, x1, x6, x7 => if x6 = 3 then (dioramaref05_At.j3 k x0 x1 x6 (wrap64 (x7 - 224))) else (dioramaref05_At.j3 k x0 x1 x6 x7)
def dioramaref05_At.j3 : Nat → ByteArray → Int → Int → Int → Option (Int × Int)
 | 0, _, _, _, _ => none
 | k + 1, x0, x1, x6, x7 => if x6 = 4 then (dioramaref05_At.j4 k x0 x1 x6 (wrap64 (x7 - 240))) else (dioramaref05_At.j4 k x0 x1 x6 x7)
def dioramaref05_At.j4 : Nat → ByteArray → Int → Int → Int → Option (Int × Int)
 | 0, _, _, _, _ => none
 | k + 1, x0, x1, x6, x7 => dioramaref05_At.l1 k x0 x1 x6 x7 1
def dioramaref05_At.l1 : Nat → ByteArray → Int → Int → Int → Int → Option (Int × Int)
 | 0, _, _, _, _, _ => none
 | k + 1, x0, x1, x6, x7, x8 => if x8 < x6 then (if 0 ≤ (wrap64 (x1 + x8)) then (if (wrap64 (x1 + x8)) < (x0.size : Int) then (dioramaref05_At.l1 k x0 x1 x6 (wrap64 ((wrap64 ((wrap64 (64 * x7)) + (wrap64 (bt x0 (wrap64 (x1 + x8)))))) - 128)) (wrap64 (x8 + 1))) else (none)) else (none)) else (if x7 ≥ 0 then (if x7 ≤ 1114111 then ((dioramaref05_Char.f k (wrap32 (x7))).bind fun t447 => (if 0 ≤ x1 then (if x1 ≤ (wrap64 (x1 + x6)) then (if (wrap64 (x1 + x6)) ≤ (x0.size : Int) then (if t447.toList = (x0.extract (x1 : Int).toNat ((wrap64 (x1 + x6)) : Int).toNat).toList then (some (wrap32 (x7), x6)) else (dioramaref05_At.l0 k x0 x1 (wrap64 (x6 + 1)))) else (none)) else (none)) else (none))) else (dioramaref05_At.l0 k x0 x1 (wrap64 (x6 + 1)))) else (dioramaref05_At.l0 k x0 x1 (wrap64 (x6 + 1))))
end
def dioramaref05_At.f (k : Nat) (a0 : ByteArray) (a1 : Int) : Option (Int × Int) := dioramaref05_At.l0 k a0 a1 1
def dioramaref05_At.T15 : Bool × List (List Nat × List Nat) := (true, [([], []), ([0], [0]), ([1], [1]), ([2], [2]), ([3, 2], [2, 3]), ([2, 4], [2, 4]), ([5, 2], [5]), ([6], [6]), ([7, 6], [6, 7]), ([8, 6, 6], [6, 8]), ([6], [6]), ([6], [6]), ([6], [6]), ([6], [6]), ([12, 13, 6], [6, 12, 13]), ([10, 11, 14, 6], [6, 10, 11, 14]), ([9, 15, 6], [6, 9, 15]), ([6, 16], [6, 16])])
def dioramaref05_At.B15 : List Nat := [0, 1, 3, 7, 15, 31, 63, 127, 255, 511, 127, 127, 127, 127, 12415, 31871, 65535, 131071]
theorem dioramaref05_At.tab15 : rtab .any (opsOf Tryz.f118 15) = dioramaref05_At.T15 := by kernel_rfl
theorem dioramaref05_At.bits15 : waitsOk dioramaref05_At.T15.2 dioramaref05_At.B15 = true := by kernel_rfl
set_option maxHeartbeats 8000000 in
set_option maxRecDepth 100000 in
theorem dioramaref05_At.calls (k : Nat) (a0 : ByteArray) (a1 : Int) (r1 : Int) (r2 : Int) (w : World) (h : dioramaref05_At.f k a0 a1 = some (r1, r2)) :
  Calls Tryz.prog 118 #[.string a0, .int .i64 a1] w fun e w' => e = .returned (.tuple #[.int .i32 r1, .int .i64 r2]) ∧ Below w.heap.size w w' := by
 have HB := Aside0.mk (Below.refl w.heap.size w)
 have H : (dioramaref05_At.l0 k a0 a1 1) = some (r1, r2) := h
 clear h
 have H' := Aside0.mk H
 clear H
 go_enter Tryz.func118, Tryz.ntmps118
 go_wp2
 go_loopg [6] k (fun kq v6 w' => ∃ (x6_1 : Int), v6 = .int .i64 x6_1 ∧ Aside0 (dioramaref05_At.l0 kq a0 a1 x6_1 = some (r1, r2)) ∧ Aside0 (kq ≤ k) ∧ Aside0 (Below w.heap.size w w'))
 case atStart => exact ⟨(1), (by first | rfl | (simp; done) | (simp [*]; done)), H', ⟨Nat.le_refl _⟩, ⟨by repeat (first | (with_reducible first | exact HB.out | apply below_alloc | apply pw_below_drewN | apply below_drew1) | exact HB.out)⟩⟩
 case round =>
  clear H'
  try clear c1
  try clear p2
  obtain ⟨x6_1, rfl, HA, HK1, HB⟩ := hrel
  cases gk with
  | zero => exact absurd HA.out (by simp [dioramaref05_At.l0])
  | succ k1 =>
   have H := HA.out
   clear HA
   simp only [dioramaref05_At.l0] at H
   have HC3 := Aside0.mk H
   clear H
   go_upto_region 2 with (fail)
   go_cut [18] (fun v18 wc => ∃ (kq : Nat) (x18_2 : Bool), v18 = .bool x18_2 ∧ Aside0 (dioramaref05_At.j1 kq a0 a1 x6_1 x18_2 = some (r1, r2)) ∧ Aside0 (kq ≤ k1) ∧ Aside0 (Below w.heap.size w wc))
   case first =>
    have H := HC3.out
    clear HC3
    by_cases c4 : x6_1 ≤ 4
    ·rw [if_pos c4] at H
     have c4b0 : decide (x6_1 ≤ 4) = true := decide_eq_true c4
     clear c4
     (first | rw [c4b0] | (simp only [i64_w, i32_w]; rw [c4b0]) | skip)
     have H' := Aside0.mk H
     clear H
     go_wp2
     go_meet
     case rel => exact ⟨_, (decide ((wrap64 (a1 + x6_1)) ≤ (a0.size : Int))), (by first | rfl | (simp; done) | (simp [*]; done)), H', ⟨by have := HK1.out; first | omega | exact Nat.le_refl _⟩, ⟨by repeat (first | (with_reducible first | exact HB.out | apply below_alloc | apply pw_below_drewN | apply below_drew1) | exact HB.out)⟩⟩
    ·rw [if_neg c4] at H
     have c4b0 : decide (x6_1 ≤ 4) = false := decide_eq_false c4
     clear c4
     (first | rw [c4b0] | (simp only [i64_w, i32_w]; rw [c4b0]) | skip)
     have H' := Aside0.mk H
     clear H
     go_wp2
     go_meet
     case rel => exact ⟨_, (false), (by first | rfl | (simp; done) | (simp [*]; done)), H', ⟨by have := HK1.out; first | omega | exact Nat.le_refl _⟩, ⟨by repeat (first | (with_reducible first | exact HB.out | apply below_alloc | apply pw_below_drewN | apply below_drew1) | exact HB.out)⟩⟩
   case rest =>
    clear HC3
    try clear c1
    try clear p2
    try clear c4
    try clear c4b0
    try clear p2
    obtain ⟨kq, x18_2, rfl, HA, HJ2, HB⟩ := hcut
    cases kq with
    | zero => exact absurd HA.out (by simp [dioramaref05_At.j1])
    | succ kj2 =>
     have H := HA.out
     clear HA
     simp only [dioramaref05_At.j1] at H
     by_cases c5 : x18_2 = true
     ·subst c5
      have H1 : (if 0 ≤ a1 then (if a1 < (a0.size : Int) then (if x6_1 = 2 then (dioramaref05_At.j2 kj2 a0 a1 x6_1 (wrap64 ((wrap64 (bt a0 a1)) - 192))) else (dioramaref05_At.j2 kj2 a0 a1 x6_1 (wrap64 (bt a0 a1)))) else (none)) else (none)) = some (r1, r2) := by rw [if_pos rfl] at H; exact H
      clear H
      have H := H1
      clear H1
      by_cases c6 : 0 ≤ a1
      ·rw [if_pos c6] at H
       have c6b0 : decide (0 ≤ a1) = true := decide_eq_true c6
       clear c6
       by_cases c7 : a1 < (a0.size : Int)
       ·rw [if_pos c7] at H
        have c7b0 : decide (a1 < (a0.size : Int)) = true := decide_eq_true c7
        clear c7
        have HC9 := Aside0.mk H
        clear H
        have p8 : 0 ≤ (a1 : Int) := of_decide_eq_true (by first | (with_reducible assumption) | assumption)
        have q8 : a1 < (a0.size : Int) := of_decide_eq_true (by first | (with_reducible assumption) | assumption)
        have hx8 := bt_at a0 a1
        replace p8 := eq_true p8
        replace q8 := eq_true q8
        go_upto_if 26 with (fail)
        go_cut [7] (fun v7 wc => ∃ (kq : Nat) (x7_8 : Int), v7 = .int .i64 x7_8 ∧ Aside0 (dioramaref05_At.j2 kq a0 a1 x6_1 x7_8 = some (r1, r2)) ∧ Aside0 (kq ≤ kj2) ∧ Aside0 (Below w.heap.size w wc))
        case first =>
         have H := HC9.out
         clear HC9
         by_cases c10 : x6_1 = 2
         ·rw [if_pos c10] at H
          have c10b0 : (x6_1 == 2) = true := beq_iff_eq.mpr c10
          have c10b1 : (x6_1 != 2) = false := bne_eq_false_iff_eq.mpr c10
          clear c10
          (first | rw [c10b0] | (simp only [i64_w, i32_w]; rw [c10b0]) | skip)
          have H' := Aside0.mk H
          clear H
          go_wp2
          go_meet
          case rel => exact ⟨_, (wrap64 ((wrap64 (bt a0 a1)) - 192)), (by first | rfl | (simp; done) | (simp [*]; done)), H', ⟨by have := HK1.out; have := HJ2.out; first | omega | exact Nat.le_refl _⟩, ⟨by repeat (first | (with_reducible first | exact HB.out | apply below_alloc | apply pw_below_drewN | apply below_drew1) | exact HB.out)⟩⟩
         ·rw [if_neg c10] at H
          have c10b0 : (x6_1 == 2) = false := beq_eq_false_iff_ne.mpr c10
          have c10b1 : (x6_1 != 2) = true := bne_iff_ne.mpr c10
          (first | rw [c10b0] | (simp only [i64_w, i32_w]; rw [c10b0]) | skip)
          have H' := Aside0.mk H
          clear H
          go_wp2
          go_meet
          case rel => exact ⟨_, (wrap64 (bt a0 a1)), (by first | rfl | (simp; done) | (simp [*]; done)), H', ⟨by have := HK1.out; have := HJ2.out; first | omega | exact Nat.le_refl _⟩, ⟨by repeat (first | (with_reducible first | exact HB.out | apply below_alloc | apply pw_below_drewN | apply below_drew1) | exact HB.out)⟩⟩
        case rest =>
         clear HC9
         try clear c1
         try clear p2
         try clear c4
         try clear c4b0
         try clear c5
         try clear c6
         try clear c6b0
         try clear p6
         try clear c7
         try clear c7b0
         try clear p8
         try clear q8
         try clear hx8
         try clear c10
         try clear c10b0
         try clear c10b1
         try clear p2
         try clear p8
         try clear q8
         obtain ⟨kq, x7_8, rfl, HA, HJ8, HB⟩ := hcut
         cases kq with
         | zero => exact absurd HA.out (by simp [dioramaref05_At.j2])
         | succ kj8 =>
          have H := HA.out
          clear HA
          simp only [dioramaref05_At.j2] at H
          have HC11 := Aside0.mk H
          clear H
          go_upto_if 30 with (fail)
          go_cut [7] (fun v7 wc => ∃ (kq : Nat) (x7_10 : Int), v7 = .int .i64 x7_10 ∧ Aside0 (dioramaref05_At.j3 kq a0 a1 x6_1 x7_10 = some (r1, r2)) ∧ Aside0 (kq ≤ kj8) ∧ Aside0 (Below w.heap.size w wc))
          case first =>
           have H := HC11.out
           clear HC11
           by_cases c12 : x6_1 = 3
           ·rw [if_pos c12] at H
            have c12b0 : (x6_1 == 3) = true := beq_iff_eq.mpr c12
            have c12b1 : (x6_1 != 3) = false := bne_eq_false_iff_eq.mpr c12
            clear c12
            (first | rw [c12b0] | (simp only [i64_w, i32_w]; rw [c12b0]) | skip)
            have H' := Aside0.mk H
            clear H
            go_wp2
            go_meet
            case rel => exact ⟨_, (wrap64 (x7_8 - 224)), (by first | rfl | (simp; done) | (simp [*]; done)), H', ⟨by have := HK1.out; have := HJ2.out; have := HJ8.out; first | omega | exact Nat.le_refl _⟩, ⟨by repeat (first | (with_reducible first | exact HB.out | apply below_alloc | apply pw_below_drewN | apply below_drew1) | exact HB.out)⟩⟩
           ·rw [if_neg c12] at H
            have c12b0 : (x6_1 == 3) = false := beq_eq_false_iff_ne.mpr c12
            have c12b1 : (x6_1 != 3) = true := bne_iff_ne.mpr c12
            (first | rw [c12b0] | (simp only [i64_w, i32_w]; rw [c12b0]) | skip)
            have H' := Aside0.mk H
            clear H
            go_wp2
            go_meet
            case rel => exact ⟨_, (x7_8), (by first | rfl | (simp; done) | (simp [*]; done)), H', ⟨by have := HK1.out; have := HJ2.out; have := HJ8.out; first | omega | exact Nat.le_refl _⟩, ⟨by repeat (first | (with_reducible first | exact HB.out | apply below_alloc | apply pw_below_drewN | apply below_drew1) | exact HB.out)⟩⟩
          case rest =>
           clear HC11
           try clear c1
           try clear p2
           try clear c4
           try clear c4b0
           try clear c5
           try clear c6
           try clear c6b0
           try clear p6
           try clear c7
           try clear c7b0
           try clear p8
           try clear q8
           try clear hx8
           try clear c10
           try clear c10b0
           try clear c10b1
           try clear c11
           try clear c12
           try clear c12b0
           try clear c12b1
           try clear p2
           try clear p6
           try clear p8
           try clear q8
           obtain ⟨kq, x7_10, rfl, HA, HJ10, HB⟩ := hcut
           cases kq with
           | zero => exact absurd HA.out (by simp [dioramaref05_At.j3])
           | succ kj10 =>
            have H := HA.out
            clear HA
            simp only [dioramaref05_At.j3] at H
            have HC13 := Aside0.mk H
            clear H
            go_upto_if 34 with (fail)
            go_cut [7] (fun v7 wc => ∃ (kq : Nat) (x7_12 : Int), v7 = .int .i64 x7_12 ∧ Aside0 (dioramaref05_At.j4 kq a0 a1 x6_1 x7_12 = some (r1, r2)) ∧ Aside0 (kq ≤ kj10) ∧ Aside0 (Below w.heap.size w wc))
            case first =>
             have H := HC13.out
             clear HC13
             by_cases c14 : x6_1 = 4
             ·rw [if_pos c14] at H
              have c14b0 : (x6_1 == 4) = true := beq_iff_eq.mpr c14
              have c14b1 : (x6_1 != 4) = false := bne_eq_false_iff_eq.mpr c14
              clear c14
              (first | rw [c14b0] | (simp only [i64_w, i32_w]; rw [c14b0]) | skip)
              have H' := Aside0.mk H
              clear H
              go_wp2
              go_meet
              case rel => exact ⟨_, (wrap64 (x7_10 - 240)), (by first | rfl | (simp; done) | (simp [*]; done)), H', ⟨by have := HK1.out; have := HJ2.out; have := HJ8.out; have := HJ10.out; first | omega | exact Nat.le_refl _⟩, ⟨by repeat (first | (with_reducible first | exact HB.out | apply below_alloc | apply pw_below_drewN | apply below_drew1) | exact HB.out)⟩⟩
             ·rw [if_neg c14] at H
              have c14b0 : (x6_1 == 4) = false := beq_eq_false_iff_ne.mpr c14
              have c14b1 : (x6_1 != 4) = true := bne_iff_ne.mpr c14
              (first | rw [c14b0] | (simp only [i64_w, i32_w]; rw [c14b0]) | skip)
              have H' := Aside0.mk H
              clear H
              go_wp2
              go_meet
              case rel => exact ⟨_, (x7_10), (by first | rfl | (simp; done) | (simp [*]; done)), H', ⟨by have := HK1.out; have := HJ2.out; have := HJ8.out; have := HJ10.out; first | omega | exact Nat.le_refl _⟩, ⟨by repeat (first | (with_reducible first | exact HB.out | apply below_alloc | apply pw_below_drewN | apply below_drew1) | exact HB.out)⟩⟩
            case rest =>
             clear HC13
             try clear c1
             try clear p2
             try clear c4
             try clear c4b0
             try clear c5
             try clear c6
             try clear c6b0
             try clear p6
             try clear c7
             try clear c7b0
             try clear p8
             try clear q8
             try clear hx8
             try clear c10
             try clear c10b0
             try clear c10b1
             try clear c11
             try clear c12
             try clear c12b0
             try clear c12b1
             try clear c14
             try clear c14b0
             try clear c14b1
             try clear p2
             try clear p6
             try clear p8
             try clear q8
             obtain ⟨kq, x7_12, rfl, HA, HJ12, HB⟩ := hcut
             cases kq with
             | zero => exact absurd HA.out (by simp [dioramaref05_At.j4])
             | succ kj12 =>
              have H := HA.out
              clear HA
              simp only [dioramaref05_At.j4] at H
              have H' := Aside0.mk H
              clear H
              go_wp2
              go_loopg [7, 8] kj12 (fun kq v7 v8 w' => ∃ (x7_6 : Int) (x8_6 : Int), v7 = .int .i64 x7_6 ∧ v8 = .int .i64 x8_6 ∧ Aside0 (dioramaref05_At.l1 kq a0 a1 x6_1 x7_6 x8_6 = some (r1, r2)) ∧ Aside0 (kq ≤ kj12) ∧ Aside0 (Below w.heap.size w w'))
              case atStart => exact ⟨(x7_12), (1), (by first | rfl | (simp; done) | (simp [*]; done)), (by first | rfl | (simp; done) | (simp [*]; done)), H', ⟨Nat.le_refl _⟩, ⟨by repeat (first | (with_reducible first | exact HB.out | apply below_alloc | apply pw_below_drewN | apply below_drew1) | exact HB.out)⟩⟩
              case round =>
               clear H'
               try clear c1
               try clear p2
               try clear c4
               try clear c4b0
               try clear c5
               try clear c6
               try clear c6b0
               try clear p6
               try clear c7
               try clear c7b0
               try clear p8
               try clear q8
               try clear hx8
               try clear c10
               try clear c10b0
               try clear c10b1
               try clear c11
               try clear c12
               try clear c12b0
               try clear c12b1
               try clear c14
               try clear c14b0
               try clear c14b1
               try clear p2
               try clear p6
               try clear p8
               try clear q8
               obtain ⟨x7_6, x8_6, rfl, rfl, HA, HK6, HB⟩ := hrel
               cases gk with
               | zero => exact absurd HA.out (by simp [dioramaref05_At.l1])
               | succ k6 =>
                have H := HA.out
                clear HA
                simp only [dioramaref05_At.l1] at H
                by_cases c15 : x8_6 < x6_1
                ·rw [if_pos c15] at H
                 have c15b0 : decide (x8_6 < x6_1) = true := decide_eq_true c15
                 clear c15
                 obtain ⟨ji16, hji16⟩ : ∃ j_ : Int, (wrap64 (a1 + x8_6)) = j_ := ⟨_, rfl⟩
                 replace H : (if 0 ≤ (ji16) then (if (ji16) < (a0.size : Int) then (dioramaref05_At.l1 k6 a0 a1 x6_1 (wrap64 ((wrap64 ((wrap64 (64 * x7_6)) + (wrap64 (bt a0 (ji16))))) - 128)) (wrap64 (x8_6 + 1))) else (none)) else (none)) = some (r1, r2) := by first | (rw [hji16] at H; exact H) | (simp only [hji16] at H ⊢; exact H)
                 have hji16w : (IntKind.i64.wrap (a1 + x8_6)) = ji16 := (i64_w _).trans hji16
                 by_cases c17 : 0 ≤ (ji16)
                 ·rw [if_pos c17] at H
                  have c17b0 : decide (0 ≤ (ji16)) = true := decide_eq_true c17
                  clear c17
                  by_cases c18 : (ji16) < (a0.size : Int)
                  ·rw [if_pos c18] at H
                   have c18b0 : decide ((ji16) < (a0.size : Int)) = true := decide_eq_true c18
                   clear c18
                   have H' := Aside0.mk H
                   clear H
                   have p19 : 0 ≤ ((ji16) : Int) := of_decide_eq_true (by first | (with_reducible assumption) | assumption)
                   have q19 : (ji16) < (a0.size : Int) := of_decide_eq_true (by first | (with_reducible assumption) | assumption)
                   have hx19 := bt_at a0 (ji16)
                   replace p19 := eq_true p19
                   replace q19 := eq_true q19
                   go_wp2
                   go_roundg k6
                   case measure => have := HK1.out; have := HJ2.out; have := HJ8.out; have := HJ10.out; have := HJ12.out; have := HK6.out; omega
                   case rel => exact ⟨(wrap64 ((wrap64 ((wrap64 (64 * x7_6)) + (wrap64 (bt a0 (ji16))))) - 128)), (wrap64 (x8_6 + 1)), (by first | rfl | (simp; done) | (simp only [← hji16] <;> (first | rfl | simp)) | (simp [*]; done)), (by first | rfl | (simp; done) | (simp [*]; done)), H', ⟨by have := HK1.out; have := HJ2.out; have := HJ8.out; have := HJ10.out; have := HJ12.out; have := HK6.out; omega⟩, ⟨by repeat (first | (with_reducible first | exact HB.out | apply below_alloc | apply pw_below_drewN | apply below_drew1) | exact HB.out)⟩⟩
                  ·rw [if_neg c18] at H
                   exact absurd H (by simp)
                 ·rw [if_neg c17] at H
                  exact absurd H (by simp)
                ·rw [if_neg c15] at H
                 have c15b0 : decide (x8_6 < x6_1) = false := decide_eq_false c15
                 clear c15
                 by_cases c20 : x7_6 ≥ 0
                 ·rw [if_pos c20] at H
                  have c20b0 : decide (0 ≤ x7_6) = true := decide_eq_true c20
                  clear c20
                  by_cases c21 : x7_6 ≤ 1114111
                  ·rw [if_pos c21] at H
                   have c21b0 : decide (x7_6 ≤ 1114111) = true := decide_eq_true c21
                   clear c21
                   replace H := Option.bind_eq_some_iff.mp H
                   obtain ⟨t447, A220, H⟩ := H
                   replace H : (if 0 ≤ a1 then (if a1 ≤ (wrap64 (a1 + x6_1)) then (if (wrap64 (a1 + x6_1)) ≤ (a0.size : Int) then (if t447.toList = (a0.extract (a1 : Int).toNat ((wrap64 (a1 + x6_1)) : Int).toNat).toList then (some (wrap32 (x7_6), x6_1)) else (dioramaref05_At.l0 k6 a0 a1 (wrap64 (x6_1 + 1)))) else (none)) else (none)) else (none)) = some (r1, r2) := H
                   have A22 := Aside0.mk A220
                   clear A220
                   by_cases c23 : 0 ≤ a1
                   ·rw [if_pos c23] at H
                    have c23b0 := eq_true c23
                    have c23b1 : decide (0 ≤ a1) = true := decide_eq_true c23
                    clear c23
                    by_cases c24 : a1 ≤ (wrap64 (a1 + x6_1))
                    ·rw [if_pos c24] at H
                     have c24b0 := eq_true c24
                     have c24b1 : decide (a1 ≤ (wrap64 (a1 + x6_1))) = true := decide_eq_true c24
                     by_cases c25 : (wrap64 (a1 + x6_1)) ≤ (a0.size : Int)
                     ·rw [if_pos c25] at H
                      have c25b0 := eq_true c25
                      have c25b1 : decide ((wrap64 (a1 + x6_1)) ≤ (a0.size : Int)) = true := decide_eq_true c25
                      by_cases c26 : t447.toList = (a0.extract (a1 : Int).toNat ((wrap64 (a1 + x6_1)) : Int).toNat).toList
                      ·rw [if_pos c26] at H
                       have c26b0 : (t447.toList == (a0.extract (a1 : Int).toNat ((wrap64 (a1 + x6_1)) : Int).toNat).toList) = true := beq_iff_eq.mpr c26
                       have c26b1 : (t447.toList != (a0.extract (a1 : Int).toNat ((wrap64 (a1 + x6_1)) : Int).toNat).toList) = false := bne_eq_false_iff_eq.mpr c26
                       clear c26
                       simp only [Option.some.injEq, Prod.mk.injEq] at H
                       obtain ⟨rfl, rfl⟩ := H
                       try go_wp2
                       have n0_ := Aside0.mk (below_drew1 HB.out)
                       clear HB
                       have HB := n0_
                       clear n0_
                       refine start_ (n := 18) (S := fun w' => True) (ds := []) #[false, false, false, false, false, false, false, false, false, false, false, false, false, false, false, false, false, false] (by kernel_rfl) rfl rfl trivial (fun hHeld => ?_); refine with_tabW dioramaref05_At.tab15 dioramaref05_At.bits15 (fun HT_ HW_ => ?_)
                       generalize wr.drew = w27 at HB hHeld ⊢
                       refine pure_ (i := 0) (N := some 52) (v := ?_) (a' := ?_) #[true, false, false, false, false, false, false, false, false, false, false, false, false, false, false, false, false, false] rfl rfl (any_of HT_.out (by kernel_rfl)) (fun _ _ _ h => h) (Or.inl ⟨by rfl, ?_⟩) ?_ ?_
                       rotate_left
                       ·intro w'
                        go_simp
                        with_reducible rfl
                       rotate_left
                       ·simp only [Act.put, List.setIfInBounds_toArray, List.set_cons_zero, List.set_cons_succ, i64_w, i32_w]
                        rfl
                       refine pure_ (i := 1) (N := some 53) (v := ?_) (a' := ?_) #[true, true, false, false, false, false, false, false, false, false, false, false, false, false, false, false, false, false] rfl rfl (any_of HT_.out (by kernel_rfl)) (fun _ _ _ h => h) (Or.inl ⟨by rfl, ?_⟩) ?_ ?_
                       rotate_left
                       ·intro w'
                        go_simp
                        with_reducible rfl
                       rotate_left
                       ·simp only [Act.put, List.setIfInBounds_toArray, List.set_cons_zero, List.set_cons_succ, i64_w, i32_w]
                        rfl
                       refine pure_ (i := 2) (N := some 54) (v := ?_) (a' := ?_) #[true, true, true, false, false, false, false, false, false, false, false, false, false, false, false, false, false, false] rfl rfl (any_of HT_.out (by kernel_rfl)) (fun _ _ _ h => h) (Or.inl ⟨by rfl, ?_⟩) ?_ ?_
                       rotate_left
                       ·intro w'
                        go_simp
                        with_reducible rfl
                       rotate_left
                       ·simp only [Act.put, List.setIfInBounds_toArray, List.set_cons_zero, List.set_cons_succ, i64_w, i32_w]
                        rfl
                       refine pure_ (i := 3) (N := some 55) (v := ?_) (a' := ?_) #[true, true, true, true, false, false, false, false, false, false, false, false, false, false, false, false, false, false] rfl rfl (any_of HT_.out (by kernel_rfl)) (fun _ _ _ h => h) (Or.inl ⟨by rfl, ?_⟩) ?_ ?_
                       rotate_left
                       ·intro w'
                        go_simp
                        with_reducible rfl
                       rotate_left
                       ·simp only [Act.put, List.setIfInBounds_toArray, List.set_cons_zero, List.set_cons_succ, i64_w, i32_w]
                        rfl
                       refine pure_ (i := 4) (N := some 56) (v := ?_) (a' := ?_) #[true, true, true, true, true, false, false, false, false, false, false, false, false, false, false, false, false, false] rfl rfl (any_of HT_.out (by kernel_rfl)) (fun _ _ _ h => h) (Or.inl ⟨by rfl, ?_⟩) ?_ ?_
                       rotate_left
                       ·intro w'
                        go_simp
                        with_reducible rfl
                       rotate_left
                       ·simp only [Act.put, List.setIfInBounds_toArray, List.set_cons_zero, List.set_cons_succ, i64_w, i32_w]
                        rfl
                       refine pure_ (i := 5) (N := some 57) (v := ?_) (a' := ?_) #[true, true, true, true, true, true, false, false, false, false, false, false, false, false, false, false, false, false] rfl rfl (any_of HT_.out (by kernel_rfl)) (fun _ _ _ h => h) (Or.inl ⟨by rfl, ?_⟩) ?_ ?_
                       rotate_left
                       ·intro w'
                        go_simp
                        with_reducible rfl
                       rotate_left
                       ·simp only [Act.put, List.setIfInBounds_toArray, List.set_cons_zero, List.set_cons_succ, i64_w, i32_w]
                        rfl
                       refine pure_ (i := 6) (N := some 58) (v := ?_) (a' := ?_) #[true, true, true, true, true, true, true, false, false, false, false, false, false, false, false, false, false, false] rfl rfl (any_of HT_.out (by kernel_rfl)) (fun _ _ _ h => h) (Or.inl ⟨by rfl, ?_⟩) ?_ ?_
                       rotate_left
                       ·intro w'
                        go_simp
                        with_reducible rfl
                       rotate_left
                       ·simp only [Act.put, List.setIfInBounds_toArray, List.set_cons_zero, List.set_cons_succ, i64_w, i32_w]
                        rfl
                       refine pure_ (i := 7) (N := some 59) (v := ?_) (a' := ?_) #[true, true, true, true, true, true, true, true, false, false, false, false, false, false, false, false, false, false] rfl rfl (any_of HT_.out (by kernel_rfl)) (fun _ _ _ h => h) (Or.inl ⟨by rfl, ?_⟩) ?_ ?_
                       rotate_left
                       ·intro w'
                        go_simp
                        with_reducible rfl
                       rotate_left
                       ·simp only [Act.put, List.setIfInBounds_toArray, List.set_cons_zero, List.set_cons_succ, i64_w, i32_w]
                        rfl
                       refine pure_ (i := 8) (N := some 60) (v := ?_) (a' := ?_) #[true, true, true, true, true, true, true, true, true, false, false, false, false, false, false, false, false, false] rfl rfl (any_of HT_.out (by kernel_rfl)) (fun _ _ _ h => h) (Or.inl ⟨by rfl, ?_⟩) ?_ ?_
                       rotate_left
                       ·intro w'
                        go_simp
                        with_reducible rfl
                       rotate_left
                       ·simp only [Act.put, List.setIfInBounds_toArray, List.set_cons_zero, List.set_cons_succ, i64_w, i32_w]
                        rfl
                       refine pure_ (i := 10) (N := some 62) (v := ?_) (a' := ?_) #[true, true, true, true, true, true, true, true, true, false, true, false, false, false, false, false, false, false] rfl rfl (any_of HT_.out (by kernel_rfl)) (fun _ _ _ h => h) (Or.inl ⟨by rfl, ?_⟩) ?_ ?_
                       rotate_left
                       ·intro w'
                        go_simp
                        with_reducible rfl
                       rotate_left
                       ·simp only [Act.put, List.setIfInBounds_toArray, List.set_cons_zero, List.set_cons_succ, i64_w, i32_w]
                        rfl
                       refine pure_ (i := 11) (N := some 63) (v := ?_) (a' := ?_) #[true, true, true, true, true, true, true, true, true, false, true, true, false, false, false, false, false, false] rfl rfl (any_of HT_.out (by kernel_rfl)) (fun _ _ _ h => h) (Or.inl ⟨by rfl, ?_⟩) ?_ ?_
                       rotate_left
                       ·intro w'
                        go_simp
                        with_reducible rfl
                       rotate_left
                       ·simp only [Act.put, List.setIfInBounds_toArray, List.set_cons_zero, List.set_cons_succ, i64_w, i32_w]
                        rfl
                       refine pure_ (i := 12) (N := some 64) (v := ?_) (a' := ?_) #[true, true, true, true, true, true, true, true, true, false, true, true, true, false, false, false, false, false] rfl rfl (any_of HT_.out (by kernel_rfl)) (fun _ _ _ h => h) (Or.inl ⟨by rfl, ?_⟩) ?_ ?_
                       rotate_left
                       ·intro w'
                        go_simp
                        with_reducible rfl
                       rotate_left
                       ·simp only [Act.put, List.setIfInBounds_toArray, List.set_cons_zero, List.set_cons_succ, i64_w, i32_w]
                        rfl
                       refine pure_ (i := 13) (N := some 65) (v := ?_) (a' := ?_) #[true, true, true, true, true, true, true, true, true, false, true, true, true, true, false, false, false, false] rfl rfl (any_of HT_.out (by kernel_rfl)) (fun _ _ _ h => h) (Or.inl ⟨by rfl, ?_⟩) ?_ ?_
                       rotate_left
                       ·intro w'
                        go_simp
                        with_reducible rfl
                       rotate_left
                       ·simp only [Act.put, List.setIfInBounds_toArray, List.set_cons_zero, List.set_cons_succ, i64_w, i32_w]
                        rfl
                       refine pure_ (i := 14) (N := some 66) (v := ?_) (a' := ?_) #[true, true, true, true, true, true, true, true, true, false, true, true, true, true, true, false, false, false] rfl rfl (any_of HT_.out (by kernel_rfl)) (fun _ _ _ h => h) (Or.inl ⟨by rfl, ?_⟩) ?_ ?_
                       rotate_left
                       ·intro w'
                        go_simp
                        with_reducible rfl
                       rotate_left
                       ·simp only [Act.put, List.setIfInBounds_toArray, List.set_cons_zero, List.set_cons_succ, i64_w, i32_w]
                        rfl
                       refine pure_ (i := 15) (N := some 67) (v := ?_) (a' := ?_) #[true, true, true, true, true, true, true, true, true, false, true, true, true, true, true, true, false, false] rfl rfl (any_of HT_.out (by kernel_rfl)) (fun _ _ _ h => h) (Or.inl ⟨by rfl, ?_⟩) ?_ ?_
                       rotate_left
                       ·intro w'
                        go_simp
                        with_reducible rfl
                       rotate_left
                       ·simp only [Act.put, List.setIfInBounds_toArray, List.set_cons_zero, List.set_cons_succ, i64_w, i32_w]
                        rfl
                       refine one_ (i := 9) (N := some 61) #[true, true, true, true, true, true, true, true, true, true, true, true, true, true, true, true, false, false] rfl rfl (one_of HT_.out (by kernel_rfl)) (by decide) (fun K hK => ?_)
                       refine goes_ Tryz.func126 (by kernel_rfl) rfl #[.int .i32 (wrap32 (x7_6))] (by rfl) rfl rfl (by (try simp only [List.map_toArray, List.map_cons, List.map_nil]); first | done | rfl | (simp only [List.length_drop, List.length_take]; rfl)) ?_
                       with_reducible refine (dioramaref05_Char.calls k6 (wrap32 (x7_6)) t447 _ A22.out).mono ?_
                       rintro e w28 ⟨rfl, hb⟩
                       refine ⟨_, rfl, ?_⟩
                       have n0_ := Aside0.mk (below_step (by repeat (first | (with_reducible first | exact HB.out | apply below_alloc | apply pw_below_drewN | apply below_drew1) | exact HB.out)) hb)
                       clear HB
                       have HB := n0_
                       clear n0_
                       (try clear hb)
                       (try clear hb2)
                       (try clear hk)
                       (try clear hi)
                       refine hK.out _ _ trivial (fun hHeld => ?_)
                       clear hK K
                       refine norm_ (a' := ?_) ?_ ?_
                       rotate_left
                       ·show Act.put _ (some 61) _ = _
                        simp only [Act.put, List.setIfInBounds_toArray, List.set_cons_zero, List.set_cons_succ, i64_w, i32_w]
                        rfl
                       refine pure_ (i := 16) (N := some 68) (v := ?_) (a' := ?_) #[true, true, true, true, true, true, true, true, true, true, true, true, true, true, true, true, true, false] rfl rfl (any_of HT_.out (by kernel_rfl)) (fun _ _ _ h => h) (Or.inl ⟨by rfl, ?_⟩) ?_ ?_
                       rotate_left
                       ·intro w'
                        go_simp
                        with_reducible rfl
                       rotate_left
                       ·simp only [Act.put, List.setIfInBounds_toArray, List.set_cons_zero, List.set_cons_succ, i64_w, i32_w]
                        rfl
                       refine pure_ (i := 17) (N := some 69) (v := ?_) (a' := ?_) #[true, true, true, true, true, true, true, true, true, true, true, true, true, true, true, true, true, true] rfl rfl (any_of HT_.out (by kernel_rfl)) (fun _ _ _ h => h) (Or.inl ⟨by rfl, ?_⟩) ?_ ?_
                       rotate_left
                       ·intro w'
                        go_simp
                        with_reducible rfl
                       rotate_left
                       ·simp only [Act.put, List.setIfInBounds_toArray, List.set_cons_zero, List.set_cons_succ, i64_w, i32_w]
                        rfl
                       refine done_ (done_of HT_.out (by kernel_rfl)) ?_
                       try go_wp2
                       go_ret2
                       exact ⟨by first | rfl | (simp [errW_none, errW_some] <;> rfl) | (simp [*, errW_none, errW_some] <;> rfl), by repeat (first | (with_reducible first | exact HB.out | apply below_alloc | apply pw_below_drewN | apply below_drew1) | exact HB.out)⟩
                      ·rw [if_neg c26] at H
                       have c26b0 : (t447.toList == (a0.extract (a1 : Int).toNat ((wrap64 (a1 + x6_1)) : Int).toNat).toList) = false := beq_eq_false_iff_ne.mpr c26
                       have c26b1 : (t447.toList != (a0.extract (a1 : Int).toNat ((wrap64 (a1 + x6_1)) : Int).toNat).toList) = true := bne_iff_ne.mpr c26
                       have H' := Aside0.mk H
                       clear H
                       try go_wp2
                       have n0_ := Aside0.mk (below_drew1 HB.out)
                       clear HB
                       have HB := n0_
                       clear n0_
                       refine start_ (n := 18) (S := fun w' => True) (ds := []) #[false, false, false, false, false, false, false, false, false, false, false, false, false, false, false, false, false, false] (by kernel_rfl) rfl rfl trivial (fun hHeld => ?_); refine with_tabW dioramaref05_At.tab15 dioramaref05_At.bits15 (fun HT_ HW_ => ?_)
                       generalize wr.drew = w29 at HB hHeld ⊢
                       refine pure_ (i := 0) (N := some 52) (v := ?_) (a' := ?_) #[true, false, false, false, false, false, false, false, false, false, false, false, false, false, false, false, false, false] rfl rfl (any_of HT_.out (by kernel_rfl)) (fun _ _ _ h => h) (Or.inl ⟨by rfl, ?_⟩) ?_ ?_
                       rotate_left
                       ·intro w'
                        go_simp
                        with_reducible rfl
                       rotate_left
                       ·simp only [Act.put, List.setIfInBounds_toArray, List.set_cons_zero, List.set_cons_succ, i64_w, i32_w]
                        rfl
                       refine pure_ (i := 1) (N := some 53) (v := ?_) (a' := ?_) #[true, true, false, false, false, false, false, false, false, false, false, false, false, false, false, false, false, false] rfl rfl (any_of HT_.out (by kernel_rfl)) (fun _ _ _ h => h) (Or.inl ⟨by rfl, ?_⟩) ?_ ?_
                       rotate_left
                       ·intro w'
                        go_simp
                        with_reducible rfl
                       rotate_left
                       ·simp only [Act.put, List.setIfInBounds_toArray, List.set_cons_zero, List.set_cons_succ, i64_w, i32_w]
                        rfl
                       refine pure_ (i := 2) (N := some 54) (v := ?_) (a' := ?_) #[true, true, true, false, false, false, false, false, false, false, false, false, false, false, false, false, false, false] rfl rfl (any_of HT_.out (by kernel_rfl)) (fun _ _ _ h => h) (Or.inl ⟨by rfl, ?_⟩) ?_ ?_
                       rotate_left
                       ·intro w'
                        go_simp
                        with_reducible rfl
                       rotate_left
                       ·simp only [Act.put, List.setIfInBounds_toArray, List.set_cons_zero, List.set_cons_succ, i64_w, i32_w]
                        rfl
                       refine pure_ (i := 3) (N := some 55) (v := ?_) (a' := ?_) #[true, true, true, true, false, false, false, false, false, false, false, false, false, false, false, false, false, false] rfl rfl (any_of HT_.out (by kernel_rfl)) (fun _ _ _ h => h) (Or.inl ⟨by rfl, ?_⟩) ?_ ?_
                       rotate_left
                       ·intro w'
                        go_simp
                        with_reducible rfl
                       rotate_left
                       ·simp only [Act.put, List.setIfInBounds_toArray, List.set_cons_zero, List.set_cons_succ, i64_w, i32_w]
                        rfl
                       refine pure_ (i := 4) (N := some 56) (v := ?_) (a' := ?_) #[true, true, true, true, true, false, false, false, false, false, false, false, false, false, false, false, false, false] rfl rfl (any_of HT_.out (by kernel_rfl)) (fun _ _ _ h => h) (Or.inl ⟨by rfl, ?_⟩) ?_ ?_
                       rotate_left
                       ·intro w'
                        go_simp
                        with_reducible rfl
                       rotate_left
                       ·simp only [Act.put, List.setIfInBounds_toArray, List.set_cons_zero, List.set_cons_succ, i64_w, i32_w]
                        rfl
                       refine pure_ (i := 5) (N := some 57) (v := ?_) (a' := ?_) #[true, true, true, true, true, true, false, false, false, false, false, false, false, false, false, false, false, false] rfl rfl (any_of HT_.out (by kernel_rfl)) (fun _ _ _ h => h) (Or.inl ⟨by rfl, ?_⟩) ?_ ?_
                       rotate_left
                       ·intro w'
                        go_simp
                        with_reducible rfl
                       rotate_left
                       ·simp only [Act.put, List.setIfInBounds_toArray, List.set_cons_zero, List.set_cons_succ, i64_w, i32_w]
                        rfl
                       refine pure_ (i := 6) (N := some 58) (v := ?_) (a' := ?_) #[true, true, true, true, true, true, true, false, false, false, false, false, false, false, false, false, false, false] rfl rfl (any_of HT_.out (by kernel_rfl)) (fun _ _ _ h => h) (Or.inl ⟨by rfl, ?_⟩) ?_ ?_
                       rotate_left
                       ·intro w'
                        go_simp
                        with_reducible rfl
                       rotate_left
                       ·simp only [Act.put, List.setIfInBounds_toArray, List.set_cons_zero, List.set_cons_succ, i64_w, i32_w]
                        rfl
                       refine pure_ (i := 7) (N := some 59) (v := ?_) (a' := ?_) #[true, true, true, true, true, true, true, true, false, false, false, false, false, false, false, false, false, false] rfl rfl (any_of HT_.out (by kernel_rfl)) (fun _ _ _ h => h) (Or.inl ⟨by rfl, ?_⟩) ?_ ?_
                       rotate_left
                       ·intro w'
                        go_simp
                        with_reducible rfl
                       rotate_left
                       ·simp only [Act.put, List.setIfInBounds_toArray, List.set_cons_zero, List.set_cons_succ, i64_w, i32_w]
                        rfl
                       refine pure_ (i := 8) (N := some 60) (v := ?_) (a' := ?_) #[true, true, true, true, true, true, true, true, true, false, false, false, false, false, false, false, false, false] rfl rfl (any_of HT_.out (by kernel_rfl)) (fun _ _ _ h => h) (Or.inl ⟨by rfl, ?_⟩) ?_ ?_
                       rotate_left
                       ·intro w'
                        go_simp
                        with_reducible rfl
                       rotate_left
                       ·simp only [Act.put, List.setIfInBounds_toArray, List.set_cons_zero, List.set_cons_succ, i64_w, i32_w]
                        rfl
                       refine pure_ (i := 10) (N := some 62) (v := ?_) (a' := ?_) #[true, true, true, true, true, true, true, true, true, false, true, false, false, false, false, false, false, false] rfl rfl (any_of HT_.out (by kernel_rfl)) (fun _ _ _ h => h) (Or.inl ⟨by rfl, ?_⟩) ?_ ?_
                       rotate_left
                       ·intro w'
                        go_simp
                        with_reducible rfl
                       rotate_left
                       ·simp only [Act.put, List.setIfInBounds_toArray, List.set_cons_zero, List.set_cons_succ, i64_w, i32_w]
                        rfl
                       refine pure_ (i := 11) (N := some 63) (v := ?_) (a' := ?_) #[true, true, true, true, true, true, true, true, true, false, true, true, false, false, false, false, false, false] rfl rfl (any_of HT_.out (by kernel_rfl)) (fun _ _ _ h => h) (Or.inl ⟨by rfl, ?_⟩) ?_ ?_
                       rotate_left
                       ·intro w'
                        go_simp
                        with_reducible rfl
                       rotate_left
                       ·simp only [Act.put, List.setIfInBounds_toArray, List.set_cons_zero, List.set_cons_succ, i64_w, i32_w]
                        rfl
                       refine pure_ (i := 12) (N := some 64) (v := ?_) (a' := ?_) #[true, true, true, true, true, true, true, true, true, false, true, true, true, false, false, false, false, false] rfl rfl (any_of HT_.out (by kernel_rfl)) (fun _ _ _ h => h) (Or.inl ⟨by rfl, ?_⟩) ?_ ?_
                       rotate_left
                       ·intro w'
                        go_simp
                        with_reducible rfl
                       rotate_left
                       ·simp only [Act.put, List.setIfInBounds_toArray, List.set_cons_zero, List.set_cons_succ, i64_w, i32_w]
                        rfl
                       refine pure_ (i := 13) (N := some 65) (v := ?_) (a' := ?_) #[true, true, true, true, true, true, true, true, true, false, true, true, true, true, false, false, false, false] rfl rfl (any_of HT_.out (by kernel_rfl)) (fun _ _ _ h => h) (Or.inl ⟨by rfl, ?_⟩) ?_ ?_
                       rotate_left
                       ·intro w'
                        go_simp
                        with_reducible rfl
                       rotate_left
                       ·simp only [Act.put, List.setIfInBounds_toArray, List.set_cons_zero, List.set_cons_succ, i64_w, i32_w]
                        rfl
                       refine pure_ (i := 14) (N := some 66) (v := ?_) (a' := ?_) #[true, true, true, true, true, true, true, true, true, false, true, true, true, true, true, false, false, false] rfl rfl (any_of HT_.out (by kernel_rfl)) (fun _ _ _ h => h) (Or.inl ⟨by rfl, ?_⟩) ?_ ?_
                       rotate_left
                       ·intro w'
                        go_simp
                        with_reducible rfl
                       rotate_left
                       ·simp only [Act.put, List.setIfInBounds_toArray, List.set_cons_zero, List.set_cons_succ, i64_w, i32_w]
                        rfl
                       refine pure_ (i := 15) (N := some 67) (v := ?_) (a' := ?_) #[true, true, true, true, true, true, true, true, true, false, true, true, true, true, true, true, false, false] rfl rfl (any_of HT_.out (by kernel_rfl)) (fun _ _ _ h => h) (Or.inl ⟨by rfl, ?_⟩) ?_ ?_
                       rotate_left
                       ·intro w'
                        go_simp
                        with_reducible rfl
                       rotate_left
                       ·simp only [Act.put, List.setIfInBounds_toArray, List.set_cons_zero, List.set_cons_succ, i64_w, i32_w]
                        rfl
                       refine one_ (i := 9) (N := some 61) #[true, true, true, true, true, true, true, true, true, true, true, true, true, true, true, true, false, false] rfl rfl (one_of HT_.out (by kernel_rfl)) (by decide) (fun K hK => ?_)
                       refine goes_ Tryz.func126 (by kernel_rfl) rfl #[.int .i32 (wrap32 (x7_6))] (by rfl) rfl rfl (by (try simp only [List.map_toArray, List.map_cons, List.map_nil]); first | done | rfl | (simp only [List.length_drop, List.length_take]; rfl)) ?_
                       with_reducible refine (dioramaref05_Char.calls k6 (wrap32 (x7_6)) t447 _ A22.out).mono ?_
                       rintro e w30 ⟨rfl, hb⟩
                       refine ⟨_, rfl, ?_⟩
                       have n0_ := Aside0.mk (below_step (by repeat (first | (with_reducible first | exact HB.out | apply below_alloc | apply pw_below_drewN | apply below_drew1) | exact HB.out)) hb)
                       clear HB
                       have HB := n0_
                       clear n0_
                       (try clear hb)
                       (try clear hb2)
                       (try clear hk)
                       (try clear hi)
                       refine hK.out _ _ trivial (fun hHeld => ?_)
                       clear hK K
                       refine norm_ (a' := ?_) ?_ ?_
                       rotate_left
                       ·show Act.put _ (some 61) _ = _
                        simp only [Act.put, List.setIfInBounds_toArray, List.set_cons_zero, List.set_cons_succ, i64_w, i32_w]
                        rfl
                       refine pure_ (i := 16) (N := some 68) (v := ?_) (a' := ?_) #[true, true, true, true, true, true, true, true, true, true, true, true, true, true, true, true, true, false] rfl rfl (any_of HT_.out (by kernel_rfl)) (fun _ _ _ h => h) (Or.inl ⟨by rfl, ?_⟩) ?_ ?_
                       rotate_left
                       ·intro w'
                        go_simp
                        with_reducible rfl
                       rotate_left
                       ·simp only [Act.put, List.setIfInBounds_toArray, List.set_cons_zero, List.set_cons_succ, i64_w, i32_w]
                        rfl
                       refine pure_ (i := 17) (N := some 69) (v := ?_) (a' := ?_) #[true, true, true, true, true, true, true, true, true, true, true, true, true, true, true, true, true, true] rfl rfl (any_of HT_.out (by kernel_rfl)) (fun _ _ _ h => h) (Or.inl ⟨by rfl, ?_⟩) ?_ ?_
                       rotate_left
                       ·intro w'
                        go_simp
                        with_reducible rfl
                       rotate_left
                       ·simp only [Act.put, List.setIfInBounds_toArray, List.set_cons_zero, List.set_cons_succ, i64_w, i32_w]
                        rfl
                       refine done_ (done_of HT_.out (by kernel_rfl)) ?_
                       try go_wp2
                       go_roundg k6
                       case measure => have := HK1.out; have := HJ2.out; have := HJ8.out; have := HJ10.out; have := HJ12.out; have := HK6.out; omega
                       case rel => exact ⟨(wrap64 (x6_1 + 1)), (by first | rfl | (simp; done) | (simp [*]; done)), H', ⟨by have := HK1.out; have := HJ2.out; have := HJ8.out; have := HJ10.out; have := HJ12.out; have := HK6.out; omega⟩, ⟨by repeat (first | (with_reducible first | exact HB.out | apply below_alloc | apply pw_below_drewN | apply below_drew1) | exact HB.out)⟩⟩
                     ·rw [if_neg c25] at H
                      exact absurd H (by simp)
                    ·rw [if_neg c24] at H
                     exact absurd H (by simp)
                   ·rw [if_neg c23] at H
                    exact absurd H (by simp)
                  ·rw [if_neg c21] at H
                   have c21b0 : decide (x7_6 ≤ 1114111) = false := decide_eq_false c21
                   clear c21
                   have H' := Aside0.mk H
                   clear H
                   try go_wp2
                   have n0_ := Aside0.mk (below_drew1 HB.out)
                   clear HB
                   have HB := n0_
                   clear n0_
                   refine start_ (n := 18) (S := fun w' => True) (ds := []) #[false, false, false, false, false, false, false, false, false, false, false, false, false, false, false, false, false, false] (by kernel_rfl) rfl rfl trivial (fun hHeld => ?_); refine with_tabW dioramaref05_At.tab15 dioramaref05_At.bits15 (fun HT_ HW_ => ?_)
                   generalize wr.drew = w31 at HB hHeld ⊢
                   refine pure_ (i := 0) (N := some 52) (v := ?_) (a' := ?_) #[true, false, false, false, false, false, false, false, false, false, false, false, false, false, false, false, false, false] rfl rfl (any_of HT_.out (by kernel_rfl)) (fun _ _ _ h => h) (Or.inl ⟨by rfl, ?_⟩) ?_ ?_
                   rotate_left
                   ·intro w'
                    go_simp
                    with_reducible rfl
                   rotate_left
                   ·simp only [Act.put, List.setIfInBounds_toArray, List.set_cons_zero, List.set_cons_succ, i64_w, i32_w]
                    rfl
                   refine pure_ (i := 1) (N := some 53) (v := ?_) (a' := ?_) #[true, true, false, false, false, false, false, false, false, false, false, false, false, false, false, false, false, false] rfl rfl (any_of HT_.out (by kernel_rfl)) (fun _ _ _ h => h) (Or.inl ⟨by rfl, ?_⟩) ?_ ?_
                   rotate_left
                   ·intro w'
                    go_simp
                    with_reducible rfl
                   rotate_left
                   ·simp only [Act.put, List.setIfInBounds_toArray, List.set_cons_zero, List.set_cons_succ, i64_w, i32_w]
                    rfl
                   refine pure_ (i := 2) (N := some 54) (v := ?_) (a' := ?_) #[true, true, true, false, false, false, false, false, false, false, false, false, false, false, false, false, false, false] rfl rfl (any_of HT_.out (by kernel_rfl)) (fun _ _ _ h => h) (Or.inl ⟨by rfl, ?_⟩) ?_ ?_
                   rotate_left
                   ·intro w'
                    go_simp
                    with_reducible rfl
                   rotate_left
                   ·simp only [Act.put, List.setIfInBounds_toArray, List.set_cons_zero, List.set_cons_succ, i64_w, i32_w]
                    rfl
                   refine pure_ (i := 3) (N := some 55) (v := ?_) (a' := ?_) #[true, true, true, true, false, false, false, false, false, false, false, false, false, false, false, false, false, false] rfl rfl (any_of HT_.out (by kernel_rfl)) (fun _ _ _ h => h) (Or.inl ⟨by rfl, ?_⟩) ?_ ?_
                   rotate_left
                   ·intro w'
                    go_simp
                    with_reducible rfl
                   rotate_left
                   ·simp only [Act.put, List.setIfInBounds_toArray, List.set_cons_zero, List.set_cons_succ, i64_w, i32_w]
                    rfl
                   refine pure_ (i := 4) (N := some 56) (v := ?_) (a' := ?_) #[true, true, true, true, true, false, false, false, false, false, false, false, false, false, false, false, false, false] rfl rfl (any_of HT_.out (by kernel_rfl)) (fun _ _ _ h => h) (Or.inl ⟨by rfl, ?_⟩) ?_ ?_
                   rotate_left
                   ·intro w'
                    go_simp
                    with_reducible rfl
                   rotate_left
                   ·simp only [Act.put, List.setIfInBounds_toArray, List.set_cons_zero, List.set_cons_succ, i64_w, i32_w]
                    rfl
                   refine pure_ (i := 5) (N := some 57) (v := ?_) (a' := ?_) #[true, true, true, true, true, true, false, false, false, false, false, false, false, false, false, false, false, false] rfl rfl (any_of HT_.out (by kernel_rfl)) (fun _ _ _ h => h) (Or.inl ⟨by rfl, ?_⟩) ?_ ?_
                   rotate_left
                   ·intro w'
                    go_simp
                    with_reducible rfl
                   rotate_left
                   ·simp only [Act.put, List.setIfInBounds_toArray, List.set_cons_zero, List.set_cons_succ, i64_w, i32_w]
                    rfl
                   refine pure_ (i := 6) (N := some 58) (v := ?_) (a' := ?_) #[true, true, true, true, true, true, true, false, false, false, false, false, false, false, false, false, false, false] rfl rfl (any_of HT_.out (by kernel_rfl)) (fun _ _ _ h => h) (Or.inl ⟨by rfl, ?_⟩) ?_ ?_
                   rotate_left
                   ·intro w'
                    go_simp
                    with_reducible rfl
                   rotate_left
                   ·simp only [Act.put, List.setIfInBounds_toArray, List.set_cons_zero, List.set_cons_succ, i64_w, i32_w]
                    rfl
                   refine pure_ (i := 7) (N := some 59) (v := undef) (a' := ?_) #[true, true, true, true, true, true, true, true, false, false, false, false, false, false, false, false, false, false] rfl rfl (any_of HT_.out (by kernel_rfl)) (fun _ _ _ h => h) (Or.inr ⟨by rfl, rfl⟩) ?_ ?_
                   rotate_left
                   ·simp only [Act.put, List.setIfInBounds_toArray, List.set_cons_zero, List.set_cons_succ, i64_w, i32_w]
                    rfl
                   refine pure_ (i := 8) (N := some 60) (v := undef) (a' := ?_) #[true, true, true, true, true, true, true, true, true, false, false, false, false, false, false, false, false, false] rfl rfl (any_of HT_.out (by kernel_rfl)) (fun _ _ _ h => h) (Or.inr ⟨by rfl, rfl⟩) ?_ ?_
                   rotate_left
                   ·simp only [Act.put, List.setIfInBounds_toArray, List.set_cons_zero, List.set_cons_succ, i64_w, i32_w]
                    rfl
                   refine pure_ (i := 9) (N := some 61) (v := undef) (a' := ?_) #[true, true, true, true, true, true, true, true, true, true, false, false, false, false, false, false, false, false] rfl rfl (any_of HT_.out (by kernel_rfl)) (fun _ _ _ h => h) (Or.inr ⟨by rfl, rfl⟩) ?_ ?_
                   rotate_left
                   ·simp only [Act.put, List.setIfInBounds_toArray, List.set_cons_zero, List.set_cons_succ, i64_w, i32_w]
                    rfl
                   refine pure_ (i := 10) (N := some 62) (v := undef) (a' := ?_) #[true, true, true, true, true, true, true, true, true, true, true, false, false, false, false, false, false, false] rfl rfl (any_of HT_.out (by kernel_rfl)) (fun _ _ _ h => h) (Or.inr ⟨by rfl, rfl⟩) ?_ ?_
                   rotate_left
                   ·simp only [Act.put, List.setIfInBounds_toArray, List.set_cons_zero, List.set_cons_succ, i64_w, i32_w]
                    rfl
                   refine pure_ (i := 11) (N := some 63) (v := undef) (a' := ?_) #[true, true, true, true, true, true, true, true, true, true, true, true, false, false, false, false, false, false] rfl rfl (any_of HT_.out (by kernel_rfl)) (fun _ _ _ h => h) (Or.inr ⟨by rfl, rfl⟩) ?_ ?_
                   rotate_left
                   ·simp only [Act.put, List.setIfInBounds_toArray, List.set_cons_zero, List.set_cons_succ, i64_w, i32_w]
                    rfl
                   refine pure_ (i := 12) (N := some 64) (v := undef) (a' := ?_) #[true, true, true, true, true, true, true, true, true, true, true, true, true, false, false, false, false, false] rfl rfl (any_of HT_.out (by kernel_rfl)) (fun _ _ _ h => h) (Or.inr ⟨by rfl, rfl⟩) ?_ ?_
                   rotate_left
                   ·simp only [Act.put, List.setIfInBounds_toArray, List.set_cons_zero, List.set_cons_succ, i64_w, i32_w]
                    rfl
                   refine pure_ (i := 13) (N := some 65) (v := undef) (a' := ?_) #[true, true, true, true, true, true, true, true, true, true, true, true, true, true, false, false, false, false] rfl rfl (any_of HT_.out (by kernel_rfl)) (fun _ _ _ h => h) (Or.inr ⟨by rfl, rfl⟩) ?_ ?_
                   rotate_left
                   ·simp only [Act.put, List.setIfInBounds_toArray, List.set_cons_zero, List.set_cons_succ, i64_w, i32_w]
                    rfl
                   refine pure_ (i := 14) (N := some 66) (v := undef) (a' := ?_) #[true, true, true, true, true, true, true, true, true, true, true, true, true, true, true, false, false, false] rfl rfl (any_of HT_.out (by kernel_rfl)) (fun _ _ _ h => h) (Or.inr ⟨by rfl, rfl⟩) ?_ ?_
                   rotate_left
                   ·simp only [Act.put, List.setIfInBounds_toArray, List.set_cons_zero, List.set_cons_succ, i64_w, i32_w]
                    rfl
                   refine pure_ (i := 15) (N := some 67) (v := undef) (a' := ?_) #[true, true, true, true, true, true, true, true, true, true, true, true, true, true, true, true, false, false] rfl rfl (any_of HT_.out (by kernel_rfl)) (fun _ _ _ h => h) (Or.inr ⟨by rfl, rfl⟩) ?_ ?_
                   rotate_left
                   ·simp only [Act.put, List.setIfInBounds_toArray, List.set_cons_zero, List.set_cons_succ, i64_w, i32_w]
                    rfl
                   refine pure_ (i := 16) (N := some 68) (v := undef) (a' := ?_) #[true, true, true, true, true, true, true, true, true, true, true, true, true, true, true, true, true, false] rfl rfl (any_of HT_.out (by kernel_rfl)) (fun _ _ _ h => h) (Or.inr ⟨by rfl, rfl⟩) ?_ ?_
                   rotate_left
                   ·simp only [Act.put, List.setIfInBounds_toArray, List.set_cons_zero, List.set_cons_succ, i64_w, i32_w]
                    rfl
                   refine pure_ (i := 17) (N := some 69) (v := ?_) (a' := ?_) #[true, true, true, true, true, true, true, true, true, true, true, true, true, true, true, true, true, true] rfl rfl (any_of HT_.out (by kernel_rfl)) (fun _ _ _ h => h) (Or.inl ⟨by rfl, ?_⟩) ?_ ?_
                   rotate_left
                   ·intro w'
                    go_simp
                    with_reducible rfl
                   rotate_left
                   ·simp only [Act.put, List.setIfInBounds_toArray, List.set_cons_zero, List.set_cons_succ, i64_w, i32_w]
                    rfl
                   refine done_ (done_of HT_.out (by kernel_rfl)) ?_
                   try go_wp2
                   go_roundg k6
                   case measure => have := HK1.out; have := HJ2.out; have := HJ8.out; have := HJ10.out; have := HJ12.out; have := HK6.out; omega
                   case rel => exact ⟨(wrap64 (x6_1 + 1)), (by first | rfl | (simp; done) | (simp [*]; done)), H', ⟨by have := HK1.out; have := HJ2.out; have := HJ8.out; have := HJ10.out; have := HJ12.out; have := HK6.out; omega⟩, ⟨by repeat (first | (with_reducible first | exact HB.out | apply below_alloc | apply pw_below_drewN | apply below_drew1) | exact HB.out)⟩⟩
                 ·rw [if_neg c20] at H
                  have c20b0 : decide (0 ≤ x7_6) = false := decide_eq_false c20
                  clear c20
                  have H' := Aside0.mk H
                  clear H
                  try go_wp2
                  have n0_ := Aside0.mk (below_drew1 HB.out)
                  clear HB
                  have HB := n0_
                  clear n0_
                  refine start_ (n := 18) (S := fun w' => True) (ds := []) #[false, false, false, false, false, false, false, false, false, false, false, false, false, false, false, false, false, false] (by kernel_rfl) rfl rfl trivial (fun hHeld => ?_); refine with_tabW dioramaref05_At.tab15 dioramaref05_At.bits15 (fun HT_ HW_ => ?_)
                  generalize wr.drew = w32 at HB hHeld ⊢
                  refine pure_ (i := 0) (N := some 52) (v := ?_) (a' := ?_) #[true, false, false, false, false, false, false, false, false, false, false, false, false, false, false, false, false, false] rfl rfl (any_of HT_.out (by kernel_rfl)) (fun _ _ _ h => h) (Or.inl ⟨by rfl, ?_⟩) ?_ ?_
                  rotate_left
                  ·intro w'
                   go_simp
                   with_reducible rfl
                  rotate_left
                  ·simp only [Act.put, List.setIfInBounds_toArray, List.set_cons_zero, List.set_cons_succ, i64_w, i32_w]
                   rfl
                  refine pure_ (i := 1) (N := some 53) (v := ?_) (a' := ?_) #[true, true, false, false, false, false, false, false, false, false, false, false, false, false, false, false, false, false] rfl rfl (any_of HT_.out (by kernel_rfl)) (fun _ _ _ h => h) (Or.inl ⟨by rfl, ?_⟩) ?_ ?_
                  rotate_left
                  ·intro w'
                   go_simp
                   with_reducible rfl
                  rotate_left
                  ·simp only [Act.put, List.setIfInBounds_toArray, List.set_cons_zero, List.set_cons_succ, i64_w, i32_w]
                   rfl
                  refine pure_ (i := 2) (N := some 54) (v := ?_) (a' := ?_) #[true, true, true, false, false, false, false, false, false, false, false, false, false, false, false, false, false, false] rfl rfl (any_of HT_.out (by kernel_rfl)) (fun _ _ _ h => h) (Or.inl ⟨by rfl, ?_⟩) ?_ ?_
                  rotate_left
                  ·intro w'
                   go_simp
                   with_reducible rfl
                  rotate_left
                  ·simp only [Act.put, List.setIfInBounds_toArray, List.set_cons_zero, List.set_cons_succ, i64_w, i32_w]
                   rfl
                  refine pure_ (i := 3) (N := some 55) (v := undef) (a' := ?_) #[true, true, true, true, false, false, false, false, false, false, false, false, false, false, false, false, false, false] rfl rfl (any_of HT_.out (by kernel_rfl)) (fun _ _ _ h => h) (Or.inr ⟨by rfl, rfl⟩) ?_ ?_
                  rotate_left
                  ·simp only [Act.put, List.setIfInBounds_toArray, List.set_cons_zero, List.set_cons_succ, i64_w, i32_w]
                   rfl
                  refine pure_ (i := 4) (N := some 56) (v := undef) (a' := ?_) #[true, true, true, true, true, false, false, false, false, false, false, false, false, false, false, false, false, false] rfl rfl (any_of HT_.out (by kernel_rfl)) (fun _ _ _ h => h) (Or.inr ⟨by rfl, rfl⟩) ?_ ?_
                  rotate_left
                  ·simp only [Act.put, List.setIfInBounds_toArray, List.set_cons_zero, List.set_cons_succ, i64_w, i32_w]
                   rfl
                  refine pure_ (i := 5) (N := some 57) (v := ?_) (a' := ?_) #[true, true, true, true, true, true, false, false, false, false, false, false, false, false, false, false, false, false] rfl rfl (any_of HT_.out (by kernel_rfl)) (fun _ _ _ h => h) (Or.inl ⟨by rfl, ?_⟩) ?_ ?_
                  rotate_left
                  ·intro w'
                   go_simp
                   with_reducible rfl
                  rotate_left
                  ·simp only [Act.put, List.setIfInBounds_toArray, List.set_cons_zero, List.set_cons_succ, i64_w, i32_w]
                   rfl
                  refine pure_ (i := 6) (N := some 58) (v := ?_) (a' := ?_) #[true, true, true, true, true, true, true, false, false, false, false, false, false, false, false, false, false, false] rfl rfl (any_of HT_.out (by kernel_rfl)) (fun _ _ _ h => h) (Or.inl ⟨by rfl, ?_⟩) ?_ ?_
                  rotate_left
                  ·intro w'
                   go_simp
                   with_reducible rfl
                  rotate_left
                  ·simp only [Act.put, List.setIfInBounds_toArray, List.set_cons_zero, List.set_cons_succ, i64_w, i32_w]
                   rfl
                  refine pure_ (i := 7) (N := some 59) (v := undef) (a' := ?_) #[true, true, true, true, true, true, true, true, false, false, false, false, false, false, false, false, false, false] rfl rfl (any_of HT_.out (by kernel_rfl)) (fun _ _ _ h => h) (Or.inr ⟨by rfl, rfl⟩) ?_ ?_
                  rotate_left
                  ·simp only [Act.put, List.setIfInBounds_toArray, List.set_cons_zero, List.set_cons_succ, i64_w, i32_w]
                   rfl
                  refine pure_ (i := 8) (N := some 60) (v := undef) (a' := ?_) #[true, true, true, true, true, true, true, true, true, false, false, false, false, false, false, false, false, false] rfl rfl (any_of HT_.out (by kernel_rfl)) (fun _ _ _ h => h) (Or.inr ⟨by rfl, rfl⟩) ?_ ?_
                  rotate_left
                  ·simp only [Act.put, List.setIfInBounds_toArray, List.set_cons_zero, List.set_cons_succ, i64_w, i32_w]
                   rfl
                  refine pure_ (i := 9) (N := some 61) (v := undef) (a' := ?_) #[true, true, true, true, true, true, true, true, true, true, false, false, false, false, false, false, false, false] rfl rfl (any_of HT_.out (by kernel_rfl)) (fun _ _ _ h => h) (Or.inr ⟨by rfl, rfl⟩) ?_ ?_
                  rotate_left
                  ·simp only [Act.put, List.setIfInBounds_toArray, List.set_cons_zero, List.set_cons_succ, i64_w, i32_w]
                   rfl
                  refine pure_ (i := 10) (N := some 62) (v := undef) (a' := ?_) #[true, true, true, true, true, true, true, true, true, true, true, false, false, false, false, false, false, false] rfl rfl (any_of HT_.out (by kernel_rfl)) (fun _ _ _ h => h) (Or.inr ⟨by rfl, rfl⟩) ?_ ?_
                  rotate_left
                  ·simp only [Act.put, List.setIfInBounds_toArray, List.set_cons_zero, List.set_cons_succ, i64_w, i32_w]
                   rfl
                  refine pure_ (i := 11) (N := some 63) (v := undef) (a' := ?_) #[true, true, true, true, true, true, true, true, true, true, true, true, false, false, false, false, false, false] rfl rfl (any_of HT_.out (by kernel_rfl)) (fun _ _ _ h => h) (Or.inr ⟨by rfl, rfl⟩) ?_ ?_
                  rotate_left
                  ·simp only [Act.put, List.setIfInBounds_toArray, List.set_cons_zero, List.set_cons_succ, i64_w, i32_w]
                   rfl
                  refine pure_ (i := 12) (N := some 64) (v := undef) (a' := ?_) #[true, true, true, true, true, true, true, true, true, true, true, true, true, false, false, false, false, false] rfl rfl (any_of HT_.out (by kernel_rfl)) (fun _ _ _ h => h) (Or.inr ⟨by rfl, rfl⟩) ?_ ?_
                  rotate_left
                  ·simp only [Act.put, List.setIfInBounds_toArray, List.set_cons_zero, List.set_cons_succ, i64_w, i32_w]
                   rfl
                  refine pure_ (i := 13) (N := some 65) (v := undef) (a' := ?_) #[true, true, true, true, true, true, true, true, true, true, true, true, true, true, false, false, false, false] rfl rfl (any_of HT_.out (by kernel_rfl)) (fun _ _ _ h => h) (Or.inr ⟨by rfl, rfl⟩) ?_ ?_
                  rotate_left
                  ·simp only [Act.put, List.setIfInBounds_toArray, List.set_cons_zero, List.set_cons_succ, i64_w, i32_w]
                   rfl
                  refine pure_ (i := 14) (N := some 66) (v := undef) (a' := ?_) #[true, true, true, true, true, true, true, true, true, true, true, true, true, true, true, false, false, false] rfl rfl (any_of HT_.out (by kernel_rfl)) (fun _ _ _ h => h) (Or.inr ⟨by rfl, rfl⟩) ?_ ?_
                  rotate_left
                  ·simp only [Act.put, List.setIfInBounds_toArray, List.set_cons_zero, List.set_cons_succ, i64_w, i32_w]
                   rfl
                  refine pure_ (i := 15) (N := some 67) (v := undef) (a' := ?_) #[true, true, true, true, true, true, true, true, true, true, true, true, true, true, true, true, false, false] rfl rfl (any_of HT_.out (by kernel_rfl)) (fun _ _ _ h => h) (Or.inr ⟨by rfl, rfl⟩) ?_ ?_
                  rotate_left
                  ·simp only [Act.put, List.setIfInBounds_toArray, List.set_cons_zero, List.set_cons_succ, i64_w, i32_w]
                   rfl
                  refine pure_ (i := 16) (N := some 68) (v := undef) (a' := ?_) #[true, true, true, true, true, true, true, true, true, true, true, true, true, true, true, true, true, false] rfl rfl (any_of HT_.out (by kernel_rfl)) (fun _ _ _ h => h) (Or.inr ⟨by rfl, rfl⟩) ?_ ?_
                  rotate_left
                  ·simp only [Act.put, List.setIfInBounds_toArray, List.set_cons_zero, List.set_cons_succ, i64_w, i32_w]
                   rfl
                  refine pure_ (i := 17) (N := some 69) (v := ?_) (a' := ?_) #[true, true, true, true, true, true, true, true, true, true, true, true, true, true, true, true, true, true] rfl rfl (any_of HT_.out (by kernel_rfl)) (fun _ _ _ h => h) (Or.inl ⟨by rfl, ?_⟩) ?_ ?_
                  rotate_left
                  ·intro w'
                   go_simp
                   with_reducible rfl
                  rotate_left
                  ·simp only [Act.put, List.setIfInBounds_toArray, List.set_cons_zero, List.set_cons_succ, i64_w, i32_w]
                   rfl
                  refine done_ (done_of HT_.out (by kernel_rfl)) ?_
                  try go_wp2
                  go_roundg k6
                  case measure => have := HK1.out; have := HJ2.out; have := HJ8.out; have := HJ10.out; have := HJ12.out; have := HK6.out; omega
                  case rel => exact ⟨(wrap64 (x6_1 + 1)), (by first | rfl | (simp; done) | (simp [*]; done)), H', ⟨by have := HK1.out; have := HJ2.out; have := HJ8.out; have := HJ10.out; have := HJ12.out; have := HK6.out; omega⟩, ⟨by repeat (first | (with_reducible first | exact HB.out | apply below_alloc | apply pw_below_drewN | apply below_drew1) | exact HB.out)⟩⟩
       ·rw [if_neg c7] at H
        exact absurd H (by simp)
      ·rw [if_neg c6] at H
       exact absurd H (by simp)
     ·replace c5 := Bool.eq_false_iff.mpr c5
      subst c5
      have H1 : (some (0, 0)) = some (r1, r2) := by rw [if_neg (show ¬ (false = true) by decide)] at H; exact H
      clear H
      have H := H1
      clear H1
      simp only [Option.some.injEq, Prod.mk.injEq] at H
      obtain ⟨rfl, rfl⟩ := H
      go_wp2
      go_ret2
      exact ⟨by first | rfl | (simp [errW_none, errW_some] <;> rfl) | (simp [*, errW_none, errW_some] <;> rfl), by repeat (first | (with_reducible first | exact HB.out | apply below_alloc | apply pw_below_drewN | apply below_drew1) | exact HB.out)⟩

end Go.Proofs.YtggldnbhmebcpaaGreatDoor.PDeltaMakes
end
section
-- PRINTED BY print.sh 35421559b90ae4d0a3588c463048766b98c2df88dd9212a6774a882060cdf62d: not written by this session
namespace Go.Proofs.YtggldnbhmebcpaaGreatDoor.PDeltaMakes
open Go.RowKit Go.Proofs.YtggldnbhmebcpaaGreatDoorW.PrintWords Go.Proofs.YtggldnbhmebcpaaGreatDoorW.PrintLast Go.Proofs.YtggldnbhmebcpaaGreatDoorW.PrintMore
attribute [local go_sem] max2_int min2_int max_two min_two max_three min_three max_four min_four   -- for this text's walks alone
set_option linter.unusedVariables false
set_option linter.unusedSimpArgs false
def dioramaref05_Read.l0 : Nat → ByteArray → List Int → Int → Option (List Int × Int)
 | 0, _, _, _ => none
 | k + 1, x0, x4, x5 => if x5 < (x0.size : Int) then ((dioramaref05_At.f k x0 x5).bind fun bt451 => (if bt451.2 = 0 then (some (x4, x5)) else (if x4.length < 35184372088832 then (dioramaref05_Read.l0 k x0 (x4 ++ [bt451.1]) (wrap64 (x5 + bt451.2))) else (none)))) else (some (x4, x5))
def dioramaref05_Read.f (k : Nat) (a0 : ByteArray) : Option (List Int × Int) := dioramaref05_Read.l0 k a0 (([] : List Int)) 0
set_option maxHeartbeats 8000000 in
set_option maxRecDepth 100000 in
theorem dioramaref05_Read.calls (k : Nat) (a0 : ByteArray) (r1 : List Int) (r2 : Int) (w : World) (h : dioramaref05_Read.f k a0 = some (r1, r2)) :
  Calls Tryz.prog 99 #[.string a0] w fun e w' => ∃ v0_ : Value, e = .returned (.tuple #[v0_, .int .i64 r2]) ∧ Kd.R (Kd.int .i32) 21 w' w.heap.size (fun _ => True) v0_ r1 ∧ Below w.heap.size w w' := by
 have HB := Aside0.mk (Below.refl w.heap.size w)
 have H : (dioramaref05_Read.l0 k a0 (([] : List Int)) 0) = some (r1, r2) := h
 clear h
 obtain ⟨y448, hy448⟩ : ∃ y_ : List Int, y_ = (([] : List Int)) := ⟨_, rfl⟩
 replace H : (dioramaref05_Read.l0 k a0 y448 0) = some (r1, r2) := by first | (rw [hy448]; with_reducible exact H) | (have H2_ := (Option.bind_some _ _).symm.trans H; rw [hy448]; with_reducible exact H2_) | (have H2_ := (Option.bind_some _ _).symm.trans H; with_reducible exact H2_) | with_reducible exact H | (rw [hy448]; exact H) | exact H
 have Ny448 := Aside0.mk hy448
 clear hy448
 have H' := Aside0.mk H
 clear H
 go_enter Tryz.func99, Tryz.ntmps99
 go_wp2_with (first | ((with_reducible refine gate_dst (N := 8) rfl ?_); refine Kd.R_lit (Kd.int .i32) _ 21 ?hg (N := 8) ?hd (xs := ([] : List Int)) (inner := []) (ok := fun _ => True) (okp := fun _ => True) ?hr ?hp (fun _ hk => hk) trivial (Below.refl _ _) (Nat.le_refl _) (by simp) ?_; (case hd => rfl); (case hg => rfl); (case hr => first | (go_simp; done) | (go_simp; rfl)); (case hp => exact (Reps.none _ _)); intro v449 w2 ho3 hb hg_ hnew_; clear hg_ hnew_; (first | rw [← Ny448.out] at ho3 | (simp only [Int.reduceToNat] at ho3; rw [← Ny448.out] at ho3)); have n0_ := Aside0.mk (Kd.R_lower ho3 (below_size (by repeat (first | (with_reducible first | exact HB.out | apply below_alloc | apply pw_below_drewN | apply below_drew1) | exact HB.out)))); have n1_ := Aside0.mk (below_step (by repeat (first | (with_reducible first | exact HB.out | apply below_alloc | apply pw_below_drewN | apply below_drew1) | exact HB.out)) hb); clear HB; have HO450 := n0_; have HB := n1_; clear n0_ n1_; clear hb ho3))
 go_loopg [4, 5] k (fun kq v4 v5 w' => ∃ (x4_1 : List Int) (x5_1 : Int), v5 = .int .i64 x5_1 ∧ Aside0 (dioramaref05_Read.l0 kq a0 x4_1 x5_1 = some (r1, r2)) ∧ Aside0 (kq ≤ k) ∧ Aside0 (Kd.R (Kd.int .i32) 21 w' w.heap.size (fun _ => True) v4 x4_1) ∧ Aside0 (Below w.heap.size w w'))
 case atStart => exact ⟨(y448), (0), (by first | rfl | (simp; done) | (simp [*]; done)), H', ⟨Nat.le_refl _⟩, ⟨by (with_reducible repeat (first | apply Kd.R_alloc | apply Kd.R_drewN | apply Kd.R_drew)); exact HO450.out⟩, ⟨by repeat (first | (with_reducible first | exact HB.out | apply below_alloc | apply pw_below_drewN | apply below_drew1) | exact HB.out)⟩⟩
 case round =>
  clear H'
  try clear p2
  obtain ⟨x4_1, x5_1, rfl, HA, HK1, HO_4, HB⟩ := hrel
  cases gk with
  | zero => exact absurd HA.out (by simp [dioramaref05_Read.l0])
  | succ k1 =>
   have H := HA.out
   clear HA
   simp only [dioramaref05_Read.l0] at H
   by_cases c4 : x5_1 < (a0.size : Int)
   ·rw [if_pos c4] at H
    have c4b0 : decide (x5_1 < (a0.size : Int)) = true := decide_eq_true c4
    clear c4
    replace H := Option.bind_eq_some_iff.mp H
    obtain ⟨⟨t451, t452⟩, A50, H⟩ := H
    replace H : (if t452 = 0 then (some (x4_1, x5_1)) else (if x4_1.length < 35184372088832 then (dioramaref05_Read.l0 k1 a0 (x4_1 ++ [t451]) (wrap64 (x5_1 + t452))) else (none))) = some (r1, r2) := H
    have A5 := Aside0.mk A50
    clear A50
    by_cases c6 : t452 = 0
    ·rw [if_pos c6] at H
     have c6b0 : (t452 == 0) = true := beq_iff_eq.mpr c6
     have c6b1 : (t452 != 0) = false := bne_eq_false_iff_eq.mpr c6
     clear c6
     simp only [Option.some.injEq, Prod.mk.injEq] at H
     obtain ⟨rfl, rfl⟩ := H
     go_wp2_with (first | ((with_reducible refine gate_callee (f := 118) rfl ?_); refine goesL_ (some 16) rfl rfl Tryz.func118 (by kernel_rfl) rfl #[.string a0, .int .i64 x5_1] rfl (by (try simp only [List.map_toArray, List.map_cons, List.map_nil]); first | done | rfl | (simp only [List.length_drop, List.length_take]; rfl)) ?_; (with_reducible refine (dioramaref05_At.calls k1 a0 x5_1 t451 t452 _ A5.out).mono ?_); rintro e w7 ⟨rfl, hb⟩; refine ⟨_, rfl, ?_⟩; have n0_ := Aside0.mk (Kd.R_below (by (with_reducible repeat (first | apply Kd.R_alloc | apply Kd.R_drewN | apply Kd.R_drew)); exact HO_4.out) hb); have n1_ := Aside0.mk (below_step (by repeat (first | (with_reducible first | exact HB.out | apply below_alloc | apply pw_below_drewN | apply below_drew1) | exact HB.out)) hb); clear HO_4; clear HB; have HO_4 := n0_; have HB := n1_; clear n0_ n1_; (try clear hb); (try clear hb2); (try clear hk); (try clear hi)))
     go_ret2
     exact ⟨_, by first | rfl | (simp [errW_none, errW_some] <;> rfl) | (simp [*, errW_none, errW_some] <;> rfl), by (with_reducible repeat (first | apply Kd.R_alloc | apply Kd.R_drewN | apply Kd.R_drew)); exact HO_4.out, by repeat (first | (with_reducible first | exact HB.out | apply below_alloc | apply pw_below_drewN | apply below_drew1) | exact HB.out)⟩
    ·rw [if_neg c6] at H
     have c6b0 : (t452 == 0) = false := beq_eq_false_iff_ne.mpr c6
     have c6b1 : (t452 != 0) = true := bne_iff_ne.mpr c6
     by_cases c8 : x4_1.length < 35184372088832
     ·rw [if_pos c8] at H
      have LMc8 := Aside0.mk c8
      clear c8
      obtain ⟨y453, hy453⟩ : ∃ y_ : List Int, y_ = (x4_1 ++ [t451]) := ⟨_, rfl⟩
      replace H : (dioramaref05_Read.l0 k1 a0 y453 (wrap64 (x5_1 + t452))) = some (r1, r2) := by first | (rw [hy453]; with_reducible exact H) | (have H2_ := (Option.bind_some _ _).symm.trans H; rw [hy453]; with_reducible exact H2_) | (have H2_ := (Option.bind_some _ _).symm.trans H; with_reducible exact H2_) | with_reducible exact H | (rw [hy453]; exact H) | exact H
      have Ny453 := Aside0.mk hy453
      clear hy453
      have H' := Aside0.mk H
      clear H
      go_wp2_with (first | ((with_reducible refine gate_callee (f := 118) rfl ?_); refine goesL_ (some 16) rfl rfl Tryz.func118 (by kernel_rfl) rfl #[.string a0, .int .i64 x5_1] rfl (by (try simp only [List.map_toArray, List.map_cons, List.map_nil]); first | done | rfl | (simp only [List.length_drop, List.length_take]; rfl)) ?_; (with_reducible refine (dioramaref05_At.calls k1 a0 x5_1 t451 t452 _ A5.out).mono ?_); rintro e w9 ⟨rfl, hb⟩; refine ⟨_, rfl, ?_⟩; have n0_ := Aside0.mk (Kd.R_below (by (with_reducible repeat (first | apply Kd.R_alloc | apply Kd.R_drewN | apply Kd.R_drew)); exact HO_4.out) hb); have n1_ := Aside0.mk (below_step (by repeat (first | (with_reducible first | exact HB.out | apply below_alloc | apply pw_below_drewN | apply below_drew1) | exact HB.out)) hb); clear HO_4; clear HB; have HO_4 := n0_; have HB := n1_; clear n0_ n1_; (try clear hb); (try clear hb2); (try clear hk); (try clear hi)) | ((with_reducible refine gate_builtin (b := .append) (xs := #[.tmp 23, .tmp 25]) rfl ?_); at_builtin; refine Kd.R_append (Kd.int .i32) (w0 := w) w.heap.size rfl (.tmp 23) (.tmp 25) 144 21 (.int .i32 0) 4 rfl Tryz.underlying144 info21 rfl (by decide) (by omega) u4 x4_1 t451 [.int .i32 t451] (fun _ => True) (fun _ => False) rfl rfl ?aP (fun _ hk => hk.elim) ?aF ?aO ?aB ?aS ?aL ?_; (case aP => exact rfl); (case aB => exact (by repeat (first | (with_reducible first | exact HB.out | apply below_alloc | apply pw_below_drewN | apply below_drew1) | exact HB.out))); (case aF => exact (fun _ _ => trivial)); (case aO => exact (by (with_reducible repeat (first | apply Kd.R_alloc | apply Kd.R_drewN | apply Kd.R_drew)); exact HO_4.out)); (case aS => exact (below_size (by repeat (first | (with_reducible first | exact HB.out | apply below_alloc | apply pw_below_drewN | apply below_drew1) | exact HB.out)))); (case aL => have := LMc8.out; omega); intro v454 w10 ho hb hg hat; rw [← Ny453.out] at ho; have n0_ := Aside0.mk (hb); have n1_ := Aside0.mk (ho); clear HB; clear HO_4; have HB := n0_; have HO455 := n1_; clear n0_ n1_; clear ho hb hg hat))
      go_roundg k1
      case measure => have := HK1.out; omega
      case rel => exact ⟨(y453), (wrap64 (x5_1 + t452)), (by first | rfl | (simp; done) | (simp [*]; done)), H', ⟨by have := HK1.out; omega⟩, ⟨by (with_reducible repeat (first | apply Kd.R_alloc | apply Kd.R_drewN | apply Kd.R_drew)); exact HO455.out⟩, ⟨by repeat (first | (with_reducible first | exact HB.out | apply below_alloc | apply pw_below_drewN | apply below_drew1) | exact HB.out)⟩⟩
     ·rw [if_neg c8] at H
      exact absurd H (by simp)
   ·rw [if_neg c4] at H
    have c4b0 : decide (x5_1 < (a0.size : Int)) = false := decide_eq_false c4
    clear c4
    simp only [Option.some.injEq, Prod.mk.injEq] at H
    obtain ⟨rfl, rfl⟩ := H
    go_wp2
    go_ret2
    exact ⟨_, by first | rfl | (simp [errW_none, errW_some] <;> rfl) | (simp [*, errW_none, errW_some] <;> rfl), by (with_reducible repeat (first | apply Kd.R_alloc | apply Kd.R_drewN | apply Kd.R_drew)); exact HO_4.out, by repeat (first | (with_reducible first | exact HB.out | apply below_alloc | apply pw_below_drewN | apply below_drew1) | exact HB.out)⟩

def dioramaref05_Right.f (k : Nat) (a0 : ByteArray) : Option (Bool) := (dioramaref05_Read.f k a0).bind fun bt456 => (some (bt456.2 == (a0.size : Int)))
set_option maxHeartbeats 8000000 in
set_option maxRecDepth 100000 in
theorem dioramaref05_Right.calls (k : Nat) (a0 : ByteArray) (r : Bool) (w : World) (h : dioramaref05_Right.f k a0 = some r) :
  Calls Tryz.prog 63 #[.string a0] w fun e w' => e = .returned (.bool r) ∧ Below w.heap.size w w' := by
 have HB := Aside0.mk (Below.refl w.heap.size w)
 have H : ((dioramaref05_Read.f k a0).bind fun bt456 => (some (bt456.2 == (a0.size : Int)))) = some r := h
 clear h
 replace H := Option.bind_eq_some_iff.mp H
 obtain ⟨⟨t456, t457⟩, A20, H⟩ := H
 replace H : (some (t457 == (a0.size : Int))) = some r := H
 have A2 := Aside0.mk A20
 clear A20
 obtain rfl := Option.some.inj H
 go_enter Tryz.func63, Tryz.ntmps63
 go_wp2_with (first | ((with_reducible refine gate_callee (f := 99) rfl ?_); refine goesL_ (some 7) rfl rfl Tryz.func99 (by kernel_rfl) rfl #[.string a0] rfl (by (try simp only [List.map_toArray, List.map_cons, List.map_nil]); first | done | rfl | (simp only [List.length_drop, List.length_take]; rfl)) ?_; (with_reducible refine (dioramaref05_Read.calls k a0 t456 t457 _ A2.out).mono ?_); rintro e w3 ⟨v458, rfl, ho0, hb⟩; refine ⟨_, rfl, ?_⟩; have n0_ := Aside0.mk (Kd.R_lower ho0 (below_size (by repeat (first | (with_reducible first | exact HB.out | apply below_alloc | apply pw_below_drewN | apply below_drew1) | exact HB.out)))); have n1_ := Aside0.mk (below_step (by repeat (first | (with_reducible first | exact HB.out | apply below_alloc | apply pw_below_drewN | apply below_drew1) | exact HB.out)) hb); clear HB; have HO459 := n0_; have HB := n1_; clear n0_ n1_; (try clear hb); (try clear hb2); (try clear hk); (try clear hi); (try clear ho0)))
 go_ret
 exact ⟨by first | rfl | (simp [errW_none, errW_some] <;> rfl) | (simp [*, errW_none, errW_some] <;> rfl), by repeat (first | (with_reducible first | exact HB.out | apply below_alloc | apply pw_below_drewN | apply below_drew1) | exact HB.out)⟩

mutual
def dioramaref08_Check.l0 : Nat → Int → Int → List Int → List ByteArray → List Int → List Int → Int → Int → Int → Option (Int)
 | 0, _, _, _, _, _, _, _, _, _ => none
 | k + 1, x5, x461000, x461001, x461002, x461003, x462000, x462001, x462002, x462003 => if x5 < (x461001.length : Int) then (if 0 ≤ x5 then (if x5 < (x462000.length : Int) then ((dioramaref07_In.f (rd x462000 x5) (rd x461001 x5)).bind fun t464 => (if t464 = true then (dioramaref08_Check.l0 k (wrap64 (x5 + 1)) x461000 x461001 x461002 x461003 x462000 x462001 x462002 x462003) else (some 10))) else (none)) else (none)) else (if (x461002.length : Int) = x462001 then (dioramaref08_Check.l1 k 0 x461000 x461001 x461002 x461003 x462000 x462001 x462002 x462003) else (some 11))
def dioramaref08_Check.l1 : Nat → Int → Int → List Int → List ByteArray → List Int → List Int → Int → Int → Int → Option (Int)
 | 0, _, _, _, _, _, _, _, _, _ => none
 | k + 1, x6, x461000, x461001, x461002, x461003, x462000, x462001, x462002, x462003 => if x6 < (x461002.length : Int) then (if 0 ≤ x6 then ((dioramaref05_Right.f k (rdOf ByteArray.empty x461002 x6)).bind fun t466 => (if t466 = true then (dioramaref08_Check.l1 k (wrap64 (x6 + 1)) x461000 x461001 x461002 x461003 x462000 x462001 x462002 x462003) else (some 11))) else (none)) else (if (x461003.length : Int) < x462002 then (some 12) else (if x462003 ≥ 0 then (if (x461003.length : Int) > x462003 then (some 12) else (some 0)) else (some 0)))
end
def dioramaref08_Check.f (k : Nat) (a0_0 : Int) (l0_1 : List Int) (l0_2 : List ByteArray) (l0_3 : List Int) (l1_0 : List Int) (a1_1 : Int) (a1_2 : Int) (a1_3 : Int) : Option (Int) := if (l0_1.length : Int) = (l1_0.length : Int) then (dioramaref08_Check.l0 k 0 a0_0 l0_1 l0_2 l0_3 l1_0 a1_1 a1_2 a1_3) else (some 10)
set_option maxHeartbeats 8000000 in
set_option maxRecDepth 100000 in
theorem dioramaref08_Check.calls (k : Nat) (a0_0 : Int) (A0_1 : Option Addr) (c0_1 : Nat) (l0_1 : List Int) (A0_2 : Option Addr) (c0_2 : Nat) (l0_2 : List ByteArray) (A0_3 : Option Addr) (c0_3 : Nat) (l0_3 : List Int) (A1_0 : Option Addr) (c1_0 : Nat) (l1_0 : List Int) (a1_1 : Int) (a1_2 : Int) (a1_3 : Int) (r : Int) (w : World) (hr0_1 : Kd.C (Kd.int .i64) w A0_1 l0_1.length l0_1) (hc0_1 : l0_1.length ≤ c0_1) (hr0_2 : Kd.C Kd.string w A0_2 l0_2.length l0_2) (hc0_2 : l0_2.length ≤ c0_2) (hr0_3 : Kd.C (Kd.int .i64) w A0_3 l0_3.length l0_3) (hc0_3 : l0_3.length ≤ c0_3) (hr1_0 : Kd.C (Kd.int .i64) w A1_0 l1_0.length l1_0) (hc1_0 : l1_0.length ≤ c1_0) (h : dioramaref08_Check.f k a0_0 l0_1 l0_2 l0_3 l1_0 a1_1 a1_2 a1_3 = some r) :
  Calls Tryz.prog 33 #[.agg #[.int .i64 a0_0, .slice A0_1 l0_1.length c0_1, .slice A0_2 l0_2.length c0_2, .slice A0_3 l0_3.length c0_3], .agg #[.slice A1_0 l1_0.length c1_0, .int .i64 a1_1, .int .i64 a1_2, .int .i64 a1_3]] w fun e w' => e = .returned (.int .i64 r) ∧ Below w.heap.size w w' := by
 have hu42 := Tryz.underlying42
 have hu66 := Tryz.underlying66
 have HR0_1 := Aside0.mk hr0_1
 have HC0_1 := Aside0.mk hc0_1
 clear hr0_1 hc0_1
 have HR0_2 := Aside0.mk hr0_2
 have HC0_2 := Aside0.mk hc0_2
 clear hr0_2 hc0_2
 have HR0_3 := Aside0.mk hr0_3
 have HC0_3 := Aside0.mk hc0_3
 clear hr0_3 hc0_3
 have HR1_0 := Aside0.mk hr1_0
 have HC1_0 := Aside0.mk hc1_0
 clear hr1_0 hc1_0
 have HB := Aside0.mk (Below.refl w.heap.size w)
 have H : (if (l0_1.length : Int) = (l1_0.length : Int) then (dioramaref08_Check.l0 k 0 a0_0 l0_1 l0_2 l0_3 l1_0 a1_1 a1_2 a1_3) else (some 10)) = some r := h
 clear h
 by_cases c3 : (l0_1.length : Int) = (l1_0.length : Int)
 ·rw [if_pos c3] at H
  have c3b0 : ((l0_1.length : Int) == (l1_0.length : Int)) = true := beq_iff_eq.mpr c3
  have c3b1 : ((l0_1.length : Int) != (l1_0.length : Int)) = false := bne_eq_false_iff_eq.mpr c3
  have c3b2 : (l0_1.length == l1_0.length) = true := by first | simpa using c3 | (simp at c3 ⊢; omega)
  clear c3
  have H' := Aside0.mk H
  clear H
  go_enter Tryz.func33, Tryz.ntmps33
  go_wp2_with (first | ((with_reducible refine gate_dst (N := 2) rfl ?_); (try (refine gate_guard (by rfl) ?_; dsimp only)); refine box_event ?hg (N := 2) ?hd (cs := #[.int .i64 a0_0, .slice A0_1 l0_1.length c0_1, .slice A0_2 l0_2.length c0_2, .slice A0_3 l0_3.length c0_3]) (t := 42) ?hr ?_; (case hd => rfl); (case hg => rfl); (case hr => first | (go_simp; done) | (go_simp; rfl)); intro gb460 hg w4 hbox hb; have n0_ := Aside0.mk (below_step (by repeat (first | (with_reducible first | exact HB.out | apply below_alloc | apply pw_below_drewN | apply below_drew1) | exact HB.out)) hb); have n1_ := Aside0.mk (hbox); have n2_ := Aside0.mk ((by rw [hg]; exact (below_size (by repeat (first | (with_reducible first | exact HB.out | apply below_alloc | apply pw_below_drewN | apply below_drew1) | exact HB.out))) : w.heap.size ≤ gb460)); have n3_ := Aside0.mk ((by rw [hg]; exact (below_size (by repeat (first | (with_reducible first | exact HB.out | apply below_alloc | apply pw_below_drewN | apply below_drew1) | exact HB.out))) : w.heap.size ≤ gb460)); clear HB; have HB := n0_; have BK460 := n1_; have GW460 := n2_; have GE460 := n3_; clear n0_ n1_ n2_ n3_; clear hb hbox hg) | ((with_reducible refine gate_dst (N := 3) rfl ?_); (try (refine gate_guard (by rfl) ?_; dsimp only)); refine box_event ?hg (N := 3) ?hd (cs := #[.slice A1_0 l1_0.length c1_0, .int .i64 a1_1, .int .i64 a1_2, .int .i64 a1_3]) (t := 66) ?hr ?_; (case hd => rfl); (case hg => rfl); (case hr => first | (go_simp; done) | (go_simp; rfl)); intro gb461 hg w5 hbox hb; have n0_ := Aside0.mk (blk_below (g := gb460) (o := .cells #[.int .i64 a0_0, .slice A0_1 l0_1.length c0_1, .slice A0_2 l0_2.length c0_2, .slice A0_3 l0_3.length c0_3] 42 (0, 0)) (by (with_reducible repeat (first | refine blk_drewN ?_ _ | refine blk_drew ?_ | refine blk_alloc ?_ _)); exact BK460.out) hb); have n1_ := Aside0.mk (below_step (by repeat (first | (with_reducible first | exact HB.out | apply below_alloc | apply pw_below_drewN | apply below_drew1 | refine below_set ?_ GE460.out) | exact HB.out)) hb); have n2_ := Aside0.mk (hbox); have n3_ := Aside0.mk ((by rw [hg]; exact (below_size (by repeat (first | (with_reducible first | exact HB.out | apply below_alloc | apply pw_below_drewN | apply below_drew1 | refine below_set ?_ GE460.out) | exact HB.out))) : w.heap.size ≤ gb461)); have n4_ := Aside0.mk ((by rw [hg]; exact (below_size (by repeat (first | (with_reducible first | exact HB.out | apply below_alloc | apply pw_below_drewN | apply below_drew1 | refine below_set ?_ GE460.out) | exact HB.out))) : w.heap.size ≤ gb461)); have n5_ := Aside0.mk ((by rw [hg]; exact Nat.ne_of_lt (blk_lt (g := gb460) (o := .cells #[.int .i64 a0_0, .slice A0_1 l0_1.length c0_1, .slice A0_2 l0_2.length c0_2, .slice A0_3 l0_3.length c0_3] 42 (0, 0)) (by (with_reducible repeat (first | refine blk_drewN ?_ _ | refine blk_drew ?_ | refine blk_alloc ?_ _)); exact BK460.out)) : gb460 ≠ gb461)); have n6_ := Aside0.mk ((by rw [hg]; exact Nat.ne_of_gt (blk_lt (g := gb460) (o := .cells #[.int .i64 a0_0, .slice A0_1 l0_1.length c0_1, .slice A0_2 l0_2.length c0_2, .slice A0_3 l0_3.length c0_3] 42 (0, 0)) (by (with_reducible repeat (first | refine blk_drewN ?_ _ | refine blk_drew ?_ | refine blk_alloc ?_ _)); exact BK460.out)) : gb461 ≠ gb460)); clear BK460; clear HB; have BK460 := n0_; have HB := n1_; have BK461 := n2_; have GW461 := n3_; have GE461 := n4_; have NB460_461 := n5_; have NB461_460 := n6_; clear n0_ n1_ n2_ n3_ n4_ n5_ n6_; clear hb hbox hg; have hnb6 := NB460_461.out; have hnc6 := NB461_460.out; have hcz7_0 : w5.cell? ⟨gb460, 0, none⟩ = some (.int .i64 a0_0) := (blk_cell BK460.out 0).trans rfl; have hcz7_1 : w5.cell? ⟨gb460, 1, none⟩ = some (.slice A0_1 l0_1.length c0_1) := (blk_cell BK460.out 1).trans rfl; have hcz7_2 : w5.cell? ⟨gb460, 2, none⟩ = some (.slice A0_2 l0_2.length c0_2) := (blk_cell BK460.out 2).trans rfl; have hcz7_3 : w5.cell? ⟨gb460, 3, none⟩ = some (.slice A0_3 l0_3.length c0_3) := (blk_cell BK460.out 3).trans rfl; have hfz7_0 := blk_frozen BK460.out 0; have hfz7_1 := blk_frozen BK460.out 1; have hfz7_2 := blk_frozen BK460.out 2; have hfz7_3 := blk_frozen BK460.out 3; have hcz8_0 : w5.cell? ⟨gb461, 0, none⟩ = some (.slice A1_0 l1_0.length c1_0) := (blk_cell BK461.out 0).trans rfl; have hcz8_1 : w5.cell? ⟨gb461, 1, none⟩ = some (.int .i64 a1_1) := (blk_cell BK461.out 1).trans rfl; have hcz8_2 : w5.cell? ⟨gb461, 2, none⟩ = some (.int .i64 a1_2) := (blk_cell BK461.out 2).trans rfl; have hcz8_3 : w5.cell? ⟨gb461, 3, none⟩ = some (.int .i64 a1_3) := (blk_cell BK461.out 3).trans rfl; have hfz8_0 := blk_frozen BK461.out 0; have hfz8_1 := blk_frozen BK461.out 1; have hfz8_2 := blk_frozen BK461.out 2; have hfz8_3 := blk_frozen BK461.out 3))
  repeat (go_quiet (first | ((with_reducible refine gate_dst (N := 2) rfl ?_); (try (refine gate_guard (by rfl) ?_; dsimp only)); refine box_event ?hg (N := 2) ?hd (cs := #[.int .i64 a0_0, .slice A0_1 l0_1.length c0_1, .slice A0_2 l0_2.length c0_2, .slice A0_3 l0_3.length c0_3]) (t := 42) ?hr ?_; (case hd => rfl); (case hg => rfl); (case hr => first | (go_simp; done) | (go_simp; rfl)); intro gb460 hg w4 hbox hb; have n0_ := Aside0.mk (below_step (by repeat (first | (with_reducible first | exact HB.out | apply below_alloc | apply pw_below_drewN | apply below_drew1) | exact HB.out)) hb); have n1_ := Aside0.mk (hbox); have n2_ := Aside0.mk ((by rw [hg]; exact (below_size (by repeat (first | (with_reducible first | exact HB.out | apply below_alloc | apply pw_below_drewN | apply below_drew1) | exact HB.out))) : w.heap.size ≤ gb460)); have n3_ := Aside0.mk ((by rw [hg]; exact (below_size (by repeat (first | (with_reducible first | exact HB.out | apply below_alloc | apply pw_below_drewN | apply below_drew1) | exact HB.out))) : w.heap.size ≤ gb460)); clear HB; have HB := n0_; have BK460 := n1_; have GW460 := n2_; have GE460 := n3_; clear n0_ n1_ n2_ n3_; clear hb hbox hg) | ((with_reducible refine gate_dst (N := 3) rfl ?_); (try (refine gate_guard (by rfl) ?_; dsimp only)); refine box_event ?hg (N := 3) ?hd (cs := #[.slice A1_0 l1_0.length c1_0, .int .i64 a1_1, .int .i64 a1_2, .int .i64 a1_3]) (t := 66) ?hr ?_; (case hd => rfl); (case hg => rfl); (case hr => first | (go_simp; done) | (go_simp; rfl)); intro gb461 hg w5 hbox hb; have n0_ := Aside0.mk (blk_below (g := gb460) (o := .cells #[.int .i64 a0_0, .slice A0_1 l0_1.length c0_1, .slice A0_2 l0_2.length c0_2, .slice A0_3 l0_3.length c0_3] 42 (0, 0)) (by (with_reducible repeat (first | refine blk_drewN ?_ _ | refine blk_drew ?_ | refine blk_alloc ?_ _)); exact BK460.out) hb); have n1_ := Aside0.mk (below_step (by repeat (first | (with_reducible first | exact HB.out | apply below_alloc | apply pw_below_drewN | apply below_drew1 | refine below_set ?_ GE460.out) | exact HB.out)) hb); have n2_ := Aside0.mk (hbox); have n3_ := Aside0.mk ((by rw [hg]; exact (below_size (by repeat (first | (with_reducible first | exact HB.out | apply below_alloc | apply pw_below_drewN | apply below_drew1 | refine below_set ?_ GE460.out) | exact HB.out))) : w.heap.size ≤ gb461)); have n4_ := Aside0.mk ((by rw [hg]; exact (below_size (by repeat (first | (with_reducible first | exact HB.out | apply below_alloc | apply pw_below_drewN | apply below_drew1 | refine below_set ?_ GE460.out) | exact HB.out))) : w.heap.size ≤ gb461)); have n5_ := Aside0.mk ((by rw [hg]; exact Nat.ne_of_lt (blk_lt (g := gb460) (o := .cells #[.int .i64 a0_0, .slice A0_1 l0_1.length c0_1, .slice A0_2 l0_2.length c0_2, .slice A0_3 l0_3.length c0_3] 42 (0, 0)) (by (with_reducible repeat (first | refine blk_drewN ?_ _ | refine blk_drew ?_ | refine blk_alloc ?_ _)); exact BK460.out)) : gb460 ≠ gb461)); have n6_ := Aside0.mk ((by rw [hg]; exact Nat.ne_of_gt (blk_lt (g := gb460) (o := .cells #[.int .i64 a0_0, .slice A0_1 l0_1.length c0_1, .slice A0_2 l0_2.length c0_2, .slice A0_3 l0_3.length c0_3] 42 (0, 0)) (by (with_reducible repeat (first | refine blk_drewN ?_ _ | refine blk_drew ?_ | refine blk_alloc ?_ _)); exact BK460.out)) : gb461 ≠ gb460)); clear BK460; clear HB; have BK460 := n0_; have HB := n1_; have BK461 := n2_; have GW461 := n3_; have GE461 := n4_; have NB460_461 := n5_; have NB461_460 := n6_; clear n0_ n1_ n2_ n3_ n4_ n5_ n6_; clear hb hbox hg; have hnb6 := NB460_461.out; have hnc6 := NB461_460.out; have hcz7_0 : w5.cell? ⟨gb460, 0, none⟩ = some (.int .i64 a0_0) := (blk_cell BK460.out 0).trans rfl; have hcz7_1 : w5.cell? ⟨gb460, 1, none⟩ = some (.slice A0_1 l0_1.length c0_1) := (blk_cell BK460.out 1).trans rfl; have hcz7_2 : w5.cell? ⟨gb460, 2, none⟩ = some (.slice A0_2 l0_2.length c0_2) := (blk_cell BK460.out 2).trans rfl; have hcz7_3 : w5.cell? ⟨gb460, 3, none⟩ = some (.slice A0_3 l0_3.length c0_3) := (blk_cell BK460.out 3).trans rfl; have hfz7_0 := blk_frozen BK460.out 0; have hfz7_1 := blk_frozen BK460.out 1; have hfz7_2 := blk_frozen BK460.out 2; have hfz7_3 := blk_frozen BK460.out 3; have hcz8_0 : w5.cell? ⟨gb461, 0, none⟩ = some (.slice A1_0 l1_0.length c1_0) := (blk_cell BK461.out 0).trans rfl; have hcz8_1 : w5.cell? ⟨gb461, 1, none⟩ = some (.int .i64 a1_1) := (blk_cell BK461.out 1).trans rfl; have hcz8_2 : w5.cell? ⟨gb461, 2, none⟩ = some (.int .i64 a1_2) := (blk_cell BK461.out 2).trans rfl; have hcz8_3 : w5.cell? ⟨gb461, 3, none⟩ = some (.int .i64 a1_3) := (blk_cell BK461.out 3).trans rfl; have hfz8_0 := blk_frozen BK461.out 0; have hfz8_1 := blk_frozen BK461.out 1; have hfz8_2 := blk_frozen BK461.out 2; have hfz8_3 := blk_frozen BK461.out 3)); try go_wp2_with (first | ((with_reducible refine gate_dst (N := 2) rfl ?_); (try (refine gate_guard (by rfl) ?_; dsimp only)); refine box_event ?hg (N := 2) ?hd (cs := #[.int .i64 a0_0, .slice A0_1 l0_1.length c0_1, .slice A0_2 l0_2.length c0_2, .slice A0_3 l0_3.length c0_3]) (t := 42) ?hr ?_; (case hd => rfl); (case hg => rfl); (case hr => first | (go_simp; done) | (go_simp; rfl)); intro gb460 hg w4 hbox hb; have n0_ := Aside0.mk (below_step (by repeat (first | (with_reducible first | exact HB.out | apply below_alloc | apply pw_below_drewN | apply below_drew1) | exact HB.out)) hb); have n1_ := Aside0.mk (hbox); have n2_ := Aside0.mk ((by rw [hg]; exact (below_size (by repeat (first | (with_reducible first | exact HB.out | apply below_alloc | apply pw_below_drewN | apply below_drew1) | exact HB.out))) : w.heap.size ≤ gb460)); have n3_ := Aside0.mk ((by rw [hg]; exact (below_size (by repeat (first | (with_reducible first | exact HB.out | apply below_alloc | apply pw_below_drewN | apply below_drew1) | exact HB.out))) : w.heap.size ≤ gb460)); clear HB; have HB := n0_; have BK460 := n1_; have GW460 := n2_; have GE460 := n3_; clear n0_ n1_ n2_ n3_; clear hb hbox hg) | ((with_reducible refine gate_dst (N := 3) rfl ?_); (try (refine gate_guard (by rfl) ?_; dsimp only)); refine box_event ?hg (N := 3) ?hd (cs := #[.slice A1_0 l1_0.length c1_0, .int .i64 a1_1, .int .i64 a1_2, .int .i64 a1_3]) (t := 66) ?hr ?_; (case hd => rfl); (case hg => rfl); (case hr => first | (go_simp; done) | (go_simp; rfl)); intro gb461 hg w5 hbox hb; have n0_ := Aside0.mk (blk_below (g := gb460) (o := .cells #[.int .i64 a0_0, .slice A0_1 l0_1.length c0_1, .slice A0_2 l0_2.length c0_2, .slice A0_3 l0_3.length c0_3] 42 (0, 0)) (by (with_reducible repeat (first | refine blk_drewN ?_ _ | refine blk_drew ?_ | refine blk_alloc ?_ _)); exact BK460.out) hb); have n1_ := Aside0.mk (below_step (by repeat (first | (with_reducible first | exact HB.out | apply below_alloc | apply pw_below_drewN | apply below_drew1 | refine below_set ?_ GE460.out) | exact HB.out)) hb); have n2_ := Aside0.mk (hbox); have n3_ := Aside0.mk ((by rw [hg]; exact (below_size (by repeat (first | (with_reducible first | exact HB.out | apply below_alloc | apply pw_below_drewN | apply below_drew1 | refine below_set ?_ GE460.out) | exact HB.out))) : w.heap.size ≤ gb461)); have n4_ := Aside0.mk ((by rw [hg]; exact (below_size (by repeat (first | (with_reducible first | exact HB.out | apply below_alloc | apply pw_below_drewN | apply below_drew1 | refine below_set ?_ GE460.out) | exact HB.out))) : w.heap.size ≤ gb461)); have n5_ := Aside0.mk ((by rw [hg]; exact Nat.ne_of_lt (blk_lt (g := gb460) (o := .cells #[.int .i64 a0_0, .slice A0_1 l0_1.length c0_1, .slice A0_2 l0_2.length c0_2, .slice A0_3 l0_3.length c0_3] 42 (0, 0)) (by (with_reducible repeat (first | refine blk_drewN ?_ _ | refine blk_drew ?_ | refine blk_alloc ?_ _)); exact BK460.out)) : gb460 ≠ gb461)); have n6_ := Aside0.mk ((by rw [hg]; exact Nat.ne_of_gt (blk_lt (g := gb460) (o := .cells #[.int .i64 a0_0, .slice A0_1 l0_1.length c0_1, .slice A0_2 l0_2.length c0_2, .slice A0_3 l0_3.length c0_3] 42 (0, 0)) (by (with_reducible repeat (first | refine blk_drewN ?_ _ | refine blk_drew ?_ | refine blk_alloc ?_ _)); exact BK460.out)) : gb461 ≠ gb460)); clear BK460; clear HB; have BK460 := n0_; have HB := n1_; have BK461 := n2_; have GW461 := n3_; have GE461 := n4_; have NB460_461 := n5_; have NB461_460 := n6_; clear n0_ n1_ n2_ n3_ n4_ n5_ n6_; clear hb hbox hg; have hnb6 := NB460_461.out; have hnc6 := NB461_460.out; have hcz7_0 : w5.cell? ⟨gb460, 0, none⟩ = some (.int .i64 a0_0) := (blk_cell BK460.out 0).trans rfl; have hcz7_1 : w5.cell? ⟨gb460, 1, none⟩ = some (.slice A0_1 l0_1.length c0_1) := (blk_cell BK460.out 1).trans rfl; have hcz7_2 : w5.cell? ⟨gb460, 2, none⟩ = some (.slice A0_2 l0_2.length c0_2) := (blk_cell BK460.out 2).trans rfl; have hcz7_3 : w5.cell? ⟨gb460, 3, none⟩ = some (.slice A0_3 l0_3.length c0_3) := (blk_cell BK460.out 3).trans rfl; have hfz7_0 := blk_frozen BK460.out 0; have hfz7_1 := blk_frozen BK460.out 1; have hfz7_2 := blk_frozen BK460.out 2; have hfz7_3 := blk_frozen BK460.out 3; have hcz8_0 : w5.cell? ⟨gb461, 0, none⟩ = some (.slice A1_0 l1_0.length c1_0) := (blk_cell BK461.out 0).trans rfl; have hcz8_1 : w5.cell? ⟨gb461, 1, none⟩ = some (.int .i64 a1_1) := (blk_cell BK461.out 1).trans rfl; have hcz8_2 : w5.cell? ⟨gb461, 2, none⟩ = some (.int .i64 a1_2) := (blk_cell BK461.out 2).trans rfl; have hcz8_3 : w5.cell? ⟨gb461, 3, none⟩ = some (.int .i64 a1_3) := (blk_cell BK461.out 3).trans rfl; have hfz8_0 := blk_frozen BK461.out 0; have hfz8_1 := blk_frozen BK461.out 1; have hfz8_2 := blk_frozen BK461.out 2; have hfz8_3 := blk_frozen BK461.out 3)))
  go_loopg [5] k (fun kq v5 w' => ∃ (x5_1 : Int), v5 = .int .i64 x5_1 ∧ Aside0 (dioramaref08_Check.l0 kq x5_1 a0_0 l0_1 l0_2 l0_3 l1_0 a1_1 a1_2 a1_3 = some r) ∧ Aside0 (kq ≤ k) ∧ Aside0 (w'.heap[gb460]? = some (.cells #[.int .i64 a0_0, (.slice A0_1 l0_1.length c0_1), (.slice A0_2 l0_2.length c0_2), (.slice A0_3 l0_3.length c0_3)] 42 (0, 0))) ∧ Aside0 (w'.heap[gb461]? = some (.cells #[(.slice A1_0 l1_0.length c1_0), .int .i64 a1_1, .int .i64 a1_2, .int .i64 a1_3] 66 (0, 0))) ∧ Aside0 (Below w.heap.size w w'))
  case atStart => exact ⟨(0), (by first | rfl | (simp; done) | (simp [*]; done)), H', ⟨Nat.le_refl _⟩, ⟨by (with_reducible repeat (first | refine blk_drewN ?_ _ | refine blk_drew ?_ | refine blk_alloc ?_ _)); exact BK460.out⟩, ⟨by (with_reducible repeat (first | refine blk_drewN ?_ _ | refine blk_drew ?_ | refine blk_alloc ?_ _)); exact BK461.out⟩, ⟨by repeat (first | (with_reducible first | exact HB.out | apply below_alloc | apply pw_below_drewN | apply below_drew1 | refine below_set ?_ GE460.out | refine below_set ?_ GE461.out) | exact HB.out)⟩⟩
  case round =>
   clear H'
   try clear c1
   try clear p2
   try clear c3
   try clear c3b0
   try clear c3b1
   try clear c3b2
   try clear c6
   try clear hcz7_0
   try clear hcz7_1
   try clear hcz7_2
   try clear hcz7_3
   try clear hcz8_0
   try clear hcz8_1
   try clear hcz8_2
   try clear hcz8_3
   try clear hfz7_0
   try clear hfz7_1
   try clear hfz7_2
   try clear hfz7_3
   try clear hfz8_0
   try clear hfz8_1
   try clear hfz8_2
   try clear hfz8_3
   obtain ⟨x5_1, rfl, HA, HK1, BK460, BK461, HB⟩ := hrel
   cases gk with
   | zero => exact absurd HA.out (by simp [dioramaref08_Check.l0])
   | succ k1 =>
    have H := HA.out
    clear HA
    simp only [dioramaref08_Check.l0] at H
    by_cases c9 : x5_1 < (l0_1.length : Int)
    ·rw [if_pos c9] at H
     have c9b0 : decide (x5_1 < (l0_1.length : Int)) = true := decide_eq_true c9
     clear c9
     by_cases c10 : 0 ≤ x5_1
     ·rw [if_pos c10] at H
      have c10b0 : decide (0 ≤ x5_1) = true := decide_eq_true c10
      clear c10
      by_cases c11 : x5_1 < (l1_0.length : Int)
      ·rw [if_pos c11] at H
       have c11b0 : decide (x5_1 < (l1_0.length : Int)) = true := decide_eq_true c11
       clear c11
       replace H := Option.bind_eq_some_iff.mp H
       obtain ⟨t464, A120, H⟩ := H
       replace H : (if t464 = true then (dioramaref08_Check.l0 k1 (wrap64 (x5_1 + 1)) a0_0 l0_1 l0_2 l0_3 l1_0 a1_1 a1_2 a1_3) else (some 10)) = some r := H
       have A12 := Aside0.mk A120
       clear A120
       by_cases c13 : t464 = true
       ·subst c13
        have H1 : (dioramaref08_Check.l0 k1 (wrap64 (x5_1 + 1)) a0_0 l0_1 l0_2 l0_3 l1_0 a1_1 a1_2 a1_3) = some r := by rw [if_pos rfl] at H; exact H
        clear H
        have H := H1
        clear H1
        have H' := Aside0.mk H
        clear H
        have hnb14 := NB460_461.out
        have hnc14 := NB461_460.out
        have hcz15_0 : wr.cell? ⟨gb460, 0, none⟩ = some (.int .i64 a0_0) := (blk_cell BK460.out 0).trans rfl
        have hcz15_1 : wr.cell? ⟨gb460, 1, none⟩ = some (.slice A0_1 l0_1.length c0_1) := (blk_cell BK460.out 1).trans rfl
        have hcz15_2 : wr.cell? ⟨gb460, 2, none⟩ = some (.slice A0_2 l0_2.length c0_2) := (blk_cell BK460.out 2).trans rfl
        have hcz15_3 : wr.cell? ⟨gb460, 3, none⟩ = some (.slice A0_3 l0_3.length c0_3) := (blk_cell BK460.out 3).trans rfl
        have hfz15_0 := blk_frozen BK460.out 0
        have hfz15_1 := blk_frozen BK460.out 1
        have hfz15_2 := blk_frozen BK460.out 2
        have hfz15_3 := blk_frozen BK460.out 3
        have hcz16_0 : wr.cell? ⟨gb461, 0, none⟩ = some (.slice A1_0 l1_0.length c1_0) := (blk_cell BK461.out 0).trans rfl
        have hcz16_1 : wr.cell? ⟨gb461, 1, none⟩ = some (.int .i64 a1_1) := (blk_cell BK461.out 1).trans rfl
        have hcz16_2 : wr.cell? ⟨gb461, 2, none⟩ = some (.int .i64 a1_2) := (blk_cell BK461.out 2).trans rfl
        have hcz16_3 : wr.cell? ⟨gb461, 3, none⟩ = some (.int .i64 a1_3) := (blk_cell BK461.out 3).trans rfl
        have hfz16_0 := blk_frozen BK461.out 0
        have hfz16_1 := blk_frozen BK461.out 1
        have hfz16_2 := blk_frozen BK461.out 2
        have hfz16_3 := blk_frozen BK461.out 3
        have p462 : 0 ≤ (x5_1 : Int) := of_decide_eq_true (by first | (with_reducible assumption) | assumption)
        have q462 : x5_1 < (l1_0.length : Int) := of_decide_eq_true (by first | (with_reducible assumption) | assumption)
        obtain ⟨ad462, e462, hx462_0⟩ := Kd.at_int HR1_0.out x5_1 p462 q462
        cases e462
        replace hx462_0 := (HB.out.cell (World.block_lt_of_cell? w _ hx462_0)).trans hx462_0
        replace p462 := eq_true p462
        replace q462 := eq_true q462
        have p463 : 0 ≤ (x5_1 : Int) := of_decide_eq_true (by first | (with_reducible assumption) | assumption)
        have q463 : x5_1 < (l0_1.length : Int) := of_decide_eq_true (by first | (with_reducible assumption) | assumption)
        obtain ⟨ad463, e463, hx463_0⟩ := Kd.at_int HR0_1.out x5_1 p463 q463
        cases e463
        replace hx463_0 := (HB.out.cell (World.block_lt_of_cell? w _ hx463_0)).trans hx463_0
        replace p463 := eq_true p463
        replace q463 := eq_true q463
        go_wp2_with (first | (go_at_call 62; (with_reducible refine (dioramaref07_In.calls (rd l1_0 x5_1) (rd l0_1 x5_1) true _ A12.out).mono ?_); rintro e w' ⟨rfl, ⟨nd, rfl⟩⟩; (try first | exact ⟨rfl, _, World.drewN_drewN _ _ _⟩ | exact ⟨rfl, _, Eq.trans (World.drewN_drewN _ _ _) (congrArg (World.drewN _) (Nat.add_assoc _ _ _))⟩)))
        repeat (go_quiet (first | (go_at_call 62; (with_reducible refine (dioramaref07_In.calls (rd l1_0 x5_1) (rd l0_1 x5_1) true _ A12.out).mono ?_); rintro e w' ⟨rfl, ⟨nd, rfl⟩⟩; (try first | exact ⟨rfl, _, World.drewN_drewN _ _ _⟩ | exact ⟨rfl, _, Eq.trans (World.drewN_drewN _ _ _) (congrArg (World.drewN _) (Nat.add_assoc _ _ _))⟩))); try go_wp2_with (first | (go_at_call 62; (with_reducible refine (dioramaref07_In.calls (rd l1_0 x5_1) (rd l0_1 x5_1) true _ A12.out).mono ?_); rintro e w' ⟨rfl, ⟨nd, rfl⟩⟩; (try first | exact ⟨rfl, _, World.drewN_drewN _ _ _⟩ | exact ⟨rfl, _, Eq.trans (World.drewN_drewN _ _ _) (congrArg (World.drewN _) (Nat.add_assoc _ _ _))⟩))))
        go_roundg k1
        case measure => have := HK1.out; omega
        case rel => exact ⟨(wrap64 (x5_1 + 1)), (by first | rfl | (simp; done) | (simp [*]; done)), H', ⟨by have := HK1.out; omega⟩, ⟨by (with_reducible repeat (first | refine blk_drewN ?_ _ | refine blk_drew ?_ | refine blk_alloc ?_ _)); exact BK460.out⟩, ⟨by (with_reducible repeat (first | refine blk_drewN ?_ _ | refine blk_drew ?_ | refine blk_alloc ?_ _)); exact BK461.out⟩, ⟨by repeat (first | (with_reducible first | exact HB.out | apply below_alloc | apply pw_below_drewN | apply below_drew1 | refine below_set ?_ GE460.out | refine below_set ?_ GE461.out) | exact HB.out)⟩⟩
       ·replace c13 := Bool.eq_false_iff.mpr c13
        subst c13
        have H1 : (some 10) = some r := by rw [if_neg (show ¬ (false = true) by decide)] at H; exact H
        clear H
        have H := H1
        clear H1
        obtain rfl := Option.some.inj H
        have hnb17 := NB460_461.out
        have hnc17 := NB461_460.out
        have hcz18_0 : wr.cell? ⟨gb460, 0, none⟩ = some (.int .i64 a0_0) := (blk_cell BK460.out 0).trans rfl
        have hcz18_1 : wr.cell? ⟨gb460, 1, none⟩ = some (.slice A0_1 l0_1.length c0_1) := (blk_cell BK460.out 1).trans rfl
        have hcz18_2 : wr.cell? ⟨gb460, 2, none⟩ = some (.slice A0_2 l0_2.length c0_2) := (blk_cell BK460.out 2).trans rfl
        have hcz18_3 : wr.cell? ⟨gb460, 3, none⟩ = some (.slice A0_3 l0_3.length c0_3) := (blk_cell BK460.out 3).trans rfl
        have hfz18_0 := blk_frozen BK460.out 0
        have hfz18_1 := blk_frozen BK460.out 1
        have hfz18_2 := blk_frozen BK460.out 2
        have hfz18_3 := blk_frozen BK460.out 3
        have hcz19_0 : wr.cell? ⟨gb461, 0, none⟩ = some (.slice A1_0 l1_0.length c1_0) := (blk_cell BK461.out 0).trans rfl
        have hcz19_1 : wr.cell? ⟨gb461, 1, none⟩ = some (.int .i64 a1_1) := (blk_cell BK461.out 1).trans rfl
        have hcz19_2 : wr.cell? ⟨gb461, 2, none⟩ = some (.int .i64 a1_2) := (blk_cell BK461.out 2).trans rfl
        have hcz19_3 : wr.cell? ⟨gb461, 3, none⟩ = some (.int .i64 a1_3) := (blk_cell BK461.out 3).trans rfl
        have hfz19_0 := blk_frozen BK461.out 0
        have hfz19_1 := blk_frozen BK461.out 1
        have hfz19_2 := blk_frozen BK461.out 2
        have hfz19_3 := blk_frozen BK461.out 3
        have p462 : 0 ≤ (x5_1 : Int) := of_decide_eq_true (by first | (with_reducible assumption) | assumption)
        have q462 : x5_1 < (l1_0.length : Int) := of_decide_eq_true (by first | (with_reducible assumption) | assumption)
        obtain ⟨ad462, e462, hx462_0⟩ := Kd.at_int HR1_0.out x5_1 p462 q462
        cases e462
        replace hx462_0 := (HB.out.cell (World.block_lt_of_cell? w _ hx462_0)).trans hx462_0
        replace p462 := eq_true p462
        replace q462 := eq_true q462
        have p463 : 0 ≤ (x5_1 : Int) := of_decide_eq_true (by first | (with_reducible assumption) | assumption)
        have q463 : x5_1 < (l0_1.length : Int) := of_decide_eq_true (by first | (with_reducible assumption) | assumption)
        obtain ⟨ad463, e463, hx463_0⟩ := Kd.at_int HR0_1.out x5_1 p463 q463
        cases e463
        replace hx463_0 := (HB.out.cell (World.block_lt_of_cell? w _ hx463_0)).trans hx463_0
        replace p463 := eq_true p463
        replace q463 := eq_true q463
        go_wp2_with (first | (go_at_call 62; (with_reducible refine (dioramaref07_In.calls (rd l1_0 x5_1) (rd l0_1 x5_1) false _ A12.out).mono ?_); rintro e w' ⟨rfl, ⟨nd, rfl⟩⟩; (try first | exact ⟨rfl, _, World.drewN_drewN _ _ _⟩ | exact ⟨rfl, _, Eq.trans (World.drewN_drewN _ _ _) (congrArg (World.drewN _) (Nat.add_assoc _ _ _))⟩)))
        repeat (go_quiet (first | (go_at_call 62; (with_reducible refine (dioramaref07_In.calls (rd l1_0 x5_1) (rd l0_1 x5_1) false _ A12.out).mono ?_); rintro e w' ⟨rfl, ⟨nd, rfl⟩⟩; (try first | exact ⟨rfl, _, World.drewN_drewN _ _ _⟩ | exact ⟨rfl, _, Eq.trans (World.drewN_drewN _ _ _) (congrArg (World.drewN _) (Nat.add_assoc _ _ _))⟩))); try go_wp2_with (first | (go_at_call 62; (with_reducible refine (dioramaref07_In.calls (rd l1_0 x5_1) (rd l0_1 x5_1) false _ A12.out).mono ?_); rintro e w' ⟨rfl, ⟨nd, rfl⟩⟩; (try first | exact ⟨rfl, _, World.drewN_drewN _ _ _⟩ | exact ⟨rfl, _, Eq.trans (World.drewN_drewN _ _ _) (congrArg (World.drewN _) (Nat.add_assoc _ _ _))⟩))))
        go_ret
        exact ⟨by first | rfl | (simp [errW_none, errW_some] <;> rfl) | (simp [*, errW_none, errW_some] <;> rfl), by repeat (first | (with_reducible first | exact HB.out | apply below_alloc | apply pw_below_drewN | apply below_drew1 | refine below_set ?_ GE460.out | refine below_set ?_ GE461.out) | exact HB.out)⟩
      ·rw [if_neg c11] at H
       exact absurd H (by simp)
     ·rw [if_neg c10] at H
      exact absurd H (by simp)
    ·rw [if_neg c9] at H
     have c9b0 : decide (x5_1 < (l0_1.length : Int)) = false := decide_eq_false c9
     clear c9
     by_cases c20 : (l0_2.length : Int) = a1_1
     ·rw [if_pos c20] at H
      have c20b0 : ((l0_2.length : Int) == a1_1) = true := beq_iff_eq.mpr c20
      have c20b1 : ((l0_2.length : Int) != a1_1) = false := bne_eq_false_iff_eq.mpr c20
      clear c20
      have H' := Aside0.mk H
      clear H
      have hnb21 := NB460_461.out
      have hnc21 := NB461_460.out
      have hcz22_0 : wr.cell? ⟨gb460, 0, none⟩ = some (.int .i64 a0_0) := (blk_cell BK460.out 0).trans rfl
      have hcz22_1 : wr.cell? ⟨gb460, 1, none⟩ = some (.slice A0_1 l0_1.length c0_1) := (blk_cell BK460.out 1).trans rfl
      have hcz22_2 : wr.cell? ⟨gb460, 2, none⟩ = some (.slice A0_2 l0_2.length c0_2) := (blk_cell BK460.out 2).trans rfl
      have hcz22_3 : wr.cell? ⟨gb460, 3, none⟩ = some (.slice A0_3 l0_3.length c0_3) := (blk_cell BK460.out 3).trans rfl
      have hfz22_0 := blk_frozen BK460.out 0
      have hfz22_1 := blk_frozen BK460.out 1
      have hfz22_2 := blk_frozen BK460.out 2
      have hfz22_3 := blk_frozen BK460.out 3
      have hcz23_0 : wr.cell? ⟨gb461, 0, none⟩ = some (.slice A1_0 l1_0.length c1_0) := (blk_cell BK461.out 0).trans rfl
      have hcz23_1 : wr.cell? ⟨gb461, 1, none⟩ = some (.int .i64 a1_1) := (blk_cell BK461.out 1).trans rfl
      have hcz23_2 : wr.cell? ⟨gb461, 2, none⟩ = some (.int .i64 a1_2) := (blk_cell BK461.out 2).trans rfl
      have hcz23_3 : wr.cell? ⟨gb461, 3, none⟩ = some (.int .i64 a1_3) := (blk_cell BK461.out 3).trans rfl
      have hfz23_0 := blk_frozen BK461.out 0
      have hfz23_1 := blk_frozen BK461.out 1
      have hfz23_2 := blk_frozen BK461.out 2
      have hfz23_3 := blk_frozen BK461.out 3
      go_wp2
      repeat (go_quiet (fail); try go_wp2)
      go_loopg [6] k1 (fun kq v6 w' => ∃ (x6_2 : Int), v6 = .int .i64 x6_2 ∧ Aside0 (dioramaref08_Check.l1 kq x6_2 a0_0 l0_1 l0_2 l0_3 l1_0 a1_1 a1_2 a1_3 = some r) ∧ Aside0 (kq ≤ k1) ∧ Aside0 (w'.heap[gb460]? = some (.cells #[.int .i64 a0_0, (.slice A0_1 l0_1.length c0_1), (.slice A0_2 l0_2.length c0_2), (.slice A0_3 l0_3.length c0_3)] 42 (0, 0))) ∧ Aside0 (w'.heap[gb461]? = some (.cells #[(.slice A1_0 l1_0.length c1_0), .int .i64 a1_1, .int .i64 a1_2, .int .i64 a1_3] 66 (0, 0))) ∧ Aside0 (Below w.heap.size w w'))
      case atStart => exact ⟨(0), (by first | rfl | (simp; done) | (simp [*]; done)), H', ⟨Nat.le_refl _⟩, ⟨by (with_reducible repeat (first | refine blk_drewN ?_ _ | refine blk_drew ?_ | refine blk_alloc ?_ _)); exact BK460.out⟩, ⟨by (with_reducible repeat (first | refine blk_drewN ?_ _ | refine blk_drew ?_ | refine blk_alloc ?_ _)); exact BK461.out⟩, ⟨by repeat (first | (with_reducible first | exact HB.out | apply below_alloc | apply pw_below_drewN | apply below_drew1 | refine below_set ?_ GE460.out | refine below_set ?_ GE461.out) | exact HB.out)⟩⟩
      case round =>
       clear H'
       try clear c1
       try clear c2
       try clear p2
       try clear c3
       try clear c3b0
       try clear c3b1
       try clear c3b2
       try clear p4
       try clear q4
       try clear hx4
       try clear c6
       try clear p6
       try clear c9
       try clear c9b0
       try clear c10
       try clear c10b0
       try clear c11
       try clear c11b0
       try clear c13
       try clear c14
       try clear c17
       try clear c20
       try clear c20b0
       try clear c20b1
       try clear c21
       try clear hcz15_0
       try clear hcz15_1
       try clear hcz15_2
       try clear hcz15_3
       try clear hcz16_0
       try clear hcz16_1
       try clear hcz16_2
       try clear hcz16_3
       try clear hcz18_0
       try clear hcz18_1
       try clear hcz18_2
       try clear hcz18_3
       try clear hcz19_0
       try clear hcz19_1
       try clear hcz19_2
       try clear hcz19_3
       try clear hcz22_0
       try clear hcz22_1
       try clear hcz22_2
       try clear hcz22_3
       try clear hcz23_0
       try clear hcz23_1
       try clear hcz23_2
       try clear hcz23_3
       try clear hcz7_0
       try clear hcz7_1
       try clear hcz7_2
       try clear hcz7_3
       try clear hcz8_0
       try clear hcz8_1
       try clear hcz8_2
       try clear hcz8_3
       try clear hfz15_0
       try clear hfz15_1
       try clear hfz15_2
       try clear hfz15_3
       try clear hfz16_0
       try clear hfz16_1
       try clear hfz16_2
       try clear hfz16_3
       try clear hfz18_0
       try clear hfz18_1
       try clear hfz18_2
       try clear hfz18_3
       try clear hfz19_0
       try clear hfz19_1
       try clear hfz19_2
       try clear hfz19_3
       try clear hfz22_0
       try clear hfz22_1
       try clear hfz22_2
       try clear hfz22_3
       try clear hfz23_0
       try clear hfz23_1
       try clear hfz23_2
       try clear hfz23_3
       try clear hfz7_0
       try clear hfz7_1
       try clear hfz7_2
       try clear hfz7_3
       try clear hfz8_0
       try clear hfz8_1
       try clear hfz8_2
       try clear hfz8_3
       try clear hx462_0
       try clear hx463_0
       try clear p2
       try clear p462
       try clear p463
       try clear q462
       try clear q463
       obtain ⟨x6_2, rfl, HA, HK2, BK460, BK461, HB⟩ := hrel
       cases gk with
       | zero => exact absurd HA.out (by simp [dioramaref08_Check.l1])
       | succ k2 =>
        have H := HA.out
        clear HA
        simp only [dioramaref08_Check.l1] at H
        by_cases c24 : x6_2 < (l0_2.length : Int)
        ·rw [if_pos c24] at H
         have c24b0 : decide (x6_2 < (l0_2.length : Int)) = true := decide_eq_true c24
         clear c24
         by_cases c25 : 0 ≤ x6_2
         ·rw [if_pos c25] at H
          have c25b0 : decide (0 ≤ x6_2) = true := decide_eq_true c25
          clear c25
          replace H := Option.bind_eq_some_iff.mp H
          obtain ⟨t466, A260, H⟩ := H
          replace H : (if t466 = true then (dioramaref08_Check.l1 k2 (wrap64 (x6_2 + 1)) a0_0 l0_1 l0_2 l0_3 l1_0 a1_1 a1_2 a1_3) else (some 11)) = some r := H
          have A26 := Aside0.mk A260
          clear A260
          by_cases c27 : t466 = true
          ·subst c27
           have H1 : (dioramaref08_Check.l1 k2 (wrap64 (x6_2 + 1)) a0_0 l0_1 l0_2 l0_3 l1_0 a1_1 a1_2 a1_3) = some r := by rw [if_pos rfl] at H; exact H
           clear H
           have H := H1
           clear H1
           have H' := Aside0.mk H
           clear H
           have hnb28 := NB460_461.out
           have hnc28 := NB461_460.out
           have hcz29_0 : wr.cell? ⟨gb460, 0, none⟩ = some (.int .i64 a0_0) := (blk_cell BK460.out 0).trans rfl
           have hcz29_1 : wr.cell? ⟨gb460, 1, none⟩ = some (.slice A0_1 l0_1.length c0_1) := (blk_cell BK460.out 1).trans rfl
           have hcz29_2 : wr.cell? ⟨gb460, 2, none⟩ = some (.slice A0_2 l0_2.length c0_2) := (blk_cell BK460.out 2).trans rfl
           have hcz29_3 : wr.cell? ⟨gb460, 3, none⟩ = some (.slice A0_3 l0_3.length c0_3) := (blk_cell BK460.out 3).trans rfl
           have hfz29_0 := blk_frozen BK460.out 0
           have hfz29_1 := blk_frozen BK460.out 1
           have hfz29_2 := blk_frozen BK460.out 2
           have hfz29_3 := blk_frozen BK460.out 3
           have p465 : 0 ≤ (x6_2 : Int) := of_decide_eq_true (by first | (with_reducible assumption) | assumption)
           have q465 : x6_2 < (l0_2.length : Int) := of_decide_eq_true (by first | (with_reducible assumption) | assumption)
           obtain ⟨ad465, e465, hx465_0⟩ := Kd.at_string HR0_2.out x6_2 p465 q465
           cases e465
           replace hx465_0 := (HB.out.cell (World.block_lt_of_cell? w _ hx465_0)).trans hx465_0
           replace p465 := eq_true p465
           replace q465 := eq_true q465
           go_wp2_with (first | (go_at_call 63; (with_reducible refine (dioramaref05_Right.calls k2 (rdOf ByteArray.empty l0_2 x6_2) true _ A26.out).mono ?_); rintro e w30 ⟨rfl, hb⟩; have n0_ := Aside0.mk (blk_below (g := gb460) (o := .cells #[.int .i64 a0_0, .slice A0_1 l0_1.length c0_1, .slice (some ad465) l0_2.length c0_2, .slice A0_3 l0_3.length c0_3] 42 (0, 0)) (by (with_reducible repeat (first | refine blk_drewN ?_ _ | refine blk_drew ?_ | refine blk_alloc ?_ _)); exact BK460.out) hb); have n1_ := Aside0.mk (blk_below (g := gb461) (o := .cells #[.slice A1_0 l1_0.length c1_0, .int .i64 a1_1, .int .i64 a1_2, .int .i64 a1_3] 66 (0, 0)) (by (with_reducible repeat (first | refine blk_drewN ?_ _ | refine blk_drew ?_ | refine blk_alloc ?_ _)); exact BK461.out) hb); have n2_ := Aside0.mk (below_step (by repeat (first | (with_reducible first | exact HB.out | apply below_alloc | apply pw_below_drewN | apply below_drew1 | refine below_set ?_ GE460.out | refine below_set ?_ GE461.out) | exact HB.out)) hb); clear BK460; clear BK461; clear HB; have BK460 := n0_; have BK461 := n1_; have HB := n2_; clear n0_ n1_ n2_; (try clear hb); (try clear hb2); (try clear hk); (try clear hi)))
           repeat (go_quiet (first | (go_at_call 63; (with_reducible refine (dioramaref05_Right.calls k2 (rdOf ByteArray.empty l0_2 x6_2) true _ A26.out).mono ?_); rintro e w30 ⟨rfl, hb⟩; have n0_ := Aside0.mk (blk_below (g := gb460) (o := .cells #[.int .i64 a0_0, .slice A0_1 l0_1.length c0_1, .slice (some ad465) l0_2.length c0_2, .slice A0_3 l0_3.length c0_3] 42 (0, 0)) (by (with_reducible repeat (first | refine blk_drewN ?_ _ | refine blk_drew ?_ | refine blk_alloc ?_ _)); exact BK460.out) hb); have n1_ := Aside0.mk (blk_below (g := gb461) (o := .cells #[.slice A1_0 l1_0.length c1_0, .int .i64 a1_1, .int .i64 a1_2, .int .i64 a1_3] 66 (0, 0)) (by (with_reducible repeat (first | refine blk_drewN ?_ _ | refine blk_drew ?_ | refine blk_alloc ?_ _)); exact BK461.out) hb); have n2_ := Aside0.mk (below_step (by repeat (first | (with_reducible first | exact HB.out | apply below_alloc | apply pw_below_drewN | apply below_drew1 | refine below_set ?_ GE460.out | refine below_set ?_ GE461.out) | exact HB.out)) hb); clear BK460; clear BK461; clear HB; have BK460 := n0_; have BK461 := n1_; have HB := n2_; clear n0_ n1_ n2_; (try clear hb); (try clear hb2); (try clear hk); (try clear hi))); try go_wp2_with (first | (go_at_call 63; (with_reducible refine (dioramaref05_Right.calls k2 (rdOf ByteArray.empty l0_2 x6_2) true _ A26.out).mono ?_); rintro e w30 ⟨rfl, hb⟩; have n0_ := Aside0.mk (blk_below (g := gb460) (o := .cells #[.int .i64 a0_0, .slice A0_1 l0_1.length c0_1, .slice (some ad465) l0_2.length c0_2, .slice A0_3 l0_3.length c0_3] 42 (0, 0)) (by (with_reducible repeat (first | refine blk_drewN ?_ _ | refine blk_drew ?_ | refine blk_alloc ?_ _)); exact BK460.out) hb); have n1_ := Aside0.mk (blk_below (g := gb461) (o := .cells #[.slice A1_0 l1_0.length c1_0, .int .i64 a1_1, .int .i64 a1_2, .int .i64 a1_3] 66 (0, 0)) (by (with_reducible repeat (first | refine blk_drewN ?_ _ | refine blk_drew ?_ | refine blk_alloc ?_ _)); exact BK461.out) hb); have n2_ := Aside0.mk (below_step (by repeat (first | (with_reducible first | exact HB.out | apply below_alloc | apply pw_below_drewN | apply below_drew1 | refine below_set ?_ GE460.out | refine below_set ?_ GE461.out) | exact HB.out)) hb); clear BK460; clear BK461; clear HB; have BK460 := n0_; have BK461 := n1_; have HB := n2_; clear n0_ n1_ n2_; (try clear hb); (try clear hb2); (try clear hk); (try clear hi))))
           go_roundg k2
           case measure => have := HK1.out; have := HK2.out; omega
           case rel => exact ⟨(wrap64 (x6_2 + 1)), (by first | rfl | (simp; done) | (simp [*]; done)), H', ⟨by have := HK1.out; have := HK2.out; omega⟩, ⟨by (with_reducible repeat (first | refine blk_drewN ?_ _ | refine blk_drew ?_ | refine blk_alloc ?_ _)); exact BK460.out⟩, ⟨by (with_reducible repeat (first | refine blk_drewN ?_ _ | refine blk_drew ?_ | refine blk_alloc ?_ _)); exact BK461.out⟩, ⟨by repeat (first | (with_reducible first | exact HB.out | apply below_alloc | apply pw_below_drewN | apply below_drew1 | refine below_set ?_ GE460.out | refine below_set ?_ GE461.out) | exact HB.out)⟩⟩
          ·replace c27 := Bool.eq_false_iff.mpr c27
           subst c27
           have H1 : (some 11) = some r := by rw [if_neg (show ¬ (false = true) by decide)] at H; exact H
           clear H
           have H := H1
           clear H1
           obtain rfl := Option.some.inj H
           have hnb31 := NB460_461.out
           have hnc31 := NB461_460.out
           have hcz32_0 : wr.cell? ⟨gb460, 0, none⟩ = some (.int .i64 a0_0) := (blk_cell BK460.out 0).trans rfl
           have hcz32_1 : wr.cell? ⟨gb460, 1, none⟩ = some (.slice A0_1 l0_1.length c0_1) := (blk_cell BK460.out 1).trans rfl
           have hcz32_2 : wr.cell? ⟨gb460, 2, none⟩ = some (.slice A0_2 l0_2.length c0_2) := (blk_cell BK460.out 2).trans rfl
           have hcz32_3 : wr.cell? ⟨gb460, 3, none⟩ = some (.slice A0_3 l0_3.length c0_3) := (blk_cell BK460.out 3).trans rfl
           have hfz32_0 := blk_frozen BK460.out 0
           have hfz32_1 := blk_frozen BK460.out 1
           have hfz32_2 := blk_frozen BK460.out 2
           have hfz32_3 := blk_frozen BK460.out 3
           have p465 : 0 ≤ (x6_2 : Int) := of_decide_eq_true (by first | (with_reducible assumption) | assumption)
           have q465 : x6_2 < (l0_2.length : Int) := of_decide_eq_true (by first | (with_reducible assumption) | assumption)
           obtain ⟨ad465, e465, hx465_0⟩ := Kd.at_string HR0_2.out x6_2 p465 q465
           cases e465
           replace hx465_0 := (HB.out.cell (World.block_lt_of_cell? w _ hx465_0)).trans hx465_0
           replace p465 := eq_true p465
           replace q465 := eq_true q465
           go_wp2_with (first | (go_at_call 63; (with_reducible refine (dioramaref05_Right.calls k2 (rdOf ByteArray.empty l0_2 x6_2) false _ A26.out).mono ?_); rintro e w33 ⟨rfl, hb⟩; have n0_ := Aside0.mk (blk_below (g := gb460) (o := .cells #[.int .i64 a0_0, .slice A0_1 l0_1.length c0_1, .slice (some ad465) l0_2.length c0_2, .slice A0_3 l0_3.length c0_3] 42 (0, 0)) (by (with_reducible repeat (first | refine blk_drewN ?_ _ | refine blk_drew ?_ | refine blk_alloc ?_ _)); exact BK460.out) hb); have n1_ := Aside0.mk (blk_below (g := gb461) (o := .cells #[.slice A1_0 l1_0.length c1_0, .int .i64 a1_1, .int .i64 a1_2, .int .i64 a1_3] 66 (0, 0)) (by (with_reducible repeat (first | refine blk_drewN ?_ _ | refine blk_drew ?_ | refine blk_alloc ?_ _)); exact BK461.out) hb); have n2_ := Aside0.mk (below_step (by repeat (first | (with_reducible first | exact HB.out | apply below_alloc | apply pw_below_drewN | apply below_drew1 | refine below_set ?_ GE460.out | refine below_set ?_ GE461.out) | exact HB.out)) hb); clear BK460; clear BK461; clear HB; have BK460 := n0_; have BK461 := n1_; have HB := n2_; clear n0_ n1_ n2_; (try clear hb); (try clear hb2); (try clear hk); (try clear hi)))
           repeat (go_quiet (first | (go_at_call 63; (with_reducible refine (dioramaref05_Right.calls k2 (rdOf ByteArray.empty l0_2 x6_2) false _ A26.out).mono ?_); rintro e w33 ⟨rfl, hb⟩; have n0_ := Aside0.mk (blk_below (g := gb460) (o := .cells #[.int .i64 a0_0, .slice A0_1 l0_1.length c0_1, .slice (some ad465) l0_2.length c0_2, .slice A0_3 l0_3.length c0_3] 42 (0, 0)) (by (with_reducible repeat (first | refine blk_drewN ?_ _ | refine blk_drew ?_ | refine blk_alloc ?_ _)); exact BK460.out) hb); have n1_ := Aside0.mk (blk_below (g := gb461) (o := .cells #[.slice A1_0 l1_0.length c1_0, .int .i64 a1_1, .int .i64 a1_2, .int .i64 a1_3] 66 (0, 0)) (by (with_reducible repeat (first | refine blk_drewN ?_ _ | refine blk_drew ?_ | refine blk_alloc ?_ _)); exact BK461.out) hb); have n2_ := Aside0.mk (below_step (by repeat (first | (with_reducible first | exact HB.out | apply below_alloc | apply pw_below_drewN | apply below_drew1 | refine below_set ?_ GE460.out | refine below_set ?_ GE461.out) | exact HB.out)) hb); clear BK460; clear BK461; clear HB; have BK460 := n0_; have BK461 := n1_; have HB := n2_; clear n0_ n1_ n2_; (try clear hb); (try clear hb2); (try clear hk); (try clear hi))); try go_wp2_with (first | (go_at_call 63; (with_reducible refine (dioramaref05_Right.calls k2 (rdOf ByteArray.empty l0_2 x6_2) false _ A26.out).mono ?_); rintro e w33 ⟨rfl, hb⟩; have n0_ := Aside0.mk (blk_below (g := gb460) (o := .cells #[.int .i64 a0_0, .slice A0_1 l0_1.length c0_1, .slice (some ad465) l0_2.length c0_2, .slice A0_3 l0_3.length c0_3] 42 (0, 0)) (by (with_reducible repeat (first | refine blk_drewN ?_ _ | refine blk_drew ?_ | refine blk_alloc ?_ _)); exact BK460.out) hb); have n1_ := Aside0.mk (blk_below (g := gb461) (o := .cells #[.slice A1_0 l1_0.length c1_0, .int .i64 a1_1, .int .i64 a1_2, .int .i64 a1_3] 66 (0, 0)) (by (with_reducible repeat (first | refine blk_drewN ?_ _ | refine blk_drew ?_ | refine blk_alloc ?_ _)); exact BK461.out) hb); have n2_ := Aside0.mk (below_step (by repeat (first | (with_reducible first | exact HB.out | apply below_alloc | apply pw_below_drewN | apply below_drew1 | refine below_set ?_ GE460.out | refine below_set ?_ GE461.out) | exact HB.out)) hb); clear BK460; clear BK461; clear HB; have BK460 := n0_; have BK461 := n1_; have HB := n2_; clear n0_ n1_ n2_; (try clear hb); (try clear hb2); (try clear hk); (try clear hi))))
           go_ret
           exact ⟨by first | rfl | (simp [errW_none, errW_some] <;> rfl) | (simp [*, errW_none, errW_some] <;> rfl), by repeat (first | (with_reducible first | exact HB.out | apply below_alloc | apply pw_below_drewN | apply below_drew1 | refine below_set ?_ GE460.out | refine below_set ?_ GE461.out) | exact HB.out)⟩
         ·rw [if_neg c25] at H
          exact absurd H (by simp)
        ·rw [if_neg c24] at H
         have c24b0 : decide (x6_2 < (l0_2.length : Int)) = false := decide_eq_false c24
         clear c24
         by_cases c34 : (l0_3.length : Int) < a1_2
         ·rw [if_pos c34] at H
          have c34b0 : decide ((l0_3.length : Int) < a1_2) = true := decide_eq_true c34
          clear c34
          obtain rfl := Option.some.inj H
          have hnb35 := NB460_461.out
          have hnc35 := NB461_460.out
          have hcz36_0 : wr.cell? ⟨gb460, 0, none⟩ = some (.int .i64 a0_0) := (blk_cell BK460.out 0).trans rfl
          have hcz36_1 : wr.cell? ⟨gb460, 1, none⟩ = some (.slice A0_1 l0_1.length c0_1) := (blk_cell BK460.out 1).trans rfl
          have hcz36_2 : wr.cell? ⟨gb460, 2, none⟩ = some (.slice A0_2 l0_2.length c0_2) := (blk_cell BK460.out 2).trans rfl
          have hcz36_3 : wr.cell? ⟨gb460, 3, none⟩ = some (.slice A0_3 l0_3.length c0_3) := (blk_cell BK460.out 3).trans rfl
          have hfz36_0 := blk_frozen BK460.out 0
          have hfz36_1 := blk_frozen BK460.out 1
          have hfz36_2 := blk_frozen BK460.out 2
          have hfz36_3 := blk_frozen BK460.out 3
          have hcz37_0 : wr.cell? ⟨gb461, 0, none⟩ = some (.slice A1_0 l1_0.length c1_0) := (blk_cell BK461.out 0).trans rfl
          have hcz37_1 : wr.cell? ⟨gb461, 1, none⟩ = some (.int .i64 a1_1) := (blk_cell BK461.out 1).trans rfl
          have hcz37_2 : wr.cell? ⟨gb461, 2, none⟩ = some (.int .i64 a1_2) := (blk_cell BK461.out 2).trans rfl
          have hcz37_3 : wr.cell? ⟨gb461, 3, none⟩ = some (.int .i64 a1_3) := (blk_cell BK461.out 3).trans rfl
          have hfz37_0 := blk_frozen BK461.out 0
          have hfz37_1 := blk_frozen BK461.out 1
          have hfz37_2 := blk_frozen BK461.out 2
          have hfz37_3 := blk_frozen BK461.out 3
          go_wp2
          repeat (go_quiet (fail); try go_wp2)
          go_ret
          exact ⟨by first | rfl | (simp [errW_none, errW_some] <;> rfl) | (simp [*, errW_none, errW_some] <;> rfl), by repeat (first | (with_reducible first | exact HB.out | apply below_alloc | apply pw_below_drewN | apply below_drew1 | refine below_set ?_ GE460.out | refine below_set ?_ GE461.out) | exact HB.out)⟩
         ·rw [if_neg c34] at H
          have c34b0 : decide ((l0_3.length : Int) < a1_2) = false := decide_eq_false c34
          clear c34
          by_cases c38 : a1_3 ≥ 0
          ·rw [if_pos c38] at H
           have c38b0 : decide (0 ≤ a1_3) = true := decide_eq_true c38
           clear c38
           by_cases c39 : (l0_3.length : Int) > a1_3
           ·rw [if_pos c39] at H
            have c39b0 : decide (a1_3 < (l0_3.length : Int)) = true := decide_eq_true c39
            clear c39
            obtain rfl := Option.some.inj H
            have hnb40 := NB460_461.out
            have hnc40 := NB461_460.out
            have hcz41_0 : wr.cell? ⟨gb460, 0, none⟩ = some (.int .i64 a0_0) := (blk_cell BK460.out 0).trans rfl
            have hcz41_1 : wr.cell? ⟨gb460, 1, none⟩ = some (.slice A0_1 l0_1.length c0_1) := (blk_cell BK460.out 1).trans rfl
            have hcz41_2 : wr.cell? ⟨gb460, 2, none⟩ = some (.slice A0_2 l0_2.length c0_2) := (blk_cell BK460.out 2).trans rfl
            have hcz41_3 : wr.cell? ⟨gb460, 3, none⟩ = some (.slice A0_3 l0_3.length c0_3) := (blk_cell BK460.out 3).trans rfl
            have hfz41_0 := blk_frozen BK460.out 0
            have hfz41_1 := blk_frozen BK460.out 1
            have hfz41_2 := blk_frozen BK460.out 2
            have hfz41_3 := blk_frozen BK460.out 3
            have hcz42_0 : wr.cell? ⟨gb461, 0, none⟩ = some (.slice A1_0 l1_0.length c1_0) := (blk_cell BK461.out 0).trans rfl
            have hcz42_1 : wr.cell? ⟨gb461, 1, none⟩ = some (.int .i64 a1_1) := (blk_cell BK461.out 1).trans rfl
            have hcz42_2 : wr.cell? ⟨gb461, 2, none⟩ = some (.int .i64 a1_2) := (blk_cell BK461.out 2).trans rfl
            have hcz42_3 : wr.cell? ⟨gb461, 3, none⟩ = some (.int .i64 a1_3) := (blk_cell BK461.out 3).trans rfl
            have hfz42_0 := blk_frozen BK461.out 0
            have hfz42_1 := blk_frozen BK461.out 1
            have hfz42_2 := blk_frozen BK461.out 2
            have hfz42_3 := blk_frozen BK461.out 3
            go_wp2
            repeat (go_quiet (fail); try go_wp2)
            go_ret
            exact ⟨by first | rfl | (simp [errW_none, errW_some] <;> rfl) | (simp [*, errW_none, errW_some] <;> rfl), by repeat (first | (with_reducible first | exact HB.out | apply below_alloc | apply pw_below_drewN | apply below_drew1 | refine below_set ?_ GE460.out | refine below_set ?_ GE461.out) | exact HB.out)⟩
           ·rw [if_neg c39] at H
            have c39b0 : decide (a1_3 < (l0_3.length : Int)) = false := decide_eq_false c39
            clear c39
            obtain rfl := Option.some.inj H
            have hnb43 := NB460_461.out
            have hnc43 := NB461_460.out
            have hcz44_0 : wr.cell? ⟨gb460, 0, none⟩ = some (.int .i64 a0_0) := (blk_cell BK460.out 0).trans rfl
            have hcz44_1 : wr.cell? ⟨gb460, 1, none⟩ = some (.slice A0_1 l0_1.length c0_1) := (blk_cell BK460.out 1).trans rfl
            have hcz44_2 : wr.cell? ⟨gb460, 2, none⟩ = some (.slice A0_2 l0_2.length c0_2) := (blk_cell BK460.out 2).trans rfl
            have hcz44_3 : wr.cell? ⟨gb460, 3, none⟩ = some (.slice A0_3 l0_3.length c0_3) := (blk_cell BK460.out 3).trans rfl
            have hfz44_0 := blk_frozen BK460.out 0
            have hfz44_1 := blk_frozen BK460.out 1
            have hfz44_2 := blk_frozen BK460.out 2
            have hfz44_3 := blk_frozen BK460.out 3
            have hcz45_0 : wr.cell? ⟨gb461, 0, none⟩ = some (.slice A1_0 l1_0.length c1_0) := (blk_cell BK461.out 0).trans rfl
            have hcz45_1 : wr.cell? ⟨gb461, 1, none⟩ = some (.int .i64 a1_1) := (blk_cell BK461.out 1).trans rfl
            have hcz45_2 : wr.cell? ⟨gb461, 2, none⟩ = some (.int .i64 a1_2) := (blk_cell BK461.out 2).trans rfl
            have hcz45_3 : wr.cell? ⟨gb461, 3, none⟩ = some (.int .i64 a1_3) := (blk_cell BK461.out 3).trans rfl
            have hfz45_0 := blk_frozen BK461.out 0
            have hfz45_1 := blk_frozen BK461.out 1
            have hfz45_2 := blk_frozen BK461.out 2
            have hfz45_3 := blk_frozen BK461.out 3
            go_wp2
            repeat (go_quiet (fail); try go_wp2)
            go_ret
            exact ⟨by first | rfl | (simp [errW_none, errW_some] <;> rfl) | (simp [*, errW_none, errW_some] <;> rfl), by repeat (first | (with_reducible first | exact HB.out | apply below_alloc | apply pw_below_drewN | apply below_drew1 | refine below_set ?_ GE460.out | refine below_set ?_ GE461.out) | exact HB.out)⟩
          ·rw [if_neg c38] at H
           have c38b0 : decide (0 ≤ a1_3) = false := decide_eq_false c38
           clear c38
           obtain rfl := Option.some.inj H
           have hnb46 := NB460_461.out
           have hnc46 := NB461_460.out
           have hcz47_0 : wr.cell? ⟨gb460, 0, none⟩ = some (.int .i64 a0_0) := (blk_cell BK460.out 0).trans rfl
           have hcz47_1 : wr.cell? ⟨gb460, 1, none⟩ = some (.slice A0_1 l0_1.length c0_1) := (blk_cell BK460.out 1).trans rfl
           have hcz47_2 : wr.cell? ⟨gb460, 2, none⟩ = some (.slice A0_2 l0_2.length c0_2) := (blk_cell BK460.out 2).trans rfl
           have hcz47_3 : wr.cell? ⟨gb460, 3, none⟩ = some (.slice A0_3 l0_3.length c0_3) := (blk_cell BK460.out 3).trans rfl
           have hfz47_0 := blk_frozen BK460.out 0
           have hfz47_1 := blk_frozen BK460.out 1
           have hfz47_2 := blk_frozen BK460.out 2
           have hfz47_3 := blk_frozen BK460.out 3
           have hcz48_0 : wr.cell? ⟨gb461, 0, none⟩ = some (.slice A1_0 l1_0.length c1_0) := (blk_cell BK461.out 0).trans rfl
           have hcz48_1 : wr.cell? ⟨gb461, 1, none⟩ = some (.int .i64 a1_1) := (blk_cell BK461.out 1).trans rfl
           have hcz48_2 : wr.cell? ⟨gb461, 2, none⟩ = some (.int .i64 a1_2) := (blk_cell BK461.out 2).trans rfl
           have hcz48_3 : wr.cell? ⟨gb461, 3, none⟩ = some (.int .i64 a1_3) := (blk_cell BK461.out 3).trans rfl
           have hfz48_0 := blk_frozen BK461.out 0
           have hfz48_1 := blk_frozen BK461.out 1
           have hfz48_2 := blk_frozen BK461.out 2
           have hfz48_3 := blk_frozen BK461.out 3
           go_wp2
           repeat (go_quiet (fail); try go_wp2)
           go_ret
           exact ⟨by first | rfl | (simp [errW_none, errW_some] <;> rfl) | (simp [*, errW_none, errW_some] <;> rfl), by repeat (first | (with_reducible first | exact HB.out | apply below_alloc | apply pw_below_drewN | apply below_drew1 | refine below_set ?_ GE460.out | refine below_set ?_ GE461.out) | exact HB.out)⟩
     ·rw [if_neg c20] at H
      have c20b0 : ((l0_2.length : Int) == a1_1) = false := beq_eq_false_iff_ne.mpr c20
      have c20b1 : ((l0_2.length : Int) != a1_1) = true := bne_iff_ne.mpr c20
      obtain rfl := Option.some.inj H
      have hnb49 := NB460_461.out
      have hnc49 := NB461_460.out
      have hcz50_0 : wr.cell? ⟨gb460, 0, none⟩ = some (.int .i64 a0_0) := (blk_cell BK460.out 0).trans rfl
      have hcz50_1 : wr.cell? ⟨gb460, 1, none⟩ = some (.slice A0_1 l0_1.length c0_1) := (blk_cell BK460.out 1).trans rfl
      have hcz50_2 : wr.cell? ⟨gb460, 2, none⟩ = some (.slice A0_2 l0_2.length c0_2) := (blk_cell BK460.out 2).trans rfl
      have hcz50_3 : wr.cell? ⟨gb460, 3, none⟩ = some (.slice A0_3 l0_3.length c0_3) := (blk_cell BK460.out 3).trans rfl
      have hfz50_0 := blk_frozen BK460.out 0
      have hfz50_1 := blk_frozen BK460.out 1
      have hfz50_2 := blk_frozen BK460.out 2
      have hfz50_3 := blk_frozen BK460.out 3
      have hcz51_0 : wr.cell? ⟨gb461, 0, none⟩ = some (.slice A1_0 l1_0.length c1_0) := (blk_cell BK461.out 0).trans rfl
      have hcz51_1 : wr.cell? ⟨gb461, 1, none⟩ = some (.int .i64 a1_1) := (blk_cell BK461.out 1).trans rfl
      have hcz51_2 : wr.cell? ⟨gb461, 2, none⟩ = some (.int .i64 a1_2) := (blk_cell BK461.out 2).trans rfl
      have hcz51_3 : wr.cell? ⟨gb461, 3, none⟩ = some (.int .i64 a1_3) := (blk_cell BK461.out 3).trans rfl
      have hfz51_0 := blk_frozen BK461.out 0
      have hfz51_1 := blk_frozen BK461.out 1
      have hfz51_2 := blk_frozen BK461.out 2
      have hfz51_3 := blk_frozen BK461.out 3
      go_wp2
      repeat (go_quiet (fail); try go_wp2)
      go_ret
      exact ⟨by first | rfl | (simp [errW_none, errW_some] <;> rfl) | (simp [*, errW_none, errW_some] <;> rfl), by repeat (first | (with_reducible first | exact HB.out | apply below_alloc | apply pw_below_drewN | apply below_drew1 | refine below_set ?_ GE460.out | refine below_set ?_ GE461.out) | exact HB.out)⟩
 ·rw [if_neg c3] at H
  have c3b0 : ((l0_1.length : Int) == (l1_0.length : Int)) = false := beq_eq_false_iff_ne.mpr c3
  have c3b1 : ((l0_1.length : Int) != (l1_0.length : Int)) = true := bne_iff_ne.mpr c3
  have c3b2 : (l0_1.length == l1_0.length) = false := by first | simpa using c3 | (simp at c3 ⊢; omega)
  obtain rfl := Option.some.inj H
  go_enter Tryz.func33, Tryz.ntmps33
  go_wp2_with (first | ((with_reducible refine gate_dst (N := 2) rfl ?_); (try (refine gate_guard (by rfl) ?_; dsimp only)); refine box_event ?hg (N := 2) ?hd (cs := #[.int .i64 a0_0, .slice A0_1 l0_1.length c0_1, .slice A0_2 l0_2.length c0_2, .slice A0_3 l0_3.length c0_3]) (t := 42) ?hr ?_; (case hd => rfl); (case hg => rfl); (case hr => first | (go_simp; done) | (go_simp; rfl)); intro gb460 hg w52 hbox hb; have n0_ := Aside0.mk (below_step (by repeat (first | (with_reducible first | exact HB.out | apply below_alloc | apply pw_below_drewN | apply below_drew1) | exact HB.out)) hb); have n1_ := Aside0.mk (hbox); have n2_ := Aside0.mk ((by rw [hg]; exact (below_size (by repeat (first | (with_reducible first | exact HB.out | apply below_alloc | apply pw_below_drewN | apply below_drew1) | exact HB.out))) : w.heap.size ≤ gb460)); have n3_ := Aside0.mk ((by rw [hg]; exact (below_size (by repeat (first | (with_reducible first | exact HB.out | apply below_alloc | apply pw_below_drewN | apply below_drew1) | exact HB.out))) : w.heap.size ≤ gb460)); clear HB; have HB := n0_; have BK460 := n1_; have GW460 := n2_; have GE460 := n3_; clear n0_ n1_ n2_ n3_; clear hb hbox hg) | ((with_reducible refine gate_dst (N := 3) rfl ?_); (try (refine gate_guard (by rfl) ?_; dsimp only)); refine box_event ?hg (N := 3) ?hd (cs := #[.slice A1_0 l1_0.length c1_0, .int .i64 a1_1, .int .i64 a1_2, .int .i64 a1_3]) (t := 66) ?hr ?_; (case hd => rfl); (case hg => rfl); (case hr => first | (go_simp; done) | (go_simp; rfl)); intro gb461 hg w53 hbox hb; have n0_ := Aside0.mk (blk_below (g := gb460) (o := .cells #[.int .i64 a0_0, .slice A0_1 l0_1.length c0_1, .slice A0_2 l0_2.length c0_2, .slice A0_3 l0_3.length c0_3] 42 (0, 0)) (by (with_reducible repeat (first | refine blk_drewN ?_ _ | refine blk_drew ?_ | refine blk_alloc ?_ _)); exact BK460.out) hb); have n1_ := Aside0.mk (below_step (by repeat (first | (with_reducible first | exact HB.out | apply below_alloc | apply pw_below_drewN | apply below_drew1 | refine below_set ?_ GE460.out) | exact HB.out)) hb); have n2_ := Aside0.mk (hbox); have n3_ := Aside0.mk ((by rw [hg]; exact (below_size (by repeat (first | (with_reducible first | exact HB.out | apply below_alloc | apply pw_below_drewN | apply below_drew1 | refine below_set ?_ GE460.out) | exact HB.out))) : w.heap.size ≤ gb461)); have n4_ := Aside0.mk ((by rw [hg]; exact (below_size (by repeat (first | (with_reducible first | exact HB.out | apply below_alloc | apply pw_below_drewN | apply below_drew1 | refine below_set ?_ GE460.out) | exact HB.out))) : w.heap.size ≤ gb461)); have n5_ := Aside0.mk ((by rw [hg]; exact Nat.ne_of_lt (blk_lt (g := gb460) (o := .cells #[.int .i64 a0_0, .slice A0_1 l0_1.length c0_1, .slice A0_2 l0_2.length c0_2, .slice A0_3 l0_3.length c0_3] 42 (0, 0)) (by (with_reducible repeat (first | refine blk_drewN ?_ _ | refine blk_drew ?_ | refine blk_alloc ?_ _)); exact BK460.out)) : gb460 ≠ gb461)); have n6_ := Aside0.mk ((by rw [hg]; exact Nat.ne_of_gt (blk_lt (g := gb460) (o := .cells #[.int .i64 a0_0, .slice A0_1 l0_1.length c0_1, .slice A0_2 l0_2.length c0_2, .slice A0_3 l0_3.length c0_3] 42 (0, 0)) (by (with_reducible repeat (first | refine blk_drewN ?_ _ | refine blk_drew ?_ | refine blk_alloc ?_ _)); exact BK460.out)) : gb461 ≠ gb460)); clear BK460; clear HB; have BK460 := n0_; have HB := n1_; have BK461 := n2_; have GW461 := n3_; have GE461 := n4_; have NB460_461 := n5_; have NB461_460 := n6_; clear n0_ n1_ n2_ n3_ n4_ n5_ n6_; clear hb hbox hg; have hnb54 := NB460_461.out; have hnc54 := NB461_460.out; have hcz55_0 : w53.cell? ⟨gb460, 0, none⟩ = some (.int .i64 a0_0) := (blk_cell BK460.out 0).trans rfl; have hcz55_1 : w53.cell? ⟨gb460, 1, none⟩ = some (.slice A0_1 l0_1.length c0_1) := (blk_cell BK460.out 1).trans rfl; have hcz55_2 : w53.cell? ⟨gb460, 2, none⟩ = some (.slice A0_2 l0_2.length c0_2) := (blk_cell BK460.out 2).trans rfl; have hcz55_3 : w53.cell? ⟨gb460, 3, none⟩ = some (.slice A0_3 l0_3.length c0_3) := (blk_cell BK460.out 3).trans rfl; have hfz55_0 := blk_frozen BK460.out 0; have hfz55_1 := blk_frozen BK460.out 1; have hfz55_2 := blk_frozen BK460.out 2; have hfz55_3 := blk_frozen BK460.out 3; have hcz56_0 : w53.cell? ⟨gb461, 0, none⟩ = some (.slice A1_0 l1_0.length c1_0) := (blk_cell BK461.out 0).trans rfl; have hcz56_1 : w53.cell? ⟨gb461, 1, none⟩ = some (.int .i64 a1_1) := (blk_cell BK461.out 1).trans rfl; have hcz56_2 : w53.cell? ⟨gb461, 2, none⟩ = some (.int .i64 a1_2) := (blk_cell BK461.out 2).trans rfl; have hcz56_3 : w53.cell? ⟨gb461, 3, none⟩ = some (.int .i64 a1_3) := (blk_cell BK461.out 3).trans rfl; have hfz56_0 := blk_frozen BK461.out 0; have hfz56_1 := blk_frozen BK461.out 1; have hfz56_2 := blk_frozen BK461.out 2; have hfz56_3 := blk_frozen BK461.out 3))
  repeat (go_quiet (first | ((with_reducible refine gate_dst (N := 2) rfl ?_); (try (refine gate_guard (by rfl) ?_; dsimp only)); refine box_event ?hg (N := 2) ?hd (cs := #[.int .i64 a0_0, .slice A0_1 l0_1.length c0_1, .slice A0_2 l0_2.length c0_2, .slice A0_3 l0_3.length c0_3]) (t := 42) ?hr ?_; (case hd => rfl); (case hg => rfl); (case hr => first | (go_simp; done) | (go_simp; rfl)); intro gb460 hg w52 hbox hb; have n0_ := Aside0.mk (below_step (by repeat (first | (with_reducible first | exact HB.out | apply below_alloc | apply pw_below_drewN | apply below_drew1) | exact HB.out)) hb); have n1_ := Aside0.mk (hbox); have n2_ := Aside0.mk ((by rw [hg]; exact (below_size (by repeat (first | (with_reducible first | exact HB.out | apply below_alloc | apply pw_below_drewN | apply below_drew1) | exact HB.out))) : w.heap.size ≤ gb460)); have n3_ := Aside0.mk ((by rw [hg]; exact (below_size (by repeat (first | (with_reducible first | exact HB.out | apply below_alloc | apply pw_below_drewN | apply below_drew1) | exact HB.out))) : w.heap.size ≤ gb460)); clear HB; have HB := n0_; have BK460 := n1_; have GW460 := n2_; have GE460 := n3_; clear n0_ n1_ n2_ n3_; clear hb hbox hg) | ((with_reducible refine gate_dst (N := 3) rfl ?_); (try (refine gate_guard (by rfl) ?_; dsimp only)); refine box_event ?hg (N := 3) ?hd (cs := #[.slice A1_0 l1_0.length c1_0, .int .i64 a1_1, .int .i64 a1_2, .int .i64 a1_3]) (t := 66) ?hr ?_; (case hd => rfl); (case hg => rfl); (case hr => first | (go_simp; done) | (go_simp; rfl)); intro gb461 hg w53 hbox hb; have n0_ := Aside0.mk (blk_below (g := gb460) (o := .cells #[.int .i64 a0_0, .slice A0_1 l0_1.length c0_1, .slice A0_2 l0_2.length c0_2, .slice A0_3 l0_3.length c0_3] 42 (0, 0)) (by (with_reducible repeat (first | refine blk_drewN ?_ _ | refine blk_drew ?_ | refine blk_alloc ?_ _)); exact BK460.out) hb); have n1_ := Aside0.mk (below_step (by repeat (first | (with_reducible first | exact HB.out | apply below_alloc | apply pw_below_drewN | apply below_drew1 | refine below_set ?_ GE460.out) | exact HB.out)) hb); have n2_ := Aside0.mk (hbox); have n3_ := Aside0.mk ((by rw [hg]; exact (below_size (by repeat (first | (with_reducible first | exact HB.out | apply below_alloc | apply pw_below_drewN | apply below_drew1 | refine below_set ?_ GE460.out) | exact HB.out))) : w.heap.size ≤ gb461)); have n4_ := Aside0.mk ((by rw [hg]; exact (below_size (by repeat (first | (with_reducible first | exact HB.out | apply below_alloc | apply pw_below_drewN | apply below_drew1 | refine below_set ?_ GE460.out) | exact HB.out))) : w.heap.size ≤ gb461)); have n5_ := Aside0.mk ((by rw [hg]; exact Nat.ne_of_lt (blk_lt (g := gb460) (o := .cells #[.int .i64 a0_0, .slice A0_1 l0_1.length c0_1, .slice A0_2 l0_2.length c0_2, .slice A0_3 l0_3.length c0_3] 42 (0, 0)) (by (with_reducible repeat (first | refine blk_drewN ?_ _ | refine blk_drew ?_ | refine blk_alloc ?_ _)); exact BK460.out)) : gb460 ≠ gb461)); have n6_ := Aside0.mk ((by rw [hg]; exact Nat.ne_of_gt (blk_lt (g := gb460) (o := .cells #[.int .i64 a0_0, .slice A0_1 l0_1.length c0_1, .slice A0_2 l0_2.length c0_2, .slice A0_3 l0_3.length c0_3] 42 (0, 0)) (by (with_reducible repeat (first | refine blk_drewN ?_ _ | refine blk_drew ?_ | refine blk_alloc ?_ _)); exact BK460.out)) : gb461 ≠ gb460)); clear BK460; clear HB; have BK460 := n0_; have HB := n1_; have BK461 := n2_; have GW461 := n3_; have GE461 := n4_; have NB460_461 := n5_; have NB461_460 := n6_; clear n0_ n1_ n2_ n3_ n4_ n5_ n6_; clear hb hbox hg; have hnb54 := NB460_461.out; have hnc54 := NB461_460.out; have hcz55_0 : w53.cell? ⟨gb460, 0, none⟩ = some (.int .i64 a0_0) := (blk_cell BK460.out 0).trans rfl; have hcz55_1 : w53.cell? ⟨gb460, 1, none⟩ = some (.slice A0_1 l0_1.length c0_1) := (blk_cell BK460.out 1).trans rfl; have hcz55_2 : w53.cell? ⟨gb460, 2, none⟩ = some (.slice A0_2 l0_2.length c0_2) := (blk_cell BK460.out 2).trans rfl; have hcz55_3 : w53.cell? ⟨gb460, 3, none⟩ = some (.slice A0_3 l0_3.length c0_3) := (blk_cell BK460.out 3).trans rfl; have hfz55_0 := blk_frozen BK460.out 0; have hfz55_1 := blk_frozen BK460.out 1; have hfz55_2 := blk_frozen BK460.out 2; have hfz55_3 := blk_frozen BK460.out 3; have hcz56_0 : w53.cell? ⟨gb461, 0, none⟩ = some (.slice A1_0 l1_0.length c1_0) := (blk_cell BK461.out 0).trans rfl; have hcz56_1 : w53.cell? ⟨gb461, 1, none⟩ = some (.int .i64 a1_1) := (blk_cell BK461.out 1).trans rfl; have hcz56_2 : w53.cell? ⟨gb461, 2, none⟩ = some (.int .i64 a1_2) := (blk_cell BK461.out 2).trans rfl; have hcz56_3 : w53.cell? ⟨gb461, 3, none⟩ = some (.int .i64 a1_3) := (blk_cell BK461.out 3).trans rfl; have hfz56_0 := blk_frozen BK461.out 0; have hfz56_1 := blk_frozen BK461.out 1; have hfz56_2 := blk_frozen BK461.out 2; have hfz56_3 := blk_frozen BK461.out 3)); try go_wp2_with (first | ((with_reducible refine gate_dst (N := 2) rfl ?_); (try (refine gate_guard (by rfl) ?_; dsimp only)); refine box_event ?hg (N := 2) ?hd (cs := #[.int .i64 a0_0, .slice A0_1 l0_1.length c0_1, .slice A0_2 l0_2.length c0_2, .slice A0_3 l0_3.length c0_3]) (t := 42) ?hr ?_; (case hd => rfl); (case hg => rfl); (case hr => first | (go_simp; done) | (go_simp; rfl)); intro gb460 hg w52 hbox hb; have n0_ := Aside0.mk (below_step (by repeat (first | (with_reducible first | exact HB.out | apply below_alloc | apply pw_below_drewN | apply below_drew1) | exact HB.out)) hb); have n1_ := Aside0.mk (hbox); have n2_ := Aside0.mk ((by rw [hg]; exact (below_size (by repeat (first | (with_reducible first | exact HB.out | apply below_alloc | apply pw_below_drewN | apply below_drew1) | exact HB.out))) : w.heap.size ≤ gb460)); have n3_ := Aside0.mk ((by rw [hg]; exact (below_size (by repeat (first | (with_reducible first | exact HB.out | apply below_alloc | apply pw_below_drewN | apply below_drew1) | exact HB.out))) : w.heap.size ≤ gb460)); clear HB; have HB := n0_; have BK460 := n1_; have GW460 := n2_; have GE460 := n3_; clear n0_ n1_ n2_ n3_; clear hb hbox hg) | ((with_reducible refine gate_dst (N := 3) rfl ?_); (try (refine gate_guard (by rfl) ?_; dsimp only)); refine box_event ?hg (N := 3) ?hd (cs := #[.slice A1_0 l1_0.length c1_0, .int .i64 a1_1, .int .i64 a1_2, .int .i64 a1_3]) (t := 66) ?hr ?_; (case hd => rfl); (case hg => rfl); (case hr => first | (go_simp; done) | (go_simp; rfl)); intro gb461 hg w53 hbox hb; have n0_ := Aside0.mk (blk_below (g := gb460) (o := .cells #[.int .i64 a0_0, .slice A0_1 l0_1.length c0_1, .slice A0_2 l0_2.length c0_2, .slice A0_3 l0_3.length c0_3] 42 (0, 0)) (by (with_reducible repeat (first | refine blk_drewN ?_ _ | refine blk_drew ?_ | refine blk_alloc ?_ _)); exact BK460.out) hb); have n1_ := Aside0.mk (below_step (by repeat (first | (with_reducible first | exact HB.out | apply below_alloc | apply pw_below_drewN | apply below_drew1 | refine below_set ?_ GE460.out) | exact HB.out)) hb); have n2_ := Aside0.mk (hbox); have n3_ := Aside0.mk ((by rw [hg]; exact (below_size (by repeat (first | (with_reducible first | exact HB.out | apply below_alloc | apply pw_below_drewN | apply below_drew1 | refine below_set ?_ GE460.out) | exact HB.out))) : w.heap.size ≤ gb461)); have n4_ := Aside0.mk ((by rw [hg]; exact (below_size (by repeat (first | (with_reducible first | exact HB.out | apply below_alloc | apply pw_below_drewN | apply below_drew1 | refine below_set ?_ GE460.out) | exact HB.out))) : w.heap.size ≤ gb461)); have n5_ := Aside0.mk ((by rw [hg]; exact Nat.ne_of_lt (blk_lt (g := gb460) (o := .cells #[.int .i64 a0_0, .slice A0_1 l0_1.length c0_1, .slice A0_2 l0_2.length c0_2, .slice A0_3 l0_3.length c0_3] 42 (0, 0)) (by (with_reducible repeat (first | refine blk_drewN ?_ _ | refine blk_drew ?_ | refine blk_alloc ?_ _)); exact BK460.out)) : gb460 ≠ gb461)); have n6_ := Aside0.mk ((by rw [hg]; exact Nat.ne_of_gt (blk_lt (g := gb460) (o := .cells #[.int .i64 a0_0, .slice A0_1 l0_1.length c0_1, .slice A0_2 l0_2.length c0_2, .slice A0_3 l0_3.length c0_3] 42 (0, 0)) (by (with_reducible repeat (first | refine blk_drewN ?_ _ | refine blk_drew ?_ | refine blk_alloc ?_ _)); exact BK460.out)) : gb461 ≠ gb460)); clear BK460; clear HB; have BK460 := n0_; have HB := n1_; have BK461 := n2_; have GW461 := n3_; have GE461 := n4_; have NB460_461 := n5_; have NB461_460 := n6_; clear n0_ n1_ n2_ n3_ n4_ n5_ n6_; clear hb hbox hg; have hnb54 := NB460_461.out; have hnc54 := NB461_460.out; have hcz55_0 : w53.cell? ⟨gb460, 0, none⟩ = some (.int .i64 a0_0) := (blk_cell BK460.out 0).trans rfl; have hcz55_1 : w53.cell? ⟨gb460, 1, none⟩ = some (.slice A0_1 l0_1.length c0_1) := (blk_cell BK460.out 1).trans rfl; have hcz55_2 : w53.cell? ⟨gb460, 2, none⟩ = some (.slice A0_2 l0_2.length c0_2) := (blk_cell BK460.out 2).trans rfl; have hcz55_3 : w53.cell? ⟨gb460, 3, none⟩ = some (.slice A0_3 l0_3.length c0_3) := (blk_cell BK460.out 3).trans rfl; have hfz55_0 := blk_frozen BK460.out 0; have hfz55_1 := blk_frozen BK460.out 1; have hfz55_2 := blk_frozen BK460.out 2; have hfz55_3 := blk_frozen BK460.out 3; have hcz56_0 : w53.cell? ⟨gb461, 0, none⟩ = some (.slice A1_0 l1_0.length c1_0) := (blk_cell BK461.out 0).trans rfl; have hcz56_1 : w53.cell? ⟨gb461, 1, none⟩ = some (.int .i64 a1_1) := (blk_cell BK461.out 1).trans rfl; have hcz56_2 : w53.cell? ⟨gb461, 2, none⟩ = some (.int .i64 a1_2) := (blk_cell BK461.out 2).trans rfl; have hcz56_3 : w53.cell? ⟨gb461, 3, none⟩ = some (.int .i64 a1_3) := (blk_cell BK461.out 3).trans rfl; have hfz56_0 := blk_frozen BK461.out 0; have hfz56_1 := blk_frozen BK461.out 1; have hfz56_2 := blk_frozen BK461.out 2; have hfz56_3 := blk_frozen BK461.out 3)))
  go_ret
  exact ⟨by first | rfl | (simp [errW_none, errW_some] <;> rfl) | (simp [*, errW_none, errW_some] <;> rfl), by repeat (first | (with_reducible first | exact HB.out | apply below_alloc | apply pw_below_drewN | apply below_drew1 | refine below_set ?_ GE460.out | refine below_set ?_ GE461.out) | exact HB.out)⟩

end Go.Proofs.YtggldnbhmebcpaaGreatDoor.PDeltaMakes
end
section
namespace Go.Proofs.YtggldnbhmebcpaaGreatDoor.L
open Go.RowKit Go.ChangeShapes Go.WideShapes Go.Proofs.YtggldnbhmebcpaaGreatDoorW.PrintWords Go.Proofs.YtggldnbhmebcpaaGreatDoorW.PrintLast Go.Proofs.YtggldnbhmebcpaaGreatDoorW.PrintMore
attribute [local go_sem] max2_int min2_int max_two min_two max_three min_three max_four min_four
open Go.Proofs.YtggldnbhmebcpaaGreatDoor.PDeltaMakes
theorem wrap32_in (n : Int) (h : -2147483648 ≤ n ∧ n ≤ 2147483647) : wrap32 n = n := by unfold wrap32; omega
theorem wN (m : Nat) (h : m ≤ 1114111) : wrap64 (m : Int) = (m : Int) := wrap64_in _ (by omega)
theorem ob {z : Int} (m : Nat) (h : z = (m : Int)) : UInt8.ofNat z.toNat = UInt8.ofNat m := by rw [h]; rfl
theorem td64 (n : Nat) : Int.tdiv (n : Int) 64 = ((n / 64 : Nat) : Int) := by rw [Int.tdiv_eq_ediv_of_nonneg (by omega)]; omega
theorem td4096 (n : Nat) : Int.tdiv (n : Int) 4096 = ((n / 4096 : Nat) : Int) := by rw [Int.tdiv_eq_ediv_of_nonneg (by omega)]; omega
theorem td262144 (n : Nat) : Int.tdiv (n : Int) 262144 = ((n / 262144 : Nat) : Int) := by rw [Int.tdiv_eq_ediv_of_nonneg (by omega)]; omega
theorem tm64 (m : Nat) : Int.tmod (m : Int) 64 = ((m % 64 : Nat) : Int) := by rw [Int.tmod_eq_emod_of_nonneg (by omega)]; omega
def charN (n : Nat) : List Nat :=
  if 1114111 < n ∨ (55296 ≤ n ∧ n ≤ 57343) then [] else if n < 128 then [n] else if n < 2048 then [192 + n / 64, 128 + n % 64]
  else if n < 65536 then [224 + n / 4096, 128 + n / 64 % 64, 128 + n % 64] else [240 + n / 262144, 128 + n / 4096 % 64, 128 + n / 64 % 64, 128 + n % 64]
def bytesL (l : List Nat) : List UInt8 := l.map fun n => UInt8.ofNat n
theorem char_f (k n : Nat) (hn : n ≤ 1114111) : ∃ s, dioramaref05_Char.f (k + 1) (n : Int) = some s ∧ s.toList = bytesL (charN n) := by
  have hL : ∀ xs : List Int, ∃ s, some (strOfNums xs) = some s ∧ s.toList = xs.map fun n => UInt8.ofNat n.toNat := fun xs => ⟨_, rfl, Lib.strOfNums_toList xs⟩
  have hq : ∀ b : Bool, b = decide (55296 ≤ n ∧ n ≤ 57343) → ∃ s, dioramaref05_Char.j0 (k + 1) (n : Int) b = some s ∧ s.toList = bytesL (charN n) := by
    intro b hb
    by_cases hs : 55296 ≤ n ∧ n ≤ 57343
    · obtain rfl : b = true := hb.trans (decide_eq_true hs)
      refine ⟨⟨#[]⟩, by rw [dioramaref05_Char.j0, if_pos rfl], ?_⟩
      unfold charN; rw [if_pos (.inr hs), Lib.toList_data]; rfl
    · obtain rfl : b = false := hb.trans (decide_eq_false hs)
      rw [dioramaref05_Char.j0, wN n hn, if_neg (by decide)]
      unfold charN
      rw [if_neg (show ¬ (1114111 < n ∨ (55296 ≤ n ∧ n ≤ 57343)) by omega)]
      by_cases h1 : n < 128
      · rw [if_pos (show (n : Int) < 128 by omega), if_pos h1]
        obtain ⟨s, e, he⟩ := hL [(n : Int) % 256]
        refine ⟨s, e, he.trans ?_⟩
        simp only [bytesL, List.map_cons, List.map_nil]
        rw [ob (n) (by omega)]
      · rw [if_neg (show ¬ (n : Int) < 128 by omega), if_neg h1]
        by_cases h2 : n < 2048
        · rw [if_pos (show (n : Int) < 2048 by omega), if_pos h2]
          obtain ⟨s, e, he⟩ := hL [(wrap64 (192 + (wrap64 (Int.tdiv (n : Int) 64)))) % 256, (wrap64 (128 + (Int.tmod (n : Int) 64))) % 256]
          refine ⟨s, e, he.trans ?_⟩
          rw [td64, tm64, wN (n / 64) (Nat.le_trans (Nat.div_le_self n 64) hn), wrap64_in (192 + _) (by omega), wrap64_in (128 + _) (by omega)]
          simp only [bytesL, List.map_cons, List.map_nil]
          rw [ob (192 + n / 64) (by omega), ob (128 + n % 64) (by omega)]
        · rw [if_neg (show ¬ (n : Int) < 2048 by omega), if_neg h2]
          by_cases h3 : n < 65536
          · rw [if_pos (show (n : Int) < 65536 by omega), if_pos h3]
            obtain ⟨s, e, he⟩ := hL [(wrap64 (224 + (wrap64 (Int.tdiv (n : Int) 4096)))) % 256, (wrap64 (128 + (Int.tmod (wrap64 (Int.tdiv (n : Int) 64)) 64))) % 256, (wrap64 (128 + (Int.tmod (n : Int) 64))) % 256]
            refine ⟨s, e, he.trans ?_⟩
            rw [td64, td4096, wN (n / 64) (Nat.le_trans (Nat.div_le_self n 64) hn), wN (n / 4096) (Nat.le_trans (Nat.div_le_self n 4096) hn), tm64, tm64, wrap64_in (224 + _) (by omega), wrap64_in (128 + ((n / 64 % 64 : Nat) : Int)) (by omega), wrap64_in (128 + _) (by omega)]
            simp only [bytesL, List.map_cons, List.map_nil]
            rw [ob (224 + n / 4096) (by omega), ob (128 + n / 64 % 64) (by omega), ob (128 + n % 64) (by omega)]
          · rw [if_neg (show ¬ (n : Int) < 65536 by omega), if_neg h3]
            obtain ⟨s, e, he⟩ := hL [(wrap64 (240 + (wrap64 (Int.tdiv (n : Int) 262144)))) % 256, (wrap64 (128 + (Int.tmod (wrap64 (Int.tdiv (n : Int) 4096)) 64))) % 256, (wrap64 (128 + (Int.tmod (wrap64 (Int.tdiv (n : Int) 64)) 64))) % 256, (wrap64 (128 + (Int.tmod (n : Int) 64))) % 256]
            refine ⟨s, e, he.trans ?_⟩
            rw [td64, td4096, td262144, wN (n / 64) (Nat.le_trans (Nat.div_le_self n 64) hn), wN (n / 4096) (Nat.le_trans (Nat.div_le_self n 4096) hn), wN (n / 262144) (Nat.le_trans (Nat.div_le_self n 262144) hn), tm64, tm64, tm64, wrap64_in (240 + _) (by omega), wrap64_in (128 + ((n / 4096 % 64 : Nat) : Int)) (by omega), wrap64_in (128 + ((n / 64 % 64 : Nat) : Int)) (by omega), wrap64_in (128 + _) (by omega)]
            simp only [bytesL, List.map_cons, List.map_nil]
            rw [ob (240 + n / 262144) (by omega), ob (128 + n / 4096 % 64) (by omega), ob (128 + n / 64 % 64) (by omega), ob (128 + n % 64) (by omega)]
  unfold dioramaref05_Char.f
  rw [if_neg (show ¬ (n : Int) < 0 by omega), if_neg (show ¬ (n : Int) > 1114111 by omega)]
  by_cases h : (n : Int) ≥ 55296
  · rw [if_pos h]
    refine hq _ (decide_eq_decide.2 ?_)
    omega
  · rw [if_neg h]
    refine hq _ (decide_eq_false ?_).symm
    omega
end Go.Proofs.YtggldnbhmebcpaaGreatDoor.L
end
