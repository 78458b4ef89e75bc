/- Part 6 of the texts that YtglfebpgdghlfaaDoorRowRS rests on, joined by a program: what its functions come to. Conditions: those that each theorem states. -/
import Derived.Test.YtglfebpgdghlfaaDoorQse
import Derived.Lib.MapLaws
import Derived.StillTailTactics
set_option linter.unusedVariables false
set_option linter.unusedSimpArgs false
section
-- PRINTED BY print.sh 35421559b90ae4d0a3588c463048766b98c2df88dd9212a6774a882060cdf62d: not written by this session
namespace Go.Proofs.YtglfebpgdghlfaaDoor.PUpgradeUps
open Go.RowKit Go.Proofs.YtglfebpgdghlfaaDoorW.PrintWords Go.Proofs.YtglfebpgdghlfaaDoorW.PrintLast Go.Proofs.YtglfebpgdghlfaaDoorW.PrintMore
attribute [local go_sem] max2_int min2_int max_two min_two max_three min_three max_four min_four   -- for this text's walks alone
set_option linter.unusedVariables false
set_option linter.unusedSimpArgs false
mutual
def dioramaref09_Check.l0 : Nat → Int → List (S26) → Int → Option (Int × Int)
 | 0, _, _, _ => none
 | k + 1, x5, x354000, x354001 => if x5 < (x354000.length : Int) then ((dioramaref09_Led.f k x354000 x354001 x5).bind fun t356 => (if 0 ≤ x5 then (if x5 < (t356.length : Int) then (if rdOf false t356 x5 = true then (some (14, x5)) else (dioramaref09_Check.l0 k (wrap64 (x5 + 1)) x354000 x354001)) else (none)) else (none))) else ((dioramaref09_Led.f k x354000 x354001 x354001).bind fun t360 => (dioramaref09_Check.l1 k t360 0 x354000 x354001))
def dioramaref09_Check.l1 : Nat → List Bool → Int → List (S26) → Int → Option (Int × Int)
 | 0, _, _, _, _ => none
 | k + 1, x6, x7, x354000, x354001 => if x7 < (x354000.length : Int) then (if x7 = x354001 then (dioramaref09_Check.l1 k x6 (wrap64 (x7 + 1)) x354000 x354001) else (if 0 ≤ x7 then (if x7 < (x6.length : Int) then (if rdOf false x6 x7 = true then (dioramaref09_Check.l1 k x6 (wrap64 (x7 + 1)) x354000 x354001) else (some (15, x7))) else (none)) else (none))) else (some (0, 0))
end
def dioramaref09_Check.f (k : Nat) (l0_0 : List (S26)) (a0_1 : Int) : Option (Int × Int) := (dioramaref09_Place.f l0_0 a0_1 a0_1).bind fun t354 => (if t354 = true then ((dioramaref09_Refs.f k l0_0 a0_1).bind fun t355 => (if t355 ≥ 0 then (some (13, t355)) else (dioramaref09_Check.l0 k 0 l0_0 a0_1))) else (some (13, (-1))))
set_option maxHeartbeats 8000000 in
set_option maxRecDepth 100000 in
theorem dioramaref09_Check.calls (k : Nat) (A0_0 : Option Addr) (c0_0 : Nat) (l0_0 : List (S26)) (a0_1 : Int) (r1 : Int) (r2 : Int) (w : World) (hr0_0 : Kd.C k26 w A0_0 l0_0.length l0_0) (hc0_0 : l0_0.length ≤ c0_0) (h : dioramaref09_Check.f k l0_0 a0_1 = some (r1, r2)) :
  Calls Tryd.prog 22 #[.agg #[.slice A0_0 l0_0.length c0_0, .int .i64 a0_1]] w fun e w' => e = .returned (.tuple #[.int .i64 r1, .int .i64 r2]) ∧ Below w.heap.size w w' := by
 have hu39 := Tryd.underlying39
 have HR0_0 := Aside0.mk hr0_0
 have HC0_0 := Aside0.mk hc0_0
 clear hr0_0 hc0_0
 have HB := Aside0.mk (Below.refl w.heap.size w)
 have H : ((dioramaref09_Place.f l0_0 a0_1 a0_1).bind fun t354 => (if t354 = true then ((dioramaref09_Refs.f k l0_0 a0_1).bind fun t355 => (if t355 ≥ 0 then (some (13, t355)) else (dioramaref09_Check.l0 k 0 l0_0 a0_1))) else (some (13, (-1))))) = some (r1, r2) := h
 clear h
 replace H := Option.bind_eq_some_iff.mp H
 obtain ⟨t354, A20, H⟩ := H
 replace H : (if t354 = true then ((dioramaref09_Refs.f k l0_0 a0_1).bind fun t355 => (if t355 ≥ 0 then (some (13, t355)) else (dioramaref09_Check.l0 k 0 l0_0 a0_1))) else (some (13, (-1)))) = some (r1, r2) := H
 have A2 := Aside0.mk A20
 clear A20
 by_cases c3 : t354 = true
 ·subst c3
  have H1 : ((dioramaref09_Refs.f k l0_0 a0_1).bind fun t355 => (if t355 ≥ 0 then (some (13, t355)) else (dioramaref09_Check.l0 k 0 l0_0 a0_1))) = some (r1, r2) := by rw [if_pos rfl] at H; exact H
  clear H
  have H := H1
  clear H1
  replace H := Option.bind_eq_some_iff.mp H
  obtain ⟨t355, A40, H⟩ := H
  replace H : (if t355 ≥ 0 then (some (13, t355)) else (dioramaref09_Check.l0 k 0 l0_0 a0_1)) = some (r1, r2) := H
  have A4 := Aside0.mk A40
  clear A40
  by_cases c5 : t355 ≥ 0
  ·rw [if_pos c5] at H
   have c5b0 : decide (0 ≤ t355) = true := decide_eq_true c5
   clear c5
   simp only [Option.some.injEq, Prod.mk.injEq] at H
   obtain ⟨rfl, rfl⟩ := H
   go_enter Tryd.func22, Tryd.ntmps22
   go_wp2_with (first | ((with_reducible refine gate_dst (N := 1) rfl ?_); refine box_event ?hg (N := 1) ?hd (cs := #[.slice A0_0 l0_0.length c0_0, .int .i64 a0_1]) (t := 39) ?hr ?_; (case hd => rfl); (case hg => rfl); (case hr => first | (go_simp; done) | (go_simp; rfl)); intro gb353 hg w6 hbox hb; have n0_ := Aside0.mk (below_step (by repeat (first | (with_reducible first | exact HB.out | apply below_alloc | apply pw_below_drewN | apply below_drew1) | exact HB.out)) hb); have n1_ := Aside0.mk (hbox); have n2_ := Aside0.mk ((by rw [hg]; exact (below_size (by repeat (first | (with_reducible first | exact HB.out | apply below_alloc | apply pw_below_drewN | apply below_drew1) | exact HB.out))) : w.heap.size ≤ gb353)); have n3_ := Aside0.mk ((by rw [hg]; exact (below_size (by repeat (first | (with_reducible first | exact HB.out | apply below_alloc | apply pw_below_drewN | apply below_drew1) | exact HB.out))) : w.heap.size ≤ gb353)); clear HB; have HB := n0_; have BK353 := n1_; have GW353 := n2_; have GE353 := n3_; clear n0_ n1_ n2_ n3_; clear hb hbox hg; have hcz7_0 : w6.cell? ⟨gb353, 0, none⟩ = some (.slice A0_0 l0_0.length c0_0) := (blk_cell BK353.out 0).trans rfl; have hcz7_1 : w6.cell? ⟨gb353, 1, none⟩ = some (.int .i64 a0_1) := (blk_cell BK353.out 1).trans rfl; have hfz7_0 := blk_frozen BK353.out 0; have hfz7_1 := blk_frozen BK353.out 1) | ((with_reducible refine gate_callee (f := 47) rfl ?_); refine goesL_ (some 11) rfl rfl Tryd.func47 (by kernel_rfl) rfl #[.agg #[.slice A0_0 l0_0.length c0_0, .int .i64 a0_1], .int .i64 a0_1] rfl (by (try simp only [List.map_toArray, List.map_cons, List.map_nil]); first | done | rfl | (simp only [List.length_drop, List.length_take]; rfl)) ?_; (with_reducible refine (dioramaref09_Place.calls _ _ l0_0 a0_1 a0_1 true _ ?side1 ?side2 A2.out).mono ?_); (case side1 => repeat (first | exact (Kd.C_below HR0_0.out HB.out) | (with_reducible refine Kd.C_alloc ?_ _) | (with_reducible refine Kd.C_drewN ?_ _) | (with_reducible refine Kd.C_drew ?_))); (case side2 => exact HC0_0.out); rintro e w8 ⟨rfl, hb⟩; refine ⟨_, rfl, ?_⟩; have n0_ := Aside0.mk (blk_below (g := gb353) (o := .cells #[.slice A0_0 l0_0.length c0_0, .int .i64 a0_1] 39 (0, 0)) (by (with_reducible repeat (first | refine blk_drewN ?_ _ | refine blk_drew ?_ | refine blk_alloc ?_ _)); exact BK353.out) hb); have n1_ := Aside0.mk (below_step (by repeat (first | (with_reducible first | exact HB.out | apply below_alloc | apply pw_below_drewN | apply below_drew1 | refine below_set ?_ GE353.out) | exact HB.out)) hb); clear BK353; clear HB; have BK353 := n0_; have HB := n1_; clear n0_ n1_; (try clear hb); (try clear hb2); (try clear hk); (try clear hi); have hcz9_0 : w8.cell? ⟨gb353, 0, none⟩ = some (.slice A0_0 l0_0.length c0_0) := (blk_cell BK353.out 0).trans rfl; have hcz9_1 : w8.cell? ⟨gb353, 1, none⟩ = some (.int .i64 a0_1) := (blk_cell BK353.out 1).trans rfl; have hfz9_0 := blk_frozen BK353.out 0; have hfz9_1 := blk_frozen BK353.out 1) | ((with_reducible refine gate_callee (f := 48) rfl ?_); refine goesL_ (some 14) rfl rfl Tryd.func48 (by kernel_rfl) rfl #[.agg #[.slice A0_0 l0_0.length c0_0, .int .i64 a0_1]] rfl (by (try simp only [List.map_toArray, List.map_cons, List.map_nil]); first | done | rfl | (simp only [List.length_drop, List.length_take]; rfl)) ?_; (with_reducible refine (dioramaref09_Refs.calls k _ _ l0_0 a0_1 t355 _ ?side1 ?side2 A4.out).mono ?_); (case side1 => repeat (first | exact (Kd.C_below HR0_0.out HB.out) | (with_reducible refine Kd.C_alloc ?_ _) | (with_reducible refine Kd.C_drewN ?_ _) | (with_reducible refine Kd.C_drew ?_))); (case side2 => exact HC0_0.out); rintro e w10 ⟨rfl, hb⟩; refine ⟨_, rfl, ?_⟩; have n0_ := Aside0.mk (blk_below (g := gb353) (o := .cells #[.slice A0_0 l0_0.length c0_0, .int .i64 a0_1] 39 (0, 0)) (by (with_reducible repeat (first | refine blk_drewN ?_ _ | refine blk_drew ?_ | refine blk_alloc ?_ _)); exact BK353.out) hb); have n1_ := Aside0.mk (below_step (by repeat (first | (with_reducible first | exact HB.out | apply below_alloc | apply pw_below_drewN | apply below_drew1 | refine below_set ?_ GE353.out) | exact HB.out)) hb); clear BK353; clear HB; have BK353 := n0_; have HB := n1_; clear n0_ n1_; (try clear hb); (try clear hb2); (try clear hk); (try clear hi)))
   go_ret2
   exact ⟨by first | rfl | (simp [errW_none, errW_some] <;> rfl) | (simp [*, errW_none, errW_some] <;> rfl), by repeat (first | (with_reducible first | exact HB.out | apply below_alloc | apply pw_below_drewN | apply below_drew1 | refine below_set ?_ GE353.out) | exact HB.out)⟩
  ·rw [if_neg c5] at H
   have c5b0 : decide (0 ≤ t355) = false := decide_eq_false c5
   clear c5
   have H' := Aside0.mk H
   clear H
   go_enter Tryd.func22, Tryd.ntmps22
   go_wp2_with (first | ((with_reducible refine gate_dst (N := 1) rfl ?_); refine box_event ?hg (N := 1) ?hd (cs := #[.slice A0_0 l0_0.length c0_0, .int .i64 a0_1]) (t := 39) ?hr ?_; (case hd => rfl); (case hg => rfl); (case hr => first | (go_simp; done) | (go_simp; rfl)); intro gb353 hg w11 hbox hb; have n0_ := Aside0.mk (below_step (by repeat (first | (with_reducible first | exact HB.out | apply below_alloc | apply pw_below_drewN | apply below_drew1) | exact HB.out)) hb); have n1_ := Aside0.mk (hbox); have n2_ := Aside0.mk ((by rw [hg]; exact (below_size (by repeat (first | (with_reducible first | exact HB.out | apply below_alloc | apply pw_below_drewN | apply below_drew1) | exact HB.out))) : w.heap.size ≤ gb353)); have n3_ := Aside0.mk ((by rw [hg]; exact (below_size (by repeat (first | (with_reducible first | exact HB.out | apply below_alloc | apply pw_below_drewN | apply below_drew1) | exact HB.out))) : w.heap.size ≤ gb353)); clear HB; have HB := n0_; have BK353 := n1_; have GW353 := n2_; have GE353 := n3_; clear n0_ n1_ n2_ n3_; clear hb hbox hg; have hcz12_0 : w11.cell? ⟨gb353, 0, none⟩ = some (.slice A0_0 l0_0.length c0_0) := (blk_cell BK353.out 0).trans rfl; have hcz12_1 : w11.cell? ⟨gb353, 1, none⟩ = some (.int .i64 a0_1) := (blk_cell BK353.out 1).trans rfl; have hfz12_0 := blk_frozen BK353.out 0; have hfz12_1 := blk_frozen BK353.out 1) | ((with_reducible refine gate_callee (f := 47) rfl ?_); refine goesL_ (some 11) rfl rfl Tryd.func47 (by kernel_rfl) rfl #[.agg #[.slice A0_0 l0_0.length c0_0, .int .i64 a0_1], .int .i64 a0_1] rfl (by (try simp only [List.map_toArray, List.map_cons, List.map_nil]); first | done | rfl | (simp only [List.length_drop, List.length_take]; rfl)) ?_; (with_reducible refine (dioramaref09_Place.calls _ _ l0_0 a0_1 a0_1 true _ ?side1 ?side2 A2.out).mono ?_); (case side1 => repeat (first | exact (Kd.C_below HR0_0.out HB.out) | (with_reducible refine Kd.C_alloc ?_ _) | (with_reducible refine Kd.C_drewN ?_ _) | (with_reducible refine Kd.C_drew ?_))); (case side2 => exact HC0_0.out); rintro e w13 ⟨rfl, hb⟩; refine ⟨_, rfl, ?_⟩; have n0_ := Aside0.mk (blk_below (g := gb353) (o := .cells #[.slice A0_0 l0_0.length c0_0, .int .i64 a0_1] 39 (0, 0)) (by (with_reducible repeat (first | refine blk_drewN ?_ _ | refine blk_drew ?_ | refine blk_alloc ?_ _)); exact BK353.out) hb); have n1_ := Aside0.mk (below_step (by repeat (first | (with_reducible first | exact HB.out | apply below_alloc | apply pw_below_drewN | apply below_drew1 | refine below_set ?_ GE353.out) | exact HB.out)) hb); clear BK353; clear HB; have BK353 := n0_; have HB := n1_; clear n0_ n1_; (try clear hb); (try clear hb2); (try clear hk); (try clear hi); have hcz14_0 : w13.cell? ⟨gb353, 0, none⟩ = some (.slice A0_0 l0_0.length c0_0) := (blk_cell BK353.out 0).trans rfl; have hcz14_1 : w13.cell? ⟨gb353, 1, none⟩ = some (.int .i64 a0_1) := (blk_cell BK353.out 1).trans rfl; have hfz14_0 := blk_frozen BK353.out 0; have hfz14_1 := blk_frozen BK353.out 1) | ((with_reducible refine gate_callee (f := 48) rfl ?_); refine goesL_ (some 14) rfl rfl Tryd.func48 (by kernel_rfl) rfl #[.agg #[.slice A0_0 l0_0.length c0_0, .int .i64 a0_1]] rfl (by (try simp only [List.map_toArray, List.map_cons, List.map_nil]); first | done | rfl | (simp only [List.length_drop, List.length_take]; rfl)) ?_; (with_reducible refine (dioramaref09_Refs.calls k _ _ l0_0 a0_1 t355 _ ?side1 ?side2 A4.out).mono ?_); (case side1 => repeat (first | exact (Kd.C_below HR0_0.out HB.out) | (with_reducible refine Kd.C_alloc ?_ _) | (with_reducible refine Kd.C_drewN ?_ _) | (with_reducible refine Kd.C_drew ?_))); (case side2 => exact HC0_0.out); rintro e w15 ⟨rfl, hb⟩; refine ⟨_, rfl, ?_⟩; have n0_ := Aside0.mk (blk_below (g := gb353) (o := .cells #[.slice A0_0 l0_0.length c0_0, .int .i64 a0_1] 39 (0, 0)) (by (with_reducible repeat (first | refine blk_drewN ?_ _ | refine blk_drew ?_ | refine blk_alloc ?_ _)); exact BK353.out) hb); have n1_ := Aside0.mk (below_step (by repeat (first | (with_reducible first | exact HB.out | apply below_alloc | apply pw_below_drewN | apply below_drew1 | refine below_set ?_ GE353.out) | exact HB.out)) hb); clear BK353; clear HB; have BK353 := n0_; have HB := n1_; clear n0_ n1_; (try clear hb); (try clear hb2); (try clear hk); (try clear hi)))
   go_loopg [5] k (fun kq v5 w' => ∃ (x5_1 : Int), v5 = .int .i64 x5_1 ∧ Aside0 (dioramaref09_Check.l0 kq x5_1 l0_0 a0_1 = some (r1, r2)) ∧ Aside0 (kq ≤ k) ∧ Aside0 (w'.heap[gb353]? = some (.cells #[(.slice A0_0 l0_0.length c0_0), .int .i64 a0_1] 39 (0, 0))) ∧ Aside0 (Below w.heap.size w w'))
   case atStart => exact ⟨(0), (by first | rfl | (simp; done) | (simp [*]; done)), H', ⟨Nat.le_refl _⟩, ⟨by (with_reducible repeat (first | refine blk_drewN ?_ _ | refine blk_drew ?_ | refine blk_alloc ?_ _)); exact BK353.out⟩, ⟨by repeat (first | (with_reducible first | exact HB.out | apply below_alloc | apply pw_below_drewN | apply below_drew1 | refine below_set ?_ GE353.out) | exact HB.out)⟩⟩
   case round =>
    clear H'
    try clear c2
    try clear p2
    try clear c3
    try clear c4
    try clear c5
    try clear c5b0
    try clear hcz12_0
    try clear hcz12_1
    try clear hcz14_0
    try clear hcz14_1
    try clear hcz7_0
    try clear hcz7_1
    try clear hcz9_0
    try clear hcz9_1
    try clear hfz12_0
    try clear hfz12_1
    try clear hfz14_0
    try clear hfz14_1
    try clear hfz7_0
    try clear hfz7_1
    try clear hfz9_0
    try clear hfz9_1
    obtain ⟨x5_1, rfl, HA, HK1, BK353, HB⟩ := hrel
    cases gk with
    | zero => exact absurd HA.out (by simp [dioramaref09_Check.l0])
    | succ k1 =>
     have H := HA.out
     clear HA
     simp only [dioramaref09_Check.l0] at H
     by_cases c16 : x5_1 < (l0_0.length : Int)
     ·rw [if_pos c16] at H
      have c16b0 : decide (x5_1 < (l0_0.length : Int)) = true := decide_eq_true c16
      clear c16
      replace H := Option.bind_eq_some_iff.mp H
      obtain ⟨t356, A170, H⟩ := H
      replace H : (if 0 ≤ x5_1 then (if x5_1 < (t356.length : Int) then (if rdOf false t356 x5_1 = true then (some (14, x5_1)) else (dioramaref09_Check.l0 k1 (wrap64 (x5_1 + 1)) l0_0 a0_1)) else (none)) else (none)) = some (r1, r2) := H
      have A17 := Aside0.mk A170
      clear A170
      by_cases c18 : 0 ≤ x5_1
      ·rw [if_pos c18] at H
       have c18b0 : decide (0 ≤ x5_1) = true := decide_eq_true c18
       clear c18
       by_cases c19 : x5_1 < (t356.length : Int)
       ·rw [if_pos c19] at H
        have c19b0 : decide (x5_1 < (t356.length : Int)) = true := decide_eq_true c19
        clear c19
        obtain ⟨bq20, hbq20⟩ : ∃ b_ : Bool, b_ = (rdOf false t356 x5_1) := ⟨_, rfl⟩
        replace H : (if bq20 = true then (some (14, x5_1)) else (dioramaref09_Check.l0 k1 (wrap64 (x5_1 + 1)) l0_0 a0_1)) = some (r1, r2) := by rw [← hbq20] at H; exact H
        have Nbq20 := Aside0.mk hbq20
        clear hbq20
        by_cases c21 : bq20 = true
        ·subst c21
         have H1 : (some (14, x5_1)) = some (r1, r2) := by rw [if_pos rfl] at H; exact H
         clear H
         have H := H1
         clear H1
         simp only [Option.some.injEq, Prod.mk.injEq] at H
         obtain ⟨rfl, rfl⟩ := H
         have hcz22_0 : wr.cell? ⟨gb353, 0, none⟩ = some (.slice A0_0 l0_0.length c0_0) := (blk_cell BK353.out 0).trans rfl
         have hcz22_1 : wr.cell? ⟨gb353, 1, none⟩ = some (.int .i64 a0_1) := (blk_cell BK353.out 1).trans rfl
         have hfz22_0 := blk_frozen BK353.out 0
         have hfz22_1 := blk_frozen BK353.out 1
         go_wp2_with (first | ((with_reducible refine gate_callee (f := 49) rfl ?_); refine goesL_ (some 27) rfl rfl Tryd.func49 (by kernel_rfl) rfl #[.agg #[.slice A0_0 l0_0.length c0_0, .int .i64 a0_1], .int .i64 x5_1] rfl (by (try simp only [List.map_toArray, List.map_cons, List.map_nil]); first | done | rfl | (simp only [List.length_drop, List.length_take]; rfl)) ?_; (with_reducible refine (dioramaref09_Led.calls k1 _ _ l0_0 a0_1 x5_1 t356 _ ?side1 ?side2 A17.out).mono ?_); (case side1 => repeat (first | exact (Kd.C_below HR0_0.out HB.out) | (with_reducible refine Kd.C_alloc ?_ _) | (with_reducible refine Kd.C_drewN ?_ _) | (with_reducible refine Kd.C_drew ?_))); (case side2 => exact HC0_0.out); rintro e w23 ⟨v357, rfl, ho0, hb⟩; refine ⟨_, rfl, ?_⟩; have n0_ := Aside0.mk (Kd.R_lower ho0 (below_size (by repeat (first | (with_reducible first | exact HB.out | apply below_alloc | apply pw_below_drewN | apply below_drew1 | refine below_set ?_ GE353.out) | exact HB.out)))); have n1_ := Aside0.mk (blk_below (g := gb353) (o := .cells #[.slice A0_0 l0_0.length c0_0, .int .i64 a0_1] 39 (0, 0)) (by (with_reducible repeat (first | refine blk_drewN ?_ _ | refine blk_drew ?_ | refine blk_alloc ?_ _)); exact BK353.out) hb); have n2_ := Aside0.mk (below_step (by repeat (first | (with_reducible first | exact HB.out | apply below_alloc | apply pw_below_drewN | apply below_drew1 | refine below_set ?_ GE353.out) | exact HB.out)) hb); clear BK353; clear HB; have HO358 := n0_; have BK353 := n1_; have HB := n2_; clear n0_ n1_ n2_; (try clear hb); (try clear hb2); (try clear hk); (try clear hi); (try clear ho0); obtain ⟨Ao24, co24, eo24⟩ := Kd.R_slice HO358.out; subst eo24; have p359 : 0 ≤ (x5_1 : Int) := of_decide_eq_true (by first | (with_reducible assumption) | assumption); have q359 : x5_1 < (t356.length : Int) := of_decide_eq_true (by first | (with_reducible assumption) | assumption); obtain ⟨ad359, e359, hx359_0⟩ := Kd.at_bool (Kd.R_reads' HO358.out).2.2 x5_1 p359 q359; (try rw [← Nbq20.out] at hx359_0); cases e359; replace p359 := eq_true p359; replace q359 := eq_true q359))
         go_ret2
         exact ⟨by first | rfl | (simp [errW_none, errW_some] <;> rfl) | (simp [*, errW_none, errW_some] <;> rfl), by repeat (first | (with_reducible first | exact HB.out | apply below_alloc | apply pw_below_drewN | apply below_drew1 | refine below_set ?_ GE353.out) | exact HB.out)⟩
        ·replace c21 := Bool.eq_false_iff.mpr c21
         subst c21
         have H1 : (dioramaref09_Check.l0 k1 (wrap64 (x5_1 + 1)) l0_0 a0_1) = some (r1, r2) := by rw [if_neg (show ¬ (false = true) by decide)] at H; exact H
         clear H
         have H := H1
         clear H1
         have H' := Aside0.mk H
         clear H
         have hcz25_0 : wr.cell? ⟨gb353, 0, none⟩ = some (.slice A0_0 l0_0.length c0_0) := (blk_cell BK353.out 0).trans rfl
         have hcz25_1 : wr.cell? ⟨gb353, 1, none⟩ = some (.int .i64 a0_1) := (blk_cell BK353.out 1).trans rfl
         have hfz25_0 := blk_frozen BK353.out 0
         have hfz25_1 := blk_frozen BK353.out 1
         go_wp2_with (first | ((with_reducible refine gate_callee (f := 49) rfl ?_); refine goesL_ (some 27) rfl rfl Tryd.func49 (by kernel_rfl) rfl #[.agg #[.slice A0_0 l0_0.length c0_0, .int .i64 a0_1], .int .i64 x5_1] rfl (by (try simp only [List.map_toArray, List.map_cons, List.map_nil]); first | done | rfl | (simp only [List.length_drop, List.length_take]; rfl)) ?_; (with_reducible refine (dioramaref09_Led.calls k1 _ _ l0_0 a0_1 x5_1 t356 _ ?side1 ?side2 A17.out).mono ?_); (case side1 => repeat (first | exact (Kd.C_below HR0_0.out HB.out) | (with_reducible refine Kd.C_alloc ?_ _) | (with_reducible refine Kd.C_drewN ?_ _) | (with_reducible refine Kd.C_drew ?_))); (case side2 => exact HC0_0.out); rintro e w26 ⟨v357, rfl, ho0, hb⟩; refine ⟨_, rfl, ?_⟩; have n0_ := Aside0.mk (Kd.R_lower ho0 (below_size (by repeat (first | (with_reducible first | exact HB.out | apply below_alloc | apply pw_below_drewN | apply below_drew1 | refine below_set ?_ GE353.out) | exact HB.out)))); have n1_ := Aside0.mk (blk_below (g := gb353) (o := .cells #[.slice A0_0 l0_0.length c0_0, .int .i64 a0_1] 39 (0, 0)) (by (with_reducible repeat (first | refine blk_drewN ?_ _ | refine blk_drew ?_ | refine blk_alloc ?_ _)); exact BK353.out) hb); have n2_ := Aside0.mk (below_step (by repeat (first | (with_reducible first | exact HB.out | apply below_alloc | apply pw_below_drewN | apply below_drew1 | refine below_set ?_ GE353.out) | exact HB.out)) hb); clear BK353; clear HB; have HO358 := n0_; have BK353 := n1_; have HB := n2_; clear n0_ n1_ n2_; (try clear hb); (try clear hb2); (try clear hk); (try clear hi); (try clear ho0); obtain ⟨Ao27, co27, eo27⟩ := Kd.R_slice HO358.out; subst eo27; have p359 : 0 ≤ (x5_1 : Int) := of_decide_eq_true (by first | (with_reducible assumption) | assumption); have q359 : x5_1 < (t356.length : Int) := of_decide_eq_true (by first | (with_reducible assumption) | assumption); obtain ⟨ad359, e359, hx359_0⟩ := Kd.at_bool (Kd.R_reads' HO358.out).2.2 x5_1 p359 q359; (try rw [← Nbq20.out] at hx359_0); cases e359; replace p359 := eq_true p359; replace q359 := eq_true q359))
         go_roundg k1
         case measure => have := HK1.out; omega
         case rel => exact ⟨(wrap64 (x5_1 + 1)), (by first | rfl | (simp; done) | (simp [*]; done)), H', ⟨by have := HK1.out; omega⟩, ⟨by (with_reducible repeat (first | refine blk_drewN ?_ _ | refine blk_drew ?_ | refine blk_alloc ?_ _)); exact BK353.out⟩, ⟨by repeat (first | (with_reducible first | exact HB.out | apply below_alloc | apply pw_below_drewN | apply below_drew1 | refine below_set ?_ GE353.out) | exact HB.out)⟩⟩
       ·rw [if_neg c19] at H
        exact absurd H (by simp)
      ·rw [if_neg c18] at H
       exact absurd H (by simp)
     ·rw [if_neg c16] at H
      have c16b0 : decide (x5_1 < (l0_0.length : Int)) = false := decide_eq_false c16
      clear c16
      replace H := Option.bind_eq_some_iff.mp H
      obtain ⟨t360, A280, H⟩ := H
      replace H : (dioramaref09_Check.l1 k1 t360 0 l0_0 a0_1) = some (r1, r2) := H
      have A28 := Aside0.mk A280
      clear A280
      have H' := Aside0.mk H
      clear H
      have hcz29_0 : wr.cell? ⟨gb353, 0, none⟩ = some (.slice A0_0 l0_0.length c0_0) := (blk_cell BK353.out 0).trans rfl
      have hcz29_1 : wr.cell? ⟨gb353, 1, none⟩ = some (.int .i64 a0_1) := (blk_cell BK353.out 1).trans rfl
      have hfz29_0 := blk_frozen BK353.out 0
      have hfz29_1 := blk_frozen BK353.out 1
      go_wp2_with (first | ((with_reducible refine gate_callee (f := 49) rfl ?_); refine goesL_ (some 35) rfl rfl Tryd.func49 (by kernel_rfl) rfl #[.agg #[.slice A0_0 l0_0.length c0_0, .int .i64 a0_1], .int .i64 a0_1] rfl (by (try simp only [List.map_toArray, List.map_cons, List.map_nil]); first | done | rfl | (simp only [List.length_drop, List.length_take]; rfl)) ?_; (with_reducible refine (dioramaref09_Led.calls k1 _ _ l0_0 a0_1 a0_1 t360 _ ?side1 ?side2 A28.out).mono ?_); (case side1 => repeat (first | exact (Kd.C_below HR0_0.out HB.out) | (with_reducible refine Kd.C_alloc ?_ _) | (with_reducible refine Kd.C_drewN ?_ _) | (with_reducible refine Kd.C_drew ?_))); (case side2 => exact HC0_0.out); rintro e w30 ⟨v361, rfl, ho0, hb⟩; refine ⟨_, rfl, ?_⟩; have n0_ := Aside0.mk (Kd.R_lower ho0 (below_size (by repeat (first | (with_reducible first | exact HB.out | apply below_alloc | apply pw_below_drewN | apply below_drew1 | refine below_set ?_ GE353.out) | exact HB.out)))); have n1_ := Aside0.mk (blk_below (g := gb353) (o := .cells #[.slice A0_0 l0_0.length c0_0, .int .i64 a0_1] 39 (0, 0)) (by (with_reducible repeat (first | refine blk_drewN ?_ _ | refine blk_drew ?_ | refine blk_alloc ?_ _)); exact BK353.out) hb); have n2_ := Aside0.mk (below_step (by repeat (first | (with_reducible first | exact HB.out | apply below_alloc | apply pw_below_drewN | apply below_drew1 | refine below_set ?_ GE353.out) | exact HB.out)) hb); clear BK353; clear HB; have HO362 := n0_; have BK353 := n1_; have HB := n2_; clear n0_ n1_ n2_; (try clear hb); (try clear hb2); (try clear hk); (try clear hi); (try clear ho0)))
      go_loopg [7] k1 (fun kq v7 w' => ∃ (x7_2 : Int), v7 = .int .i64 x7_2 ∧ Aside0 (dioramaref09_Check.l1 kq t360 x7_2 l0_0 a0_1 = some (r1, r2)) ∧ Aside0 (kq ≤ k1) ∧ Aside0 (Kd.R Kd.bool 4 w' w.heap.size (fun _ => True) v361 t360) ∧ Aside0 (w'.heap[gb353]? = some (.cells #[(.slice A0_0 l0_0.length c0_0), .int .i64 a0_1] 39 (0, 0))) ∧ Aside0 (Below w.heap.size w w'))
      case atStart => exact ⟨(0), (by first | rfl | (simp; done) | (simp [*]; done)), H', ⟨Nat.le_refl _⟩, ⟨by (with_reducible repeat (first | apply Kd.R_alloc | apply Kd.R_drewN | apply Kd.R_drew)); exact HO362.out⟩, ⟨by (with_reducible repeat (first | refine blk_drewN ?_ _ | refine blk_drew ?_ | refine blk_alloc ?_ _)); exact BK353.out⟩, ⟨by repeat (first | (with_reducible first | exact HB.out | apply below_alloc | apply pw_below_drewN | apply below_drew1 | refine below_set ?_ GE353.out) | exact HB.out)⟩⟩
      case round =>
       clear H'
       try clear c1
       try clear c2
       try clear p2
       try clear q2
       try clear c3
       try clear p3
       try clear q3
       try clear hx3
       try clear c4
       try clear c5
       try clear c5b0
       try clear p6
       try clear c16
       try clear c16b0
       try clear c18
       try clear c18b0
       try clear c19
       try clear c19b0
       try clear q20
       try clear c21
       try clear c22
       try clear hcz12_0
       try clear hcz12_1
       try clear hcz14_0
       try clear hcz14_1
       try clear hcz22_0
       try clear hcz22_1
       try clear hcz25_0
       try clear hcz25_1
       try clear hcz29_0
       try clear hcz29_1
       try clear hcz7_0
       try clear hcz7_1
       try clear hcz9_0
       try clear hcz9_1
       try clear hfz12_0
       try clear hfz12_1
       try clear hfz14_0
       try clear hfz14_1
       try clear hfz22_0
       try clear hfz22_1
       try clear hfz25_0
       try clear hfz25_1
       try clear hfz29_0
       try clear hfz29_1
       try clear hfz7_0
       try clear hfz7_1
       try clear hfz9_0
       try clear hfz9_1
       try clear hx359_0
       try clear p2
       try clear p359
       try clear q359
       obtain ⟨x7_2, rfl, HA, HK2, HO_6, BK353, HB⟩ := hrel
       cases gk with
       | zero => exact absurd HA.out (by simp [dioramaref09_Check.l1])
       | succ k2 =>
        have H := HA.out
        clear HA
        simp only [dioramaref09_Check.l1] at H
        by_cases c31 : x7_2 < (l0_0.length : Int)
        ·rw [if_pos c31] at H
         have c31b0 : decide (x7_2 < (l0_0.length : Int)) = true := decide_eq_true c31
         clear c31
         by_cases c32 : x7_2 = a0_1
         ·rw [if_pos c32] at H
          have c32b0 : (x7_2 == a0_1) = true := beq_iff_eq.mpr c32
          have c32b1 : (x7_2 != a0_1) = false := bne_eq_false_iff_eq.mpr c32
          clear c32
          have H' := Aside0.mk H
          clear H
          have hcz33_0 : wr.cell? ⟨gb353, 0, none⟩ = some (.slice A0_0 l0_0.length c0_0) := (blk_cell BK353.out 0).trans rfl
          have hcz33_1 : wr.cell? ⟨gb353, 1, none⟩ = some (.int .i64 a0_1) := (blk_cell BK353.out 1).trans rfl
          have hfz33_0 := blk_frozen BK353.out 0
          have hfz33_1 := blk_frozen BK353.out 1
          go_wp2
          go_roundg k2
          case measure => have := HK1.out; have := HK2.out; omega
          case rel => exact ⟨(wrap64 (x7_2 + 1)), (by first | rfl | (simp; done) | (simp [*]; done)), H', ⟨by have := HK1.out; have := HK2.out; omega⟩, ⟨by (with_reducible repeat (first | apply Kd.R_alloc | apply Kd.R_drewN | apply Kd.R_drew)); exact HO_6.out⟩, ⟨by (with_reducible repeat (first | refine blk_drewN ?_ _ | refine blk_drew ?_ | refine blk_alloc ?_ _)); exact BK353.out⟩, ⟨by repeat (first | (with_reducible first | exact HB.out | apply below_alloc | apply pw_below_drewN | apply below_drew1 | refine below_set ?_ GE353.out) | exact HB.out)⟩⟩
         ·rw [if_neg c32] at H
          have c32b0 : (x7_2 == a0_1) = false := beq_eq_false_iff_ne.mpr c32
          have c32b1 : (x7_2 != a0_1) = true := bne_iff_ne.mpr c32
          by_cases c34 : 0 ≤ x7_2
          ·rw [if_pos c34] at H
           have c34b0 : decide (0 ≤ x7_2) = true := decide_eq_true c34
           clear c34
           by_cases c35 : x7_2 < (t360.length : Int)
           ·rw [if_pos c35] at H
            have c35b0 : decide (x7_2 < (t360.length : Int)) = true := decide_eq_true c35
            clear c35
            obtain ⟨bq36, hbq36⟩ : ∃ b_ : Bool, b_ = (rdOf false t360 x7_2) := ⟨_, rfl⟩
            replace H : (if bq36 = true then (dioramaref09_Check.l1 k2 t360 (wrap64 (x7_2 + 1)) l0_0 a0_1) else (some (15, x7_2))) = some (r1, r2) := by rw [← hbq36] at H; exact H
            have Nbq36 := Aside0.mk hbq36
            clear hbq36
            by_cases c37 : bq36 = true
            ·subst c37
             have H1 : (dioramaref09_Check.l1 k2 t360 (wrap64 (x7_2 + 1)) l0_0 a0_1) = some (r1, r2) := by rw [if_pos rfl] at H; exact H
             clear H
             have H := H1
             clear H1
             have H' := Aside0.mk H
             clear H
             have hcz38_0 : wr.cell? ⟨gb353, 0, none⟩ = some (.slice A0_0 l0_0.length c0_0) := (blk_cell BK353.out 0).trans rfl
             have hcz38_1 : wr.cell? ⟨gb353, 1, none⟩ = some (.int .i64 a0_1) := (blk_cell BK353.out 1).trans rfl
             have hfz38_0 := blk_frozen BK353.out 0
             have hfz38_1 := blk_frozen BK353.out 1
             obtain ⟨Ao39, co39, eo39⟩ := Kd.R_slice HO_6.out
             subst eo39
             have p363 : 0 ≤ (x7_2 : Int) := of_decide_eq_true (by first | (with_reducible assumption) | assumption)
             have q363 : x7_2 < (t360.length : Int) := of_decide_eq_true (by first | (with_reducible assumption) | assumption)
             obtain ⟨ad363, e363, hx363_0⟩ := Kd.at_bool (Kd.R_reads' HO_6.out).2.2 x7_2 p363 q363
             (try rw [← Nbq36.out] at hx363_0)
             cases e363
             replace p363 := eq_true p363
             replace q363 := eq_true q363
             go_wp2
             go_roundg k2
             case measure => have := HK1.out; have := HK2.out; omega
             case rel => exact ⟨(wrap64 (x7_2 + 1)), (by first | rfl | (simp; done) | (simp [*]; done)), H', ⟨by have := HK1.out; have := HK2.out; omega⟩, ⟨by (with_reducible repeat (first | apply Kd.R_alloc | apply Kd.R_drewN | apply Kd.R_drew)); exact HO_6.out⟩, ⟨by (with_reducible repeat (first | refine blk_drewN ?_ _ | refine blk_drew ?_ | refine blk_alloc ?_ _)); exact BK353.out⟩, ⟨by repeat (first | (with_reducible first | exact HB.out | apply below_alloc | apply pw_below_drewN | apply below_drew1 | refine below_set ?_ GE353.out) | exact HB.out)⟩⟩
            ·replace c37 := Bool.eq_false_iff.mpr c37
             subst c37
             have H1 : (some (15, x7_2)) = some (r1, r2) := by rw [if_neg (show ¬ (false = true) by decide)] at H; exact H
             clear H
             have H := H1
             clear H1
             simp only [Option.some.injEq, Prod.mk.injEq] at H
             obtain ⟨rfl, rfl⟩ := H
             have hcz40_0 : wr.cell? ⟨gb353, 0, none⟩ = some (.slice A0_0 l0_0.length c0_0) := (blk_cell BK353.out 0).trans rfl
             have hcz40_1 : wr.cell? ⟨gb353, 1, none⟩ = some (.int .i64 a0_1) := (blk_cell BK353.out 1).trans rfl
             have hfz40_0 := blk_frozen BK353.out 0
             have hfz40_1 := blk_frozen BK353.out 1
             obtain ⟨Ao41, co41, eo41⟩ := Kd.R_slice HO_6.out
             subst eo41
             have p363 : 0 ≤ (x7_2 : Int) := of_decide_eq_true (by first | (with_reducible assumption) | assumption)
             have q363 : x7_2 < (t360.length : Int) := of_decide_eq_true (by first | (with_reducible assumption) | assumption)
             obtain ⟨ad363, e363, hx363_0⟩ := Kd.at_bool (Kd.R_reads' HO_6.out).2.2 x7_2 p363 q363
             (try rw [← Nbq36.out] at hx363_0)
             cases e363
             replace p363 := eq_true p363
             replace q363 := eq_true q363
             go_wp2
             go_ret2
             exact ⟨by first | rfl | (simp [errW_none, errW_some] <;> rfl) | (simp [*, errW_none, errW_some] <;> rfl), by repeat (first | (with_reducible first | exact HB.out | apply below_alloc | apply pw_below_drewN | apply below_drew1 | refine below_set ?_ GE353.out) | exact HB.out)⟩
           ·rw [if_neg c35] at H
            exact absurd H (by simp)
          ·rw [if_neg c34] at H
           exact absurd H (by simp)
        ·rw [if_neg c31] at H
         have c31b0 : decide (x7_2 < (l0_0.length : Int)) = false := decide_eq_false c31
         clear c31
         simp only [Option.some.injEq, Prod.mk.injEq] at H
         obtain ⟨rfl, rfl⟩ := H
         have hcz42_0 : wr.cell? ⟨gb353, 0, none⟩ = some (.slice A0_0 l0_0.length c0_0) := (blk_cell BK353.out 0).trans rfl
         have hcz42_1 : wr.cell? ⟨gb353, 1, none⟩ = some (.int .i64 a0_1) := (blk_cell BK353.out 1).trans rfl
         have hfz42_0 := blk_frozen BK353.out 0
         have hfz42_1 := blk_frozen BK353.out 1
         go_wp2
         go_ret2
         exact ⟨by first | rfl | (simp [errW_none, errW_some] <;> rfl) | (simp [*, errW_none, errW_some] <;> rfl), by repeat (first | (with_reducible first | exact HB.out | apply below_alloc | apply pw_below_drewN | apply below_drew1 | refine below_set ?_ GE353.out) | exact HB.out)⟩
 ·replace c3 := Bool.eq_false_iff.mpr c3
  subst c3
  have H1 : (some (13, (-1))) = some (r1, r2) := by rw [if_neg (show ¬ (false = true) by decide)] at H; exact H
  clear H
  have H := H1
  clear H1
  simp only [Option.some.injEq, Prod.mk.injEq] at H
  obtain ⟨rfl, rfl⟩ := H
  go_enter Tryd.func22, Tryd.ntmps22
  go_wp2_with (first | ((with_reducible refine gate_dst (N := 1) rfl ?_); refine box_event ?hg (N := 1) ?hd (cs := #[.slice A0_0 l0_0.length c0_0, .int .i64 a0_1]) (t := 39) ?hr ?_; (case hd => rfl); (case hg => rfl); (case hr => first | (go_simp; done) | (go_simp; rfl)); intro gb353 hg w43 hbox hb; have n0_ := Aside0.mk (below_step (by repeat (first | (with_reducible first | exact HB.out | apply below_alloc | apply pw_below_drewN | apply below_drew1) | exact HB.out)) hb); have n1_ := Aside0.mk (hbox); have n2_ := Aside0.mk ((by rw [hg]; exact (below_size (by repeat (first | (with_reducible first | exact HB.out | apply below_alloc | apply pw_below_drewN | apply below_drew1) | exact HB.out))) : w.heap.size ≤ gb353)); have n3_ := Aside0.mk ((by rw [hg]; exact (below_size (by repeat (first | (with_reducible first | exact HB.out | apply below_alloc | apply pw_below_drewN | apply below_drew1) | exact HB.out))) : w.heap.size ≤ gb353)); clear HB; have HB := n0_; have BK353 := n1_; have GW353 := n2_; have GE353 := n3_; clear n0_ n1_ n2_ n3_; clear hb hbox hg; have hcz44_0 : w43.cell? ⟨gb353, 0, none⟩ = some (.slice A0_0 l0_0.length c0_0) := (blk_cell BK353.out 0).trans rfl; have hcz44_1 : w43.cell? ⟨gb353, 1, none⟩ = some (.int .i64 a0_1) := (blk_cell BK353.out 1).trans rfl; have hfz44_0 := blk_frozen BK353.out 0; have hfz44_1 := blk_frozen BK353.out 1) | ((with_reducible refine gate_callee (f := 47) rfl ?_); refine goesL_ (some 11) rfl rfl Tryd.func47 (by kernel_rfl) rfl #[.agg #[.slice A0_0 l0_0.length c0_0, .int .i64 a0_1], .int .i64 a0_1] rfl (by (try simp only [List.map_toArray, List.map_cons, List.map_nil]); first | done | rfl | (simp only [List.length_drop, List.length_take]; rfl)) ?_; (with_reducible refine (dioramaref09_Place.calls _ _ l0_0 a0_1 a0_1 false _ ?side1 ?side2 A2.out).mono ?_); (case side1 => repeat (first | exact (Kd.C_below HR0_0.out HB.out) | (with_reducible refine Kd.C_alloc ?_ _) | (with_reducible refine Kd.C_drewN ?_ _) | (with_reducible refine Kd.C_drew ?_))); (case side2 => exact HC0_0.out); rintro e w45 ⟨rfl, hb⟩; refine ⟨_, rfl, ?_⟩; have n0_ := Aside0.mk (blk_below (g := gb353) (o := .cells #[.slice A0_0 l0_0.length c0_0, .int .i64 a0_1] 39 (0, 0)) (by (with_reducible repeat (first | refine blk_drewN ?_ _ | refine blk_drew ?_ | refine blk_alloc ?_ _)); exact BK353.out) hb); have n1_ := Aside0.mk (below_step (by repeat (first | (with_reducible first | exact HB.out | apply below_alloc | apply pw_below_drewN | apply below_drew1 | refine below_set ?_ GE353.out) | exact HB.out)) hb); clear BK353; clear HB; have BK353 := n0_; have HB := n1_; clear n0_ n1_; (try clear hb); (try clear hb2); (try clear hk); (try clear hi)))
  go_ret2
  exact ⟨by first | rfl | (simp [errW_none, errW_some] <;> rfl) | (simp [*, errW_none, errW_some] <;> rfl), by repeat (first | (with_reducible first | exact HB.out | apply below_alloc | apply pw_below_drewN | apply below_drew1 | refine below_set ?_ GE353.out) | exact HB.out)⟩

mutual
def dioramaref10_meet.l0 : Nat → Int → List Int → Int → List (S26) → Int → Option (List Int)
 | 0, _, _, _, _, _ => none
 | k + 1, x1, x2, x7, x438000, x438001 => if x7 < (x2.length : Int) then (if 0 ≤ x7 then (if (rd x2 x7) = x1 then (some x2) else (dioramaref10_meet.l0 k x1 x2 (wrap64 (x7 + 1)) x438000 x438001)) else (none)) else (dioramaref10_meet.l1 k x1 x2 0 x438000 x438001)
def dioramaref10_meet.l1 : Nat → Int → List Int → Int → List (S26) → Int → Option (List Int)
 | 0, _, _, _, _, _ => none
 | k + 1, x1, x2, x8, x438000, x438001 => if 0 ≤ x1 then (if x1 < (x438000.length : Int) then (if x8 < (((rd_T26 x438000 x1).f3).length : Int) then (if 0 ≤ x8 then ((dioramaref10_meet.f k x438000 x438001 (rd ((rd_T26 x438000 x1).f3) x8) x2).bind fun t442 => (dioramaref10_meet.l1 k x1 t442 (wrap64 (x8 + 1)) x438000 x438001)) else (none)) else ((some (([] : List Int) : List Int)).bind fun y445 => (if y445.length + x2.length < 17592186044416 then ((some (y445 ++ x2 : List Int)).bind fun y448 => (if y448.length < 17592186044416 then (some (y448 ++ [x1])) else (none))) else (none)))) else (none)) else (none)
def dioramaref10_meet.f : Nat → List (S26) → Int → Int → List Int → Option (List Int)
 | 0, _, _, _, _ => none
 | k + 1, l0_0, a0_1, a1, l2 => dioramaref10_meet.l0 k a1 l2 0 l0_0 a0_1
end
def dioramaref10_meet.T9 : Bool × List (List Nat × List Nat) := (true, [([], []), ([], []), ([1], [1]), ([], []), ([2, 3], [2, 3]), ([4], [4]), ([5], [5]), ([], []), ([6, 7], [6, 7]), ([8], [8]), ([], []), ([0, 9, 10], [0, 9, 10]), ([11, 11, 0, 1, 2, 3, 4, 5, 6, 7, 8, 9, 10, 11], [10, 11])])
def dioramaref10_meet.B9 : List Nat := [0, 0, 2, 0, 14, 30, 62, 0, 254, 510, 0, 2047, 4095]
theorem dioramaref10_meet.tab9 : rtab .any (opsOf Tryd.f98 9) = dioramaref10_meet.T9 := by kernel_rfl
theorem dioramaref10_meet.bits9 : waitsOk dioramaref10_meet.T9.2 dioramaref10_meet.B9 = true := by kernel_rfl
set_option maxHeartbeats 8000000 in
set_option maxRecDepth 100000 in
theorem dioramaref10_meet.calls (k : Nat) : ∀ (A0_0 : Option Addr) (c0_0 : Nat) (l0_0 : List (S26)) (a0_1 : Int) (a1 : Int) (P2_ : Nat → Prop) (A2 : Option Addr) (c2 : Nat) (l2 : List Int) (r : List Int) (w : World) (hr0_0 : Kd.C k26 w A0_0 l0_0.length l0_0) (hc0_0 : l0_0.length ≤ c0_0) (hs2 : Kd.V (Kd.int .i64) 3 w w.heap.size (fun k_ => P2_ k_) (.slice A2 l2.length c2) l2) (h : dioramaref10_meet.f k l0_0 a0_1 a1 l2 = some r),
  Calls Tryd.prog 98 #[.agg #[.slice A0_0 l0_0.length c0_0, .int .i64 a0_1], .int .i64 a1, .slice A2 l2.length c2] w fun e w' => ∃ v0_ : Value, e = .returned (v0_) ∧ Kd.V (Kd.int .i64) 3 w' w.heap.size (fun k_ => (P2_ k_ ∨ w.heap.size ≤ k_)) v0_ r ∧ Below w.heap.size w w' := by
 induction k using Nat.strongRecOn with
 | _ k ih =>
 intro A0_0 c0_0 l0_0 a0_1 a1 P2_ A2 c2 l2 r w hr0_0 hc0_0 hs2 h
 cases k with
 | zero => exact absurd h (by simp [dioramaref10_meet.f])
 | succ k =>
 simp only [dioramaref10_meet.f] at h
 have hu39 := Tryd.underlying39
 have HR0_0 := Aside0.mk hr0_0
 have HC0_0 := Aside0.mk hc0_0
 clear hr0_0 hc0_0
 have HO2 := Aside0.mk (show Kd.V (Kd.int .i64) 3 w w.heap.size (fun k_ => (P2_ k_ ∨ w.heap.size ≤ k_)) (.slice A2 l2.length c2) l2 from Kd.V_mono hs2 (fun k_ hk => .inl hk))
 have HB := Aside0.mk (Below.refl w.heap.size w)
 have H : (dioramaref10_meet.l0 k a1 l2 0 l0_0 a0_1) = some r := h
 clear h
 have H' := Aside0.mk H
 clear H
 go_enter Tryd.func98, Tryd.ntmps98
 go_wp2_with (first | ((with_reducible refine gate_dst (N := 3) rfl ?_); refine box_event ?hg (N := 3) ?hd (cs := #[.slice A0_0 l0_0.length c0_0, .int .i64 a0_1]) (t := 39) ?hr ?_; (case hd => rfl); (case hg => rfl); (case hr => first | (go_simp; done) | (go_simp; rfl)); intro gb437 hg w4 hbox hb; have n0_ := Aside0.mk (Kd.V_below (Kd.V_elderB (by (with_reducible repeat (first | apply Kd.V_alloc | apply Kd.V_drewN | apply Kd.V_drew)); exact HO2.out) gb437 (Nat.le_of_eq hg.symm)) hb); have n1_ := Aside0.mk (below_step (by repeat (first | (with_reducible first | exact HB.out | apply below_alloc | apply pw_below_drewN | apply below_drew1) | exact HB.out)) hb); have n2_ := Aside0.mk (hbox); have n3_ := Aside0.mk ((by rw [hg]; exact (below_size (by repeat (first | (with_reducible first | exact HB.out | apply below_alloc | apply pw_below_drewN | apply below_drew1) | exact HB.out))) : w.heap.size ≤ gb437)); have n4_ := Aside0.mk ((by rw [hg]; exact (below_size (by repeat (first | (with_reducible first | exact HB.out | apply below_alloc | apply pw_below_drewN | apply below_drew1) | exact HB.out))) : w.heap.size ≤ gb437)); clear HO2; clear HB; have HO2 := n0_; have HB := n1_; have BK437 := n2_; have GW437 := n3_; have GE437 := n4_; clear n0_ n1_ n2_ n3_ n4_; clear hb hbox hg))
 go_loopg [7] k (fun kq v7 w' => ∃ (x7_1 : Int), v7 = .int .i64 x7_1 ∧ Aside0 (dioramaref10_meet.l0 kq a1 l2 x7_1 l0_0 a0_1 = some r) ∧ Aside0 (kq ≤ k) ∧ Aside0 (Kd.V (Kd.int .i64) 3 w' w.heap.size (fun k_ => (P2_ k_ ∨ w.heap.size ≤ k_) ∧ k_ ≠ gb437) (.slice A2 l2.length c2) l2) ∧ Aside0 (w'.heap[gb437]? = some (.cells #[(.slice A0_0 l0_0.length c0_0), .int .i64 a0_1] 39 (0, 0))) ∧ Aside0 (Below w.heap.size w w'))
 case atStart => exact ⟨(0), (by first | rfl | (simp; done) | (simp [*]; done)), H', ⟨Nat.le_refl _⟩, ⟨by (with_reducible repeat (first | apply Kd.V_alloc | apply Kd.V_drewN | apply Kd.V_drew)); exact HO2.out⟩, ⟨by (with_reducible repeat (first | refine blk_drewN ?_ _ | refine blk_drew ?_ | refine blk_alloc ?_ _)); exact BK437.out⟩, ⟨by repeat (first | (with_reducible first | exact HB.out | apply below_alloc | apply pw_below_drewN | apply below_drew1 | refine below_set ?_ GE437.out) | exact HB.out)⟩⟩
 case round =>
  clear H'
  try clear c2
  try clear p2
  obtain ⟨x7_1, rfl, HA, HK1, HO_2, BK437, HB⟩ := hrel
  cases gk with
  | zero => exact absurd HA.out (by simp [dioramaref10_meet.l0])
  | succ k1 =>
   have H := HA.out
   clear HA
   simp only [dioramaref10_meet.l0] at H
   by_cases c5 : x7_1 < (l2.length : Int)
   ·rw [if_pos c5] at H
    have c5b0 : decide (x7_1 < (l2.length : Int)) = true := decide_eq_true c5
    clear c5
    by_cases c6 : 0 ≤ x7_1
    ·rw [if_pos c6] at H
     have c6b0 : decide (0 ≤ x7_1) = true := decide_eq_true c6
     clear c6
     by_cases c7 : (rd l2 x7_1) = a1
     ·rw [if_pos c7] at H
      have c7b0 : ((rd l2 x7_1) == a1) = true := beq_iff_eq.mpr c7
      have c7b1 : ((rd l2 x7_1) != a1) = false := bne_eq_false_iff_eq.mpr c7
      clear c7
      obtain rfl := Option.some.inj H
      have p438 : 0 ≤ (x7_1 : Int) := of_decide_eq_true (by first | (with_reducible assumption) | assumption)
      have q438 : x7_1 < (l2.length : Int) := of_decide_eq_true (by first | (with_reducible assumption) | assumption)
      obtain ⟨ad438, e438, hx438_0⟩ := Kd.at_int (Kd.V_reads' HO_2.out).2.2 x7_1 p438 q438
      cases e438
      replace p438 := eq_true p438
      replace q438 := eq_true q438
      go_wp2
      go_ret
      exact ⟨_, by first | rfl | (simp [errW_none, errW_some] <;> rfl) | (simp [*, errW_none, errW_some] <;> rfl), by (with_reducible repeat (first | apply Kd.V_alloc | apply Kd.V_drewN | apply Kd.V_drew)); exact Kd.V_mono HO_2.out (fun _ hk => hk.1), by repeat (first | (with_reducible first | exact HB.out | apply below_alloc | apply pw_below_drewN | apply below_drew1 | refine below_set ?_ GE437.out) | exact HB.out)⟩
     ·rw [if_neg c7] at H
      have c7b0 : ((rd l2 x7_1) == a1) = false := beq_eq_false_iff_ne.mpr c7
      have c7b1 : ((rd l2 x7_1) != a1) = true := bne_iff_ne.mpr c7
      have H' := Aside0.mk H
      clear H
      have p438 : 0 ≤ (x7_1 : Int) := of_decide_eq_true (by first | (with_reducible assumption) | assumption)
      have q438 : x7_1 < (l2.length : Int) := of_decide_eq_true (by first | (with_reducible assumption) | assumption)
      obtain ⟨ad438, e438, hx438_0⟩ := Kd.at_int (Kd.V_reads' HO_2.out).2.2 x7_1 p438 q438
      cases e438
      replace p438 := eq_true p438
      replace q438 := eq_true q438
      go_wp2
      go_roundg k1
      case measure => have := HK1.out; omega
      case rel => exact ⟨(wrap64 (x7_1 + 1)), (by first | rfl | (simp; done) | (simp [*]; done)), H', ⟨by have := HK1.out; omega⟩, ⟨by (with_reducible repeat (first | apply Kd.V_alloc | apply Kd.V_drewN | apply Kd.V_drew)); exact HO_2.out⟩, ⟨by (with_reducible repeat (first | refine blk_drewN ?_ _ | refine blk_drew ?_ | refine blk_alloc ?_ _)); exact BK437.out⟩, ⟨by repeat (first | (with_reducible first | exact HB.out | apply below_alloc | apply pw_below_drewN | apply below_drew1 | refine below_set ?_ GE437.out) | exact HB.out)⟩⟩
    ·rw [if_neg c6] at H
     exact absurd H (by simp)
   ·rw [if_neg c5] at H
    have c5b0 : decide (x7_1 < (l2.length : Int)) = false := decide_eq_false c5
    clear c5
    have H' := Aside0.mk H
    clear H
    go_wp2
    go_loopg [2, 8] k1 (fun kq v2 v8 w' => ∃ (x2_2 : List Int) (x8_2 : Int), v8 = .int .i64 x8_2 ∧ Aside0 (dioramaref10_meet.l1 kq a1 x2_2 x8_2 l0_0 a0_1 = some r) ∧ Aside0 (kq ≤ k1) ∧ Aside0 (Kd.V (Kd.int .i64) 3 w' w.heap.size (fun k_ => (P2_ k_ ∨ w.heap.size ≤ k_) ∧ k_ ≠ gb437) v2 x2_2) ∧ Aside0 (w'.heap[gb437]? = some (.cells #[(.slice A0_0 l0_0.length c0_0), .int .i64 a0_1] 39 (0, 0))) ∧ Aside0 (Below w.heap.size w w'))
    case atStart => exact ⟨(l2), (0), (by first | rfl | (simp; done) | (simp [*]; done)), H', ⟨Nat.le_refl _⟩, ⟨by (with_reducible repeat (first | apply Kd.V_alloc | apply Kd.V_drewN | apply Kd.V_drew)); exact HO_2.out⟩, ⟨by (with_reducible repeat (first | refine blk_drewN ?_ _ | refine blk_drew ?_ | refine blk_alloc ?_ _)); exact BK437.out⟩, ⟨by repeat (first | (with_reducible first | exact HB.out | apply below_alloc | apply pw_below_drewN | apply below_drew1 | refine below_set ?_ GE437.out) | exact HB.out)⟩⟩
    case round =>
     clear H'
     try clear c2
     try clear p2
     try clear p4
     try clear q4
     try clear hx4
     try clear c5
     try clear c5b0
     try clear c6
     try clear c6b0
     try clear p6
     try clear c7
     try clear c7b0
     try clear c7b1
     try clear hx438_0
     try clear p2
     try clear p438
     try clear q438
     obtain ⟨x2_2, x8_2, rfl, HA, HK2, HO_2, BK437, HB⟩ := hrel
     cases gk with
     | zero => exact absurd HA.out (by simp [dioramaref10_meet.l1])
     | succ k2 =>
      have H := HA.out
      clear HA
      simp only [dioramaref10_meet.l1] at H
      by_cases c8 : 0 ≤ a1
      ·rw [if_pos c8] at H
       have c8b0 : decide (0 ≤ a1) = true := decide_eq_true c8
       clear c8
       by_cases c9 : a1 < (l0_0.length : Int)
       ·rw [if_pos c9] at H
        have c9b0 : decide (a1 < (l0_0.length : Int)) = true := decide_eq_true c9
        clear c9
        by_cases c10 : x8_2 < (((rd_T26 l0_0 a1).f3).length : Int)
        ·rw [if_pos c10] at H
         have c10b0 : decide (x8_2 < (((rd_T26 l0_0 a1).f3).length : Int)) = true := decide_eq_true c10
         clear c10
         by_cases c11 : 0 ≤ x8_2
         ·rw [if_pos c11] at H
          have c11b0 : decide (0 ≤ x8_2) = true := decide_eq_true c11
          clear c11
          replace H := Option.bind_eq_some_iff.mp H
          obtain ⟨t442, A120, H⟩ := H
          replace H : (dioramaref10_meet.l1 k2 a1 t442 (wrap64 (x8_2 + 1)) l0_0 a0_1) = some r := H
          have A12 := Aside0.mk A120
          clear A120
          have H' := Aside0.mk H
          clear H
          have hcz13_0 : wr.cell? ⟨gb437, 0, none⟩ = some (.slice A0_0 l0_0.length c0_0) := (blk_cell BK437.out 0).trans rfl
          have hcz13_1 : wr.cell? ⟨gb437, 1, none⟩ = some (.int .i64 a0_1) := (blk_cell BK437.out 1).trans rfl
          have hfz13_0 := blk_frozen BK437.out 0
          have hfz13_1 := blk_frozen BK437.out 1
          have p439 : 0 ≤ (a1 : Int) := of_decide_eq_true (by first | (with_reducible assumption) | assumption)
          have q439 : a1 < (l0_0.length : Int) := of_decide_eq_true (by first | (with_reducible assumption) | assumption)
          obtain ⟨ad439, A439_1, c439_1, A439_2, c439_2, A439_3, c439_3, e439, hx439_0, hx439_1, hx439_2, hx439_3, hl439_1, hi439_1, hl439_2, hi439_2, hl439_3, hi439_3⟩ := at_T26 HR0_0.out a1 p439 q439
          cases e439
          replace hx439_0 := (HB.out.cell (World.block_lt_of_cell? w _ hx439_0)).trans hx439_0
          replace hx439_1 := (HB.out.cell (World.block_lt_of_cell? w _ hx439_1)).trans hx439_1
          replace hx439_2 := (HB.out.cell (World.block_lt_of_cell? w _ hx439_2)).trans hx439_2
          replace hx439_3 := (HB.out.cell (World.block_lt_of_cell? w _ hx439_3)).trans hx439_3
          have HR439_1 := Aside0.mk hi439_1
          have HC439_1 := Aside0.mk hl439_1
          clear hi439_1 hl439_1
          have HR439_2 := Aside0.mk hi439_2
          have HC439_2 := Aside0.mk hl439_2
          clear hi439_2 hl439_2
          have HR439_3 := Aside0.mk hi439_3
          have HC439_3 := Aside0.mk hl439_3
          clear hi439_3 hl439_3
          replace p439 := eq_true p439
          replace q439 := eq_true q439
          try go_wp2
          have n0_ := Aside0.mk (Kd.V_drew HO_2.out)
          have n1_ := Aside0.mk (blk_drew BK437.out)
          have n2_ := Aside0.mk (below_drew1 HB.out)
          clear HO_2
          clear BK437
          clear HB
          have HO_2 := n0_
          have BK437 := n1_
          have HB := n2_
          clear n0_ n1_ n2_
          have p440 : 0 ≤ (a1 : Int) := of_decide_eq_true (by first | (with_reducible assumption) | assumption)
          have q440 : a1 < (l0_0.length : Int) := of_decide_eq_true (by first | (with_reducible assumption) | assumption)
          obtain ⟨ad440, A440_1, c440_1, A440_2, c440_2, A440_3, c440_3, e440, hx440_0, hx440_1, hx440_2, hx440_3, hl440_1, hi440_1, hl440_2, hi440_2, hl440_3, hi440_3⟩ := at_T26 HR0_0.out a1 p440 q440
          have hw440_3 := hx440_3
          have hw440_2 := hx440_2
          have hw440_1 := hx440_1
          have hw440_0 := hx440_0
          obtain rfl : ad439 = ad440 := (by injection e440)
          replace hx440_0 := (HB.out.cell (World.block_lt_of_cell? w _ hx440_0)).trans hx440_0
          replace hx440_1 := (HB.out.cell (World.block_lt_of_cell? w _ hx440_1)).trans hx440_1
          replace hx440_2 := (HB.out.cell (World.block_lt_of_cell? w _ hx440_2)).trans hx440_2
          replace hx440_3 := (HB.out.cell (World.block_lt_of_cell? w _ hx440_3)).trans hx440_3
          have HR440_1 := Aside0.mk hi440_1
          have HC440_1 := Aside0.mk hl440_1
          clear hi440_1 hl440_1
          have HR440_2 := Aside0.mk hi440_2
          have HC440_2 := Aside0.mk hl440_2
          clear hi440_2 hl440_2
          have HR440_3 := Aside0.mk hi440_3
          have HC440_3 := Aside0.mk hl440_3
          clear hi440_3 hl440_3
          replace p440 := eq_true p440
          replace q440 := eq_true q440
          have p441 : 0 ≤ (x8_2 : Int) := of_decide_eq_true (by first | (with_reducible assumption) | assumption)
          have q441 : x8_2 < (((rd_T26 l0_0 a1).f3).length : Int) := of_decide_eq_true (by first | (with_reducible assumption) | assumption)
          obtain ⟨ad441, e441, hx441_0⟩ := Kd.at_int HR440_3.out x8_2 p441 q441
          have hw441_0 := hx441_0
          cases e441
          replace hx441_0 := (HB.out.cell (World.block_lt_of_cell? w _ hx441_0)).trans hx441_0
          replace p441 := eq_true p441
          replace q441 := eq_true q441
          obtain ⟨Ao15, co15, eo15⟩ := Kd.V_slice HO_2.out
          (first | subst eo15 | (injection eo15 with f1_ f2_ f3_; have f4_ := f1_.symm; have f5_ := f3_.symm; clear f1_ f2_ f3_; subst f4_; subst f5_))
          refine start_ (n := 13) (S := fun w' => w'.cell? ⟨gb437, 0, none⟩ = some (.slice (some ad439) l0_0.length c0_0) ∧ w'.cell? ⟨gb437, 1, none⟩ = some (.int .i64 a0_1) ∧ w'.cell? (ad439.add ((a1).toNat * 4)) = some (.int .i64 ((rd_T26 l0_0 a1).f0)) ∧ w'.cell? ⟨(ad439.add ((a1).toNat * 4)).block, (ad439.add ((a1).toNat * 4)).off + 1, none⟩ = some (.slice A440_1 ((rd_T26 l0_0 a1).f1).length c440_1) ∧ w'.cell? ⟨(ad439.add ((a1).toNat * 4)).block, (ad439.add ((a1).toNat * 4)).off + 2, none⟩ = some (.slice A440_2 ((rd_T26 l0_0 a1).f2).length c440_2) ∧ w'.cell? ⟨(ad439.add ((a1).toNat * 4)).block, (ad439.add ((a1).toNat * 4)).off + 3, none⟩ = some (.slice (some ad441) ((rd_T26 l0_0 a1).f3).length c440_3) ∧ w'.cell? (ad441.add (x8_2).toNat) = some (.int .i64 (rd ((rd_T26 l0_0 a1).f3) x8_2))) (ds := []) #[false, false, false, false, false, false, false, false, false, false, false, false, false] (by kernel_rfl) rfl rfl ⟨(blk_cell BK437.out 0).trans rfl, (blk_cell BK437.out 1).trans rfl, ((HB.out.cell (World.block_lt_of_cell? w _ hw440_0)).trans hw440_0), ((HB.out.cell (World.block_lt_of_cell? w _ hw440_1)).trans hw440_1), ((HB.out.cell (World.block_lt_of_cell? w _ hw440_2)).trans hw440_2), ((HB.out.cell (World.block_lt_of_cell? w _ hw440_3)).trans hw440_3), ((HB.out.cell (World.block_lt_of_cell? w _ hw441_0)).trans hw441_0)⟩ (fun hHeld => ?_); refine with_tabW dioramaref10_meet.tab9 dioramaref10_meet.bits9 (fun HT_ HW_ => ?_)
          generalize wr.drew = w14 at HO_2 BK437 HB HR440_1 HR440_2 HR440_3 hx440_0 hx440_1 hx440_2 hx440_3 hx441_0 hHeld ⊢
          refine pure_ (i := 1) (N := some 34) (v := ?_) (a' := ?_) #[false, true, false, false, false, false, false, false, false, false, false, false, false] rfl rfl (any_of HT_.out (by kernel_rfl)) (fun _ _ _ h => h) (Or.inl ⟨by rfl, ?_⟩) ?_ ?_
          rotate_left
          ·intro w'
           go_simp
           with_reducible rfl
          rotate_left
          ·simp only [Act.put, List.setIfInBounds_toArray, List.set_cons_zero, List.set_cons_succ, i64_w, i32_w]
           rfl
          refine pure_ (i := 3) (N := some 36) (v := ?_) (a' := ?_) #[false, true, false, true, false, false, false, false, false, false, false, false, false] rfl rfl (any_of HT_.out (by kernel_rfl)) (fun _ _ _ h => h) (Or.inl ⟨by rfl, ?_⟩) ?_ ?_
          rotate_left
          ·intro w'
           go_simp
           with_reducible rfl
          rotate_left
          ·simp only [Act.put, List.setIfInBounds_toArray, List.set_cons_zero, List.set_cons_succ, i64_w, i32_w]
           rfl
          refine pure_ (i := 7) (N := some 40) (v := ?_) (a' := ?_) #[false, true, false, true, false, false, false, true, false, false, false, false, false] rfl rfl (any_of HT_.out (by kernel_rfl)) (fun _ _ _ h => h) (Or.inl ⟨by rfl, ?_⟩) ?_ ?_
          rotate_left
          ·intro w'
           go_simp
           with_reducible rfl
          rotate_left
          ·simp only [Act.put, List.setIfInBounds_toArray, List.set_cons_zero, List.set_cons_succ, i64_w, i32_w]
           rfl
          refine pure_ (i := 10) (N := some 43) (v := ?_) (a' := ?_) #[false, true, false, true, false, false, false, true, false, false, true, false, false] rfl rfl (any_of HT_.out (by kernel_rfl)) (fun _ _ _ h => h) (Or.inl ⟨by rfl, ?_⟩) ?_ ?_
          rotate_left
          ·intro w'
           go_simp
           with_reducible rfl
          rotate_left
          ·simp only [Act.put, List.setIfInBounds_toArray, List.set_cons_zero, List.set_cons_succ, i64_w, i32_w]
           rfl
          refine take_ (i := 0) (N := some 33) (v := ?_) (a' := ?_) #[true, true, false, true, false, false, false, true, false, false, true, false, false] rfl rfl (take_ofW HT_.out HW_.out (by kernel_rfl)) (fun _ _ _ h => h) (Or.inl ⟨by rfl, ?_⟩) hHeld ?_ ?_
          rotate_left
          ·rintro w' ⟨s0, s1, s2, s3, s4, s5, s6⟩
           go_simp
           with_reducible rfl
          rotate_left
          ·simp only [Act.put, List.setIfInBounds_toArray, List.set_cons_zero, List.set_cons_succ, i64_w, i32_w]
           rfl
          refine take_ (i := 2) (N := some 35) (v := ?_) (a' := ?_) #[true, true, true, true, false, false, false, true, false, false, true, false, false] rfl rfl (take_ofW HT_.out HW_.out (by kernel_rfl)) (fun _ _ _ h => h) (Or.inl ⟨by rfl, ?_⟩) hHeld ?_ ?_
          rotate_left
          ·rintro w' ⟨s0, s1, s2, s3, s4, s5, s6⟩
           go_simp
           with_reducible rfl
          rotate_left
          ·simp only [Act.put, List.setIfInBounds_toArray, List.set_cons_zero, List.set_cons_succ, i64_w, i32_w]
           rfl
          refine pure_ (i := 4) (N := some 37) (v := ?_) (a' := ?_) #[true, true, true, true, true, false, false, true, false, false, true, false, false] rfl rfl (any_of HT_.out (by kernel_rfl)) (fun _ _ _ h => h) (Or.inl ⟨by rfl, ?_⟩) ?_ ?_
          rotate_left
          ·intro w'
           go_simp
           with_reducible rfl
          rotate_left
          ·simp only [Act.put, List.setIfInBounds_toArray, List.set_cons_zero, List.set_cons_succ, i64_w, i32_w]
           rfl
          refine pure_ (i := 5) (N := some 38) (v := ?_) (a' := ?_) #[true, true, true, true, true, true, false, true, false, false, true, false, false] rfl rfl (any_of HT_.out (by kernel_rfl)) (fun _ _ _ h => h) (Or.inl ⟨by rfl, ?_⟩) ?_ ?_
          rotate_left
          ·intro w'
           go_simp
           with_reducible rfl
          rotate_left
          ·simp only [Act.put, List.setIfInBounds_toArray, List.set_cons_zero, List.set_cons_succ, i64_w, i32_w]
           rfl
          refine take_ (i := 6) (N := some 39) (v := ?_) (a' := ?_) #[true, true, true, true, true, true, true, true, false, false, true, false, false] rfl rfl (take_ofW HT_.out HW_.out (by kernel_rfl)) (fun _ _ _ h => h) (Or.inl ⟨by rfl, ?_⟩) hHeld ?_ ?_
          rotate_left
          ·rintro w' ⟨s0, s1, s2, s3, s4, s5, s6⟩
           go_simp
           with_reducible rfl
          rotate_left
          ·simp only [Act.put, List.setIfInBounds_toArray, List.set_cons_zero, List.set_cons_succ, i64_w, i32_w]
           rfl
          refine pure_ (i := 8) (N := some 41) (v := ?_) (a' := ?_) #[true, true, true, true, true, true, true, true, true, false, true, false, false] rfl rfl (any_of HT_.out (by kernel_rfl)) (fun _ _ _ h => h) (Or.inl ⟨by rfl, ?_⟩) ?_ ?_
          rotate_left
          ·intro w'
           go_simp
           with_reducible rfl
          rotate_left
          ·simp only [Act.put, List.setIfInBounds_toArray, List.set_cons_zero, List.set_cons_succ, i64_w, i32_w]
           rfl
          refine take_ (i := 9) (N := some 42) (v := ?_) (a' := ?_) #[true, true, true, true, true, true, true, true, true, true, true, false, false] rfl rfl (take_ofW HT_.out HW_.out (by kernel_rfl)) (fun _ _ _ h => h) (Or.inl ⟨by rfl, ?_⟩) hHeld ?_ ?_
          rotate_left
          ·rintro w' ⟨s0, s1, s2, s3, s4, s5, s6⟩
           go_simp
           with_reducible rfl
          rotate_left
          ·simp only [Act.put, List.setIfInBounds_toArray, List.set_cons_zero, List.set_cons_succ, i64_w, i32_w]
           rfl
          refine one_ (i := 11) (N := some 44) #[true, true, true, true, true, true, true, true, true, true, true, true, false] rfl rfl (one_of HT_.out (by kernel_rfl)) (by decide) (fun K hK => ?_)
          refine goes_ Tryd.func98 (by kernel_rfl) rfl #[.agg #[.slice (some ad439) l0_0.length c0_0, .int .i64 a0_1], .int .i64 (rd ((rd_T26 l0_0 a1).f3) x8_2), .slice Ao15 x2_2.length co15] (by rfl) rfl rfl (by (try simp only [List.map_toArray, List.map_cons, List.map_nil]); first | done | rfl | (simp only [List.length_drop, List.length_take]; rfl)) ?_
          with_reducible refine (ih k2 (by have := HK1.out; have := HK2.out; omega) _ _ l0_0 a0_1 (rd ((rd_T26 l0_0 a1).f3) x8_2) (fun k_ => ((P2_ k_ ∨ w.heap.size ≤ k_) ∧ k_ ≠ gb437)) _ _ x2_2 t442 _ ?side1 ?side2 ?side3 A12.out).mono ?_
          (case side1 => repeat (first | exact (Kd.C_below HR0_0.out HB.out) | (with_reducible refine Kd.C_alloc ?_ _) | (with_reducible refine Kd.C_drewN ?_ _) | (with_reducible refine Kd.C_drew ?_)))
          (case side2 => exact HC0_0.out)
          (case side3 => exact HO_2.out)
          rintro e w16 ⟨v443, rfl, ho0, hb⟩
          refine ⟨_, rfl, ?_⟩
          have n0_ := Aside0.mk (Kd.V_below (by (with_reducible repeat (first | apply Kd.V_alloc | apply Kd.V_drewN | apply Kd.V_drew)); exact HO_2.out) hb)
          have n1_ := Aside0.mk (Kd.V_lower (Kd.V_mono (ok' := fun k_ => (P2_ k_ ∨ w.heap.size ≤ k_) ∧ k_ ≠ gb437) ho0 (fun k_ hk_ => ⟨Or.elim hk_ (fun hs_ => hs_.1) (fun hn_ => (.inr (Nat.le_trans (below_size (by repeat (first | (with_reducible first | exact HB.out | apply below_alloc | apply pw_below_drewN | apply below_drew1 | refine below_set ?_ GE437.out) | exact HB.out))) hn_))), Or.elim hk_ (fun hs_ => hs_.2) (fun hn_ => (Kd.freshB (g := gb437) (o := .cells #[.slice (some ad439) l0_0.length c0_0, .int .i64 a0_1] 39 (0, 0)) (by (with_reducible repeat (first | refine blk_drewN ?_ _ | refine blk_drew ?_ | refine blk_alloc ?_ _)); exact BK437.out) k_ hn_))⟩)) (below_size (by repeat (first | (with_reducible first | exact HB.out | apply below_alloc | apply pw_below_drewN | apply below_drew1 | refine below_set ?_ GE437.out) | exact HB.out))))
          have n2_ := Aside0.mk (blk_below (g := gb437) (o := .cells #[.slice (some ad439) l0_0.length c0_0, .int .i64 a0_1] 39 (0, 0)) (by (with_reducible repeat (first | refine blk_drewN ?_ _ | refine blk_drew ?_ | refine blk_alloc ?_ _)); exact BK437.out) hb)
          have n3_ := Aside0.mk (below_step (by repeat (first | (with_reducible first | exact HB.out | apply below_alloc | apply pw_below_drewN | apply below_drew1 | refine below_set ?_ GE437.out) | exact HB.out)) hb)
          clear HO_2
          clear BK437
          clear HB
          have HO_2 := n0_
          have HO444 := n1_
          have BK437 := n2_
          have HB := n3_
          clear n0_ n1_ n2_ n3_
          (try clear hb)
          (try clear hb2)
          (try clear hk)
          (try clear hi)
          (try clear ho0)
          refine hK.out _ _ ⟨(blk_cell BK437.out 0).trans rfl, (blk_cell BK437.out 1).trans rfl, ((HB.out.cell (World.block_lt_of_cell? w _ hw440_0)).trans hw440_0), ((HB.out.cell (World.block_lt_of_cell? w _ hw440_1)).trans hw440_1), ((HB.out.cell (World.block_lt_of_cell? w _ hw440_2)).trans hw440_2), ((HB.out.cell (World.block_lt_of_cell? w _ hw440_3)).trans hw440_3), ((HB.out.cell (World.block_lt_of_cell? w _ hw441_0)).trans hw441_0)⟩ (fun hHeld => ?_)
          clear hK K
          refine norm_ (a' := ?_) ?_ ?_
          rotate_left
          ·show Act.put _ (some 44) _ = _
           simp only [Act.put, List.setIfInBounds_toArray, List.set_cons_zero, List.set_cons_succ, i64_w, i32_w]
           rfl
          refine pure_ (i := 12) (N := some 2) (v := ?_) (a' := ?_) #[true, true, true, true, true, true, true, true, true, true, true, true, true] rfl rfl (any_of HT_.out (by kernel_rfl)) (fun _ _ _ h => h) (Or.inl ⟨by rfl, ?_⟩) ?_ ?_
          rotate_left
          ·intro w'
           go_simp
           with_reducible rfl
          rotate_left
          ·simp only [Act.put, List.setIfInBounds_toArray, List.set_cons_zero, List.set_cons_succ, i64_w, i32_w]
           rfl
          refine done_ (done_of HT_.out (by kernel_rfl)) ?_
          try go_wp2
          go_roundg k2
          case measure => have := HK1.out; have := HK2.out; omega
          case rel => exact ⟨(t442), (wrap64 (x8_2 + 1)), (by first | rfl | (simp; done) | (simp [*]; done)), H', ⟨by have := HK1.out; have := HK2.out; omega⟩, ⟨by (with_reducible repeat (first | apply Kd.V_alloc | apply Kd.V_drewN | apply Kd.V_drew)); exact HO444.out⟩, ⟨by (with_reducible repeat (first | refine blk_drewN ?_ _ | refine blk_drew ?_ | refine blk_alloc ?_ _)); exact BK437.out⟩, ⟨by repeat (first | (with_reducible first | exact HB.out | apply below_alloc | apply pw_below_drewN | apply below_drew1 | refine below_set ?_ GE437.out) | exact HB.out)⟩⟩
         ·rw [if_neg c11] at H
          exact absurd H (by simp)
        ·rw [if_neg c10] at H
         have c10b0 : decide (x8_2 < (((rd_T26 l0_0 a1).f3).length : Int)) = false := decide_eq_false c10
         clear c10
         obtain ⟨y445, hy445⟩ : ∃ y_ : List Int, y_ = (([] : List Int)) := ⟨_, rfl⟩
         replace H : (if y445.length + x2_2.length < 17592186044416 then ((some (y445 ++ x2_2 : List Int)).bind fun y448 => (if y448.length < 17592186044416 then (some (y448 ++ [a1])) else (none))) else (none)) = some r := by first | (rw [hy445]; with_reducible exact H) | (have H2_ := (Option.bind_some _ _).symm.trans H; rw [hy445]; with_reducible exact H2_) | (have H2_ := (Option.bind_some _ _).symm.trans H; with_reducible exact H2_) | with_reducible exact H | (rw [hy445]; exact H) | exact H
         have Ny445 := Aside0.mk hy445
         clear hy445
         by_cases c17 : y445.length + x2_2.length < 17592186044416
         ·rw [if_pos c17] at H
          have LMc17 := Aside0.mk c17
          clear c17
          obtain ⟨y448, hy448⟩ : ∃ y_ : List Int, y_ = (y445 ++ x2_2) := ⟨_, rfl⟩
          replace H : (if y448.length < 17592186044416 then (some (y448 ++ [a1])) else (none)) = some r := by first | (rw [hy448]; with_reducible exact H) | (have H2_ := (Option.bind_some _ _).symm.trans H; rw [hy448]; with_reducible exact H2_) | (have H2_ := (Option.bind_some _ _).symm.trans H; with_reducible exact H2_) | with_reducible exact H | (rw [hy448]; exact H) | exact H
          have Ny448 := Aside0.mk hy448
          clear hy448
          by_cases c18 : y448.length < 17592186044416
          ·rw [if_pos c18] at H
           have LMc18 := Aside0.mk c18
           clear c18
           obtain ⟨y451, hy451⟩ : ∃ y_ : List Int, y_ = (y448 ++ [a1]) := ⟨_, rfl⟩
           replace H : (some y451) = some r := by first | (rw [hy451]; with_reducible exact H) | (have H2_ := (Option.bind_some _ _).symm.trans H; rw [hy451]; with_reducible exact H2_) | (have H2_ := (Option.bind_some _ _).symm.trans H; with_reducible exact H2_) | with_reducible exact H | (rw [hy451]; exact H) | exact H
           have Ny451 := Aside0.mk hy451
           clear hy451
           obtain rfl := Option.some.inj H
           have hcz19_0 : wr.cell? ⟨gb437, 0, none⟩ = some (.slice A0_0 l0_0.length c0_0) := (blk_cell BK437.out 0).trans rfl
           have hcz19_1 : wr.cell? ⟨gb437, 1, none⟩ = some (.int .i64 a0_1) := (blk_cell BK437.out 1).trans rfl
           have hfz19_0 := blk_frozen BK437.out 0
           have hfz19_1 := blk_frozen BK437.out 1
           have p439 : 0 ≤ (a1 : Int) := of_decide_eq_true (by first | (with_reducible assumption) | assumption)
           have q439 : a1 < (l0_0.length : Int) := of_decide_eq_true (by first | (with_reducible assumption) | assumption)
           obtain ⟨ad439, A439_1, c439_1, A439_2, c439_2, A439_3, c439_3, e439, hx439_0, hx439_1, hx439_2, hx439_3, hl439_1, hi439_1, hl439_2, hi439_2, hl439_3, hi439_3⟩ := at_T26 HR0_0.out a1 p439 q439
           cases e439
           replace hx439_0 := (HB.out.cell (World.block_lt_of_cell? w _ hx439_0)).trans hx439_0
           replace hx439_1 := (HB.out.cell (World.block_lt_of_cell? w _ hx439_1)).trans hx439_1
           replace hx439_2 := (HB.out.cell (World.block_lt_of_cell? w _ hx439_2)).trans hx439_2
           replace hx439_3 := (HB.out.cell (World.block_lt_of_cell? w _ hx439_3)).trans hx439_3
           have HR439_1 := Aside0.mk hi439_1
           have HC439_1 := Aside0.mk hl439_1
           clear hi439_1 hl439_1
           have HR439_2 := Aside0.mk hi439_2
           have HC439_2 := Aside0.mk hl439_2
           clear hi439_2 hl439_2
           have HR439_3 := Aside0.mk hi439_3
           have HC439_3 := Aside0.mk hl439_3
           clear hi439_3 hl439_3
           replace p439 := eq_true p439
           replace q439 := eq_true q439
           go_wp2_with (first | ((with_reducible refine gate_dst (N := 45) rfl ?_); refine Kd.R_lit (Kd.int .i64) _ 3 ?hg (N := 45) ?hd (xs := ([] : List Int)) (inner := []) (ok := fun _ => True) (okp := fun _ => True) ?hr ?hp (fun _ hk => hk) trivial (Below.refl _ _) (Nat.le_refl _) (by simp) ?_; (case hd => rfl); (case hg => rfl); (case hr => first | (go_simp; done) | (go_simp; rfl)); (case hp => exact (Reps.none _ _)); intro v446 w20 ho21 hb hg_ hnew_; clear hg_ hnew_; (first | rw [← Ny445.out] at ho21 | (simp only [Int.reduceToNat] at ho21; rw [← Ny445.out] at ho21)); have n0_ := Aside0.mk (Kd.V_elder' (by (with_reducible repeat (first | apply Kd.V_alloc | apply Kd.V_drewN | apply Kd.V_drew)); exact HO_2.out) (Kd.R_base ho21) hb); have n1_ := Aside0.mk (Kd.R_lower (Kd.R_newM (M := fun k_ => (w.heap.size ≤ k_)) ho21 (below_size (by repeat (first | (with_reducible first | exact HB.out | apply below_alloc | apply pw_below_drewN | apply below_drew1 | refine below_set ?_ GE437.out) | exact HB.out))) (fun k_ h_ => h_)) (below_size (by repeat (first | (with_reducible first | exact HB.out | apply below_alloc | apply pw_below_drewN | apply below_drew1 | refine below_set ?_ GE437.out) | exact HB.out)))); have n2_ := Aside0.mk (blk_below (g := gb437) (o := .cells #[.slice (some ad439) l0_0.length c0_0, .int .i64 a0_1] 39 (0, 0)) (by (with_reducible repeat (first | refine blk_drewN ?_ _ | refine blk_drew ?_ | refine blk_alloc ?_ _)); exact BK437.out) hb); have n3_ := Aside0.mk (below_step (by repeat (first | (with_reducible first | exact HB.out | apply below_alloc | apply pw_below_drewN | apply below_drew1 | refine below_set ?_ GE437.out) | exact HB.out)) hb); clear HO_2; clear BK437; clear HB; have HO_2 := n0_; have HO447 := n1_; have BK437 := n2_; have HB := n3_; clear n0_ n1_ n2_ n3_; clear hb ho21; obtain ⟨Ao23, co23, eo23⟩ := Kd.V_slice HO_2.out; subst eo23) | ((with_reducible refine gate_builtin (b := .append) (xs := #[.tmp 45, .tmp 46]) rfl ?_); at_builtin; refine Kd.R_append_rows (Kd.int .i64) (w0 := w) w.heap.size rfl (.tmp 45) (.tmp 46) 24 3 (.int .i64 0) 8 rfl Tryd.underlying24 info3 rfl (by decide) (by omega) v446 y445 x2_2 _ _ _ (fun k_ => (w.heap.size ≤ k_)) (fun _ => False) rfl rfl ?aO ?aR (fun _ _ h => h) (fun _ h => h.elim) ?aF ?aB ?aS ?aL ?_; (case aR => repeat (first | exact (Kd.V_reads' HO_2.out).2.2 | (with_reducible refine Kd.C_alloc ?_ _) | (with_reducible refine Kd.C_drewN ?_ _) | (with_reducible refine Kd.C_drew ?_))); (case aB => exact (by repeat (first | (with_reducible first | exact HB.out | apply below_alloc | apply pw_below_drewN | apply below_drew1 | refine below_set ?_ GE437.out) | exact HB.out))); (case aF => exact (fun k_ hk => (Nat.le_trans (below_size (by repeat (first | (with_reducible first | exact HB.out | apply below_alloc | apply pw_below_drewN | apply below_drew1 | refine below_set ?_ GE437.out) | exact HB.out))) hk))); (case aO => exact (by (with_reducible repeat (first | apply Kd.R_alloc | apply Kd.R_drewN | apply Kd.R_drew)); exact Kd.R_mono HO447.out (fun _ hk => hk.1))); (case aS => exact (below_size (by repeat (first | (with_reducible first | exact HB.out | apply below_alloc | apply pw_below_drewN | apply below_drew1 | refine below_set ?_ GE437.out) | exact HB.out)))); (case aL => have := LMc17.out; omega); intro v449 w22 ho hb hg hat; rw [← Ny448.out] at ho; have n0_ := Aside0.mk (Kd.V_afterv (ok := (fun k_ => (P2_ k_ ∨ w.heap.size ≤ k_) ∧ k_ ≠ gb437)) (by (with_reducible repeat (first | apply Kd.V_alloc | apply Kd.V_drewN | apply Kd.V_drew)); exact HO_2.out) hg hat); have n1_ := Aside0.mk (blk_grown (g := gb437) (o := .cells #[.slice (some ad439) l0_0.length c0_0, .int .i64 a0_1] 39 (0, 0)) (by (with_reducible repeat (first | refine blk_drewN ?_ _ | refine blk_drew ?_ | refine blk_alloc ?_ _)); exact BK437.out) hg (Kd.R_ne HO447.out BK437.out (by decide))); have n2_ := Aside0.mk (hb); have n3_ := Aside0.mk (ho); clear HO_2; clear BK437; clear HB; clear HO447; have HO_2 := n0_; have BK437 := n1_; have HB := n2_; have HO450 := n3_; clear n0_ n1_ n2_ n3_; clear ho hb hg hat) | ((with_reducible refine gate_builtin (b := .append) (xs := #[.tmp 47, .tmp 49]) rfl ?_); at_builtin; refine Kd.R_append (Kd.int .i64) (w0 := w) w.heap.size rfl (.tmp 47) (.tmp 49) 24 3 (.int .i64 0) 8 rfl Tryd.underlying24 info3 rfl (by decide) (by omega) v449 y448 a1 [.int .i64 a1] (fun k_ => (w.heap.size ≤ k_)) (fun _ => False) rfl rfl ?aP (fun _ hk => hk.elim) ?aF ?aO ?aB ?aS ?aL ?_; (case aP => exact rfl); (case aB => exact (by repeat (first | (with_reducible first | exact HB.out | apply below_alloc | apply pw_below_drewN | apply below_drew1 | refine below_set ?_ GE437.out) | exact HB.out))); (case aF => exact (fun k_ hk => (Nat.le_trans (below_size (by repeat (first | (with_reducible first | exact HB.out | apply below_alloc | apply pw_below_drewN | apply below_drew1 | refine below_set ?_ GE437.out) | exact HB.out))) hk))); (case aO => exact (by (with_reducible repeat (first | apply Kd.R_alloc | apply Kd.R_drewN | apply Kd.R_drew)); exact HO450.out)); (case aS => exact (below_size (by repeat (first | (with_reducible first | exact HB.out | apply below_alloc | apply pw_below_drewN | apply below_drew1 | refine below_set ?_ GE437.out) | exact HB.out)))); (case aL => have := LMc18.out; omega); intro v452 w24 ho hb hg hat; rw [← Ny451.out] at ho; have n0_ := Aside0.mk (Kd.V_afterv (ok := (fun k_ => (P2_ k_ ∨ w.heap.size ≤ k_) ∧ k_ ≠ gb437)) (by (with_reducible repeat (first | apply Kd.V_alloc | apply Kd.V_drewN | apply Kd.V_drew)); exact HO_2.out) hg hat); have n1_ := Aside0.mk (blk_grown (g := gb437) (o := .cells #[.slice (some ad439) l0_0.length c0_0, .int .i64 a0_1] 39 (0, 0)) (by (with_reducible repeat (first | refine blk_drewN ?_ _ | refine blk_drew ?_ | refine blk_alloc ?_ _)); exact BK437.out) hg (Kd.R_ne HO450.out BK437.out (by decide))); have n2_ := Aside0.mk (hb); have n3_ := Aside0.mk (ho); clear HO_2; clear BK437; clear HB; clear HO450; have HO_2 := n0_; have BK437 := n1_; have HB := n2_; have HO453 := n3_; clear n0_ n1_ n2_ n3_; clear ho hb hg hat))
           go_ret
           exact ⟨_, by first | rfl | (simp [errW_none, errW_some] <;> rfl) | (simp [*, errW_none, errW_some] <;> rfl), Kd.V_mono (Kd.R_V (by (with_reducible repeat (first | apply Kd.R_alloc | apply Kd.R_drewN | apply Kd.R_drew)); exact HO453.out)) (fun k_ hk => by first | exact ⟨(.inr (hk.1)), hk.2⟩ | exact (.inr (hk))), by repeat (first | (with_reducible first | exact HB.out | apply below_alloc | apply pw_below_drewN | apply below_drew1 | refine below_set ?_ GE437.out) | exact HB.out)⟩
          ·rw [if_neg c18] at H
           exact absurd H (by simp)
         ·rw [if_neg c17] at H
          exact absurd H (by simp)
       ·rw [if_neg c9] at H
        exact absurd H (by simp)
      ·rw [if_neg c8] at H
       exact absurd H (by simp)

def dioramaref10_Order.f (k : Nat) (l0_0 : List (S26)) (a0_1 : Int) : Option (List Int) := (dioramaref10_meet.f k l0_0 a0_1 a0_1 ([] : List Int)).bind fun t455 => (some t455)
set_option maxHeartbeats 8000000 in
set_option maxRecDepth 100000 in
theorem dioramaref10_Order.calls (k : Nat) (A0_0 : Option Addr) (c0_0 : Nat) (l0_0 : List (S26)) (a0_1 : Int) (r : List Int) (w : World) (hr0_0 : Kd.C k26 w A0_0 l0_0.length l0_0) (hc0_0 : l0_0.length ≤ c0_0) (h : dioramaref10_Order.f k l0_0 a0_1 = some r) :
  Calls Tryd.prog 60 #[.agg #[.slice A0_0 l0_0.length c0_0, .int .i64 a0_1]] w fun e w' => ∃ v0_ : Value, e = .returned (v0_) ∧ Kd.V (Kd.int .i64) 3 w' w.heap.size (fun k_ => (w.heap.size ≤ k_)) v0_ r ∧ Below w.heap.size w w' := by
 have hu39 := Tryd.underlying39
 have HR0_0 := Aside0.mk hr0_0
 have HC0_0 := Aside0.mk hc0_0
 clear hr0_0 hc0_0
 have HB := Aside0.mk (Below.refl w.heap.size w)
 have H : ((dioramaref10_meet.f k l0_0 a0_1 a0_1 ([] : List Int)).bind fun t455 => (some t455)) = some r := h
 clear h
 replace H := Option.bind_eq_some_iff.mp H
 obtain ⟨t455, A20, H⟩ := H
 replace H : (some t455) = some r := H
 have A2 := Aside0.mk A20
 clear A20
 obtain rfl := Option.some.inj H
 go_enter Tryd.func60, Tryd.ntmps60
 go_wp2_with (first | ((with_reducible refine gate_dst (N := 1) rfl ?_); refine box_event ?hg (N := 1) ?hd (cs := #[.slice A0_0 l0_0.length c0_0, .int .i64 a0_1]) (t := 39) ?hr ?_; (case hd => rfl); (case hg => rfl); (case hr => first | (go_simp; done) | (go_simp; rfl)); intro gb454 hg w3 hbox hb; have n0_ := Aside0.mk (below_step (by repeat (first | (with_reducible first | exact HB.out | apply below_alloc | apply pw_below_drewN | apply below_drew1) | exact HB.out)) hb); have n1_ := Aside0.mk (hbox); have n2_ := Aside0.mk ((by rw [hg]; exact (below_size (by repeat (first | (with_reducible first | exact HB.out | apply below_alloc | apply pw_below_drewN | apply below_drew1) | exact HB.out))) : w.heap.size ≤ gb454)); have n3_ := Aside0.mk ((by rw [hg]; exact (below_size (by repeat (first | (with_reducible first | exact HB.out | apply below_alloc | apply pw_below_drewN | apply below_drew1) | exact HB.out))) : w.heap.size ≤ gb454)); clear HB; have HB := n0_; have BK454 := n1_; have GW454 := n2_; have GE454 := n3_; clear n0_ n1_ n2_ n3_; clear hb hbox hg; have hcz4_0 : w3.cell? ⟨gb454, 0, none⟩ = some (.slice A0_0 l0_0.length c0_0) := (blk_cell BK454.out 0).trans rfl; have hcz4_1 : w3.cell? ⟨gb454, 1, none⟩ = some (.int .i64 a0_1) := (blk_cell BK454.out 1).trans rfl; have hfz4_0 := blk_frozen BK454.out 0; have hfz4_1 := blk_frozen BK454.out 1) | ((with_reducible refine gate_callee (f := 98) rfl ?_); refine goesL_ (some 6) rfl rfl Tryd.func98 (by kernel_rfl) rfl #[.agg #[.slice A0_0 l0_0.length c0_0, .int .i64 a0_1], .int .i64 a0_1, .slice none 0 0] rfl (by (try simp only [List.map_toArray, List.map_cons, List.map_nil]); first | done | rfl | (simp only [List.length_drop, List.length_take]; rfl)) ?_; (refine (dioramaref10_meet.calls k _ _ l0_0 a0_1 a0_1 (fun k_ => False) _ _ ([] : List Int) t455 _ ?side1 ?side2 ?side3 A2.out).mono ?_); (case side1 => repeat (first | exact (Kd.C_below HR0_0.out HB.out) | (with_reducible refine Kd.C_alloc ?_ _) | (with_reducible refine Kd.C_drewN ?_ _) | (with_reducible refine Kd.C_drew ?_))); (case side2 => exact HC0_0.out); (case side3 => exact Kd.V_nil _ _ _ _ _); rintro e w5 ⟨v456, rfl, ho0, hb⟩; refine ⟨_, rfl, ?_⟩; have n0_ := Aside0.mk (Kd.V_lower (Kd.V_mono (ok' := fun k_ => (w.heap.size ≤ k_) ∧ k_ ≠ gb454) ho0 (fun k_ hk_ => ⟨Or.elim hk_ (fun hs_ => (hs_).elim) (fun hn_ => (Nat.le_trans (below_size (by repeat (first | (with_reducible first | exact HB.out | apply below_alloc | apply pw_below_drewN | apply below_drew1 | refine below_set ?_ GE454.out) | exact HB.out))) hn_)), Or.elim hk_ (fun hs_ => (hs_).elim) (fun hn_ => (Kd.freshB (g := gb454) (o := .cells #[.slice A0_0 l0_0.length c0_0, .int .i64 a0_1] 39 (0, 0)) (by (with_reducible repeat (first | refine blk_drewN ?_ _ | refine blk_drew ?_ | refine blk_alloc ?_ _)); exact BK454.out) k_ hn_))⟩)) (below_size (by repeat (first | (with_reducible first | exact HB.out | apply below_alloc | apply pw_below_drewN | apply below_drew1 | refine below_set ?_ GE454.out) | exact HB.out)))); have n1_ := Aside0.mk (blk_below (g := gb454) (o := .cells #[.slice A0_0 l0_0.length c0_0, .int .i64 a0_1] 39 (0, 0)) (by (with_reducible repeat (first | refine blk_drewN ?_ _ | refine blk_drew ?_ | refine blk_alloc ?_ _)); exact BK454.out) hb); have n2_ := Aside0.mk (below_step (by repeat (first | (with_reducible first | exact HB.out | apply below_alloc | apply pw_below_drewN | apply below_drew1 | refine below_set ?_ GE454.out) | exact HB.out)) hb); clear BK454; clear HB; have HO457 := n0_; have BK454 := n1_; have HB := n2_; clear n0_ n1_ n2_; (try clear hb); (try clear hb2); (try clear hk); (try clear hi); (try clear ho0)))
 go_ret
 exact ⟨_, by first | rfl | (simp [errW_none, errW_some] <;> rfl) | (simp [*, errW_none, errW_some] <;> rfl), by (with_reducible repeat (first | apply Kd.V_alloc | apply Kd.V_drewN | apply Kd.V_drew)); exact Kd.V_mono HO457.out (fun _ hk => hk.1), by repeat (first | (with_reducible first | exact HB.out | apply below_alloc | apply pw_below_drewN | apply below_drew1 | refine below_set ?_ GE454.out) | exact HB.out)⟩

end Go.Proofs.YtglfebpgdghlfaaDoor.PUpgradeUps
end
section
-- PRINTED BY print.sh 35421559b90ae4d0a3588c463048766b98c2df88dd9212a6774a882060cdf62d: not written by this session
namespace Go.Proofs.YtglfebpgdghlfaaDoor.PUpgradeUps
open Go.RowKit Go.Proofs.YtglfebpgdghlfaaDoorW.PrintWords Go.Proofs.YtglfebpgdghlfaaDoorW.PrintLast Go.Proofs.YtglfebpgdghlfaaDoorW.PrintMore
attribute [local go_sem] max2_int min2_int max_two min_two max_three min_three max_four min_four   -- for this text's walks alone
set_option linter.unusedVariables false
set_option linter.unusedSimpArgs false
def dioramaref10_Find.l0 : Nat → List Int → Int → Int → Option (Int)
 | 0, _, _, _ => none
 | k + 1, x0, x1, x5 => if x5 < (x0.length : Int) then (if 0 ≤ x5 then (if (rd x0 x5) = x1 then (some x5) else (dioramaref10_Find.l0 k x0 x1 (wrap64 (x5 + 1)))) else (none)) else (some (-1))
def dioramaref10_Find.f (k : Nat) (l0 : List Int) (a1 : Int) : Option (Int) := dioramaref10_Find.l0 k l0 a1 0
set_option maxHeartbeats 8000000 in
set_option maxRecDepth 100000 in
theorem dioramaref10_Find.calls (k : Nat) (A0 : Option Addr) (c0 : Nat) (l0 : List Int) (a1 : Int) (r : Int) (w : World) (hr0 : Kd.C (Kd.int .i64) w A0 l0.length l0) (hc0 : l0.length ≤ c0) (h : dioramaref10_Find.f k l0 a1 = some r) :
  Calls Tryd.prog 61 #[.slice A0 l0.length c0, .int .i64 a1] w fun e w' => e = .returned (.int .i64 r) ∧ Drawn0 w w' := by
 have HR0 := Aside0.mk hr0
 have HC0 := Aside0.mk hc0
 clear hr0 hc0
 have H : (dioramaref10_Find.l0 k l0 a1 0) = some r := h
 clear h
 have H' := Aside0.mk H
 clear H
 go_enter Tryd.func61, Tryd.ntmps61
 go_wp2
 go_loopg [5] k (fun kq v5 w' => ∃ (x5_1 : Int), v5 = .int .i64 x5_1 ∧ Aside0 (dioramaref10_Find.l0 kq l0 a1 x5_1 = some r) ∧ Aside0 (kq ≤ k) ∧ Drawn0 w w')
 case atStart => exact ⟨(0), (by first | rfl | (simp; done) | (simp [*]; done)), H', ⟨Nat.le_refl _⟩, by repeat (first | exact Drawn0.refl _ | apply Drawn0.step)⟩
 case round =>
  clear H'
  try clear p2
  obtain ⟨x5_1, rfl, HA, HK1, ⟨m1, rfl⟩⟩ := hrel
  cases gk with
  | zero => exact absurd HA.out (by simp [dioramaref10_Find.l0])
  | succ k1 =>
   have H := HA.out
   clear HA
   simp only [dioramaref10_Find.l0] at H
   by_cases c3 : x5_1 < (l0.length : Int)
   ·rw [if_pos c3] at H
    have c3b0 : decide (x5_1 < (l0.length : Int)) = true := decide_eq_true c3
    clear c3
    by_cases c4 : 0 ≤ x5_1
    ·rw [if_pos c4] at H
     have c4b0 : decide (0 ≤ x5_1) = true := decide_eq_true c4
     clear c4
     by_cases c5 : (rd l0 x5_1) = a1
     ·rw [if_pos c5] at H
      have c5b0 : ((rd l0 x5_1) == a1) = true := beq_iff_eq.mpr c5
      have c5b1 : ((rd l0 x5_1) != a1) = false := bne_eq_false_iff_eq.mpr c5
      clear c5
      obtain rfl := Option.some.inj H
      have p458 : 0 ≤ (x5_1 : Int) := of_decide_eq_true (by first | (with_reducible assumption) | assumption)
      have q458 : x5_1 < (l0.length : Int) := of_decide_eq_true (by first | (with_reducible assumption) | assumption)
      obtain ⟨ad458, e458, hx458_0⟩ := Kd.at_int HR0.out x5_1 p458 q458
      cases e458
      replace p458 := eq_true p458
      replace q458 := eq_true q458
      go_wp2
      go_ret
      exact ⟨by first | rfl | (simp; done) | (simp [*]; done), by repeat (first | exact Drawn0.refl _ | apply Drawn0.step)⟩
     ·rw [if_neg c5] at H
      have c5b0 : ((rd l0 x5_1) == a1) = false := beq_eq_false_iff_ne.mpr c5
      have c5b1 : ((rd l0 x5_1) != a1) = true := bne_iff_ne.mpr c5
      have H' := Aside0.mk H
      clear H
      have p458 : 0 ≤ (x5_1 : Int) := of_decide_eq_true (by first | (with_reducible assumption) | assumption)
      have q458 : x5_1 < (l0.length : Int) := of_decide_eq_true (by first | (with_reducible assumption) | assumption)
      obtain ⟨ad458, e458, hx458_0⟩ := Kd.at_int HR0.out x5_1 p458 q458
      cases e458
      replace p458 := eq_true p458
      replace q458 := eq_true q458
      go_wp2
      go_roundg k1
      case measure => have := HK1.out; omega
      case rel => exact ⟨(wrap64 (x5_1 + 1)), (by first | rfl | (simp; done) | (simp [*]; done)), H', ⟨by have := HK1.out; omega⟩, by repeat (first | exact Drawn0.refl _ | apply Drawn0.step)⟩
    ·rw [if_neg c4] at H
     exact absurd H (by simp)
   ·rw [if_neg c3] at H
    have c3b0 : decide (x5_1 < (l0.length : Int)) = false := decide_eq_false c3
    clear c3
    obtain rfl := Option.some.inj H
    go_wp2
    go_ret
    exact ⟨by first | rfl | (simp; done) | (simp [*]; done), by repeat (first | exact Drawn0.refl _ | apply Drawn0.step)⟩

end Go.Proofs.YtglfebpgdghlfaaDoor.PUpgradeUps
end
section
namespace Go.Proofs.YtglfebpgdghlfaaDoor.L
open Go.RowKit Go.ChangeShapes Go.WideShapes Go.Proofs.YtglfebpgdghlfaaDoorW.PrintWords Go.Proofs.YtglfebpgdghlfaaDoorW.PrintLast Go.Proofs.YtglfebpgdghlfaaDoorW.PrintMore
attribute [local go_sem] max2_int min2_int max_two min_two max_three min_three max_four min_four
open Go.Proofs.YtglfebpgdghlfaaDoor.PUpgradeUps
def findI (l : List Int) (a : Int) : Int := if a ∈ l then (l.idxOf a : Int) else -1
theorem find_l0 (l : List Int) (a : Int) (hl : l.length ≤ 1000000) : ∀ (m i : Nat), l.length ≤ i + m → i ≤ l.length → (∀ j : Nat, j < i → ¬ rd l (j : Int) = a) → dioramaref10_Find.l0 (m + 1) l a (i : Int) = some (findI l a)
  | 0, i, h1, h2, h3 => by
    rw [dioramaref10_Find.l0, if_neg (by omega)]
    have : ¬ a ∈ l := fun hm => by
      obtain ⟨j, hj⟩ := List.getElem?_of_mem hm
      have hjl := (List.getElem?_eq_some_iff.1 hj).1
      refine h3 j (by omega) ?_
      unfold rd
      rw [Int.toNat_natCast, List.getD_eq_getElem?_getD, hj]; rfl
    unfold findI
    rw [if_neg this]
  | m + 1, i, h1, h2, h3 => by
    by_cases hi : i < l.length
    · rw [dioramaref10_Find.l0, if_pos (by omega), if_pos (Int.natCast_nonneg i)]
      by_cases he : rd l (i : Int) = a
      · rw [if_pos he]
        have hg : l[i] = a := by rw [← he, rd_eq hi]
        have hm : a ∈ l := by rw [← hg]; exact List.getElem_mem hi
        unfold findI
        rw [if_pos hm]
        have h4 : l.idxOf a ≤ i := by
          refine Nat.le_of_not_lt (fun hlt => ?_)
          have := List.not_of_lt_findIdx (p := fun x => x == a) (xs := l) hlt
          simp [hg] at this
        have h5 : l.idxOf a = i := by
          refine Nat.le_antisymm h4 (Nat.le_of_not_lt (fun hlt => ?_))
          have h6 : l.idxOf a < l.length := by omega
          refine h3 _ hlt ?_
          rw [rd_eq h6]
          exact List.getElem_idxOf h6
        rw [h5]
      · rw [if_neg he, wrap64_in ((i : Int) + 1) (by omega), show (i : Int) + 1 = ((i + 1 : Nat) : Int) from rfl]
        exact find_l0 l a hl m (i + 1) (by omega) (by omega) (ext_lt (P := fun j : Nat => ¬ rd l (j : Int) = a) h3 he)
    · have := find_l0 l a hl m i (by omega) h2 h3
      rw [dioramaref10_Find.l0, if_neg (by omega)]
      rw [dioramaref10_Find.l0.eq_def] at this
      cases m with
      | zero => simpa [show ¬ ((i : Int) < (l.length : Int)) by omega] using this
      | succ m => simpa [show ¬ ((i : Int) < (l.length : Int)) by omega] using this
theorem find_C (A : Option Addr) (c : Nat) (l : List Int) (a : Int) (w : World) (h : (Kd.int .i64).C w A l.length l) (hc : l.length ≤ c) (hl : l.length ≤ 1000000) :
    Calls Tryd.prog 61 #[.slice A l.length c, .int .i64 a] w fun e w' => e = .returned (.int .i64 (findI l a)) ∧ Drawn0 w w' :=
  dioramaref10_Find.calls (l.length + 1) A c l a (findI l a) w h hc (by
    unfold dioramaref10_Find.f
    exact find_l0 l a hl l.length 0 (by omega) (by omega) (fun j hj => by omega))
def refN (ns : List Node) (l : List Int) (a : Int) : Node := ⟨(nd ns a.toNat).kind, (nd ns a.toNat).ints, (nd ns a.toNat).texts, (nd ns a.toNat).kids.map (findI l)⟩
def refCanL (ns : List Node) (l : List Int) : List Node := l.map (refN ns l)
def SceneRPost (t : Scene) (w : World) (e : Ending) (w' : World) : Prop := ∃ A c, e = .returned (.agg #[.slice A t.nodes.length c, .int .i64 t.root]) ∧ kNode.R 26 w' w.heap.size (fun _ => True) (.slice A t.nodes.length c) t.nodes ∧ Below w.heap.size w w'
structure KidB (f : Int → Int) (n : Node) (v1 v2 v3 : Value) (j g : Nat) (W0 W : World) : Prop where
  below : Below W0.heap.size W0 W
  gb : W0.heap.size ≤ g
  box : W.heap[g]? = some (.cells #[.int .i64 n.kind, v1, v2, v3] 26 (0, 0))
  r1 : (Kd.int .i64).R 2 W W0.heap.size (fun _ => True) v1 n.ints
  r2 : Kd.string.R 9 W W0.heap.size (fun _ => True) v2 n.texts
  r3 : (Kd.int .i64).R 3 W W0.heap.size (fun _ => True) v3 (mapTake f n.kids j)
theorem KidB.drewN {f : Int → Int} {n : Node} {v1 v2 v3 : Value} {j g : Nat} {W0 W : World} (h : KidB f n v1 v2 v3 j g W0 W) (m : Nat) : KidB f n v1 v2 v3 j g W0 (W.drewN m) :=
  ⟨pw_below_drewN h.below m, h.gb, h.box, Kd.R_drewN h.r1 m, Kd.R_drewN h.r2 m, Kd.R_drewN h.r3 m⟩
theorem KidB.set {f : Int → Int} {n : Node} {v1 v2 : Value} {g' g c m : Nat} {j : Nat} {W0 W : World} (h : KidB f n v1 v2 (.slice (some ⟨g, 0, none⟩) m c) j g' W0 W) (hj : j < n.kids.length) :
    W.cell? ⟨g, j, none⟩ = some (.int .i64 (rd n.kids (j : Int))) ∧ W.frozen? ⟨g, j, none⟩ = false ∧ g ≠ g' ∧ KidB f n v1 v2 (.slice (some ⟨g, 0, none⟩) m c) (j + 1) g' W0 (W.setCell ⟨g, j, none⟩ (.int .i64 (f (rd n.kids (j : Int))))) := by
  have hm := (Kd.R_reads' h.r3).1
  rw [mapTake_len] at hm
  obtain ⟨c1, c2⟩ := ints_cell h.r3 j (by omega)
  obtain ⟨s1, s2, s3⟩ := ints_store h.r3 j (by omega) (f (rd n.kids (j : Int)))
  rw [mapTake_rd f _ _ hj] at c1
  rw [mapTake_set f _ _ hj] at s1
  obtain ⟨cells, hc⟩ := Kd.R_typed h.r3 g rfl
  have hne : g ≠ g' := fun e => by
    rw [e, h.box] at hc
    cases hc
  refine ⟨c1, c2, hne, below_set h.below s3, h.gb, blk_grown h.box s2 (fun e => ?_), Kd.R_grown1 h.r1 rfl s2 (Kd.R_ne h.r1 hc (by decide)), Kd.R_grown1 h.r2 rfl s2 (Kd.R_ne h.r2 hc (by decide)), s1⟩
  injection e with e
  exact hne e.symm
theorem KidB.drew {f : Int → Int} {n : Node} {v1 v2 v3 : Value} {j g : Nat} {W0 W : World} (h : KidB f n v1 v2 v3 j g W0 W) : KidB f n v1 v2 v3 j g W0 W.drew := h.drewN 1
end Go.Proofs.YtglfebpgdghlfaaDoor.L
end
section
namespace Go.Proofs.YtglfebpgdghlfaaDoor.L
open Go.RowKit Go.ChangeShapes Go.WideShapes Go.Proofs.YtglfebpgdghlfaaDoorW.PrintWords Go.Proofs.YtglfebpgdghlfaaDoorW.PrintLast Go.Proofs.YtglfebpgdghlfaaDoorW.PrintMore
attribute [local go_sem] max2_int min2_int max_two min_two max_three min_three max_four min_four
open Go.Proofs.YtglfebpgdghlfaaDoor.PUpgradeUps
def B (s : ByteArray) (i : Nat) : Nat := (s.get! i).toNat
theorem B_lt (s : ByteArray) (i : Nat) : B s i < 256 := UInt8.toNat_lt _
theorem bt_B (s : ByteArray) (i : Nat) (h : i < s.size) : bt s (i : Int) = (B s i : Int) := by
  unfold bt B
  rw [dif_pos (by simpa using h)]
  have : s[i] = s.get! i := by
    show s.data[i] = s.data[i]!
    rw [getElem!_pos]
  rw [← this]; rfl
theorem ext_bytes (s : ByteArray) (p z : Nat) (h : p + z ≤ s.size) : (s.extract p (p + z)).toList = bytesL ((List.range z).map fun i => B s (p + i)) := by
  rw [Lib.toList_data]
  refine List.ext_getElem ?_ (fun i h1 h2 => ?_)
  · have : s.size = s.data.size := rfl
    simp [bytesL]; omega
  · have hz : i < z := by simpa [bytesL] using h2
    simp only [bytesL, List.getElem_map, List.getElem_range, B]
    rw [UInt8.ofNat_toNat]
    have : s.get! (p + i) = s.data[p + i]! := rfl
    rw [this, getElem!_pos s.data (p + i) (show p + i < s.data.size by have : s.size = s.data.size := rfl; omega)]
    simp
theorem bytesL_inj : ∀ (l m : List Nat), (∀ x ∈ l, x < 256) → (∀ x ∈ m, x < 256) → (bytesL l = bytesL m ↔ l = m)
  | [], [], _, _ => by simp
  | [], y :: m, _, _ => by simp [bytesL]
  | x :: l, [], _, _ => by simp [bytesL]
  | x :: l, y :: m, h1, h2 => by
    have ih := bytesL_inj l m (fun z hz => h1 z (by simp [hz])) (fun z hz => h2 z (by simp [hz]))
    have hx := h1 x (by simp)
    have hy := h2 y (by simp)
    simp only [bytesL, List.map_cons, List.cons.injEq] at ih ⊢
    rw [ih]
    refine and_congr_left (fun _ => ⟨fun h => ?_, fun h => by rw [h]⟩)
    have := congrArg UInt8.toNat h
    simpa [Nat.mod_eq_of_lt hx, Nat.mod_eq_of_lt hy] using this
theorem charN_lt (n : Nat) (hn : n ≤ 1114111) : ∀ x ∈ charN n, x < 256 := by
  intro x hx
  unfold charN at hx
  by_cases h0 : 1114111 < n ∨ (55296 ≤ n ∧ n ≤ 57343)
  · rw [if_pos h0] at hx; simp at hx
  · rw [if_neg h0] at hx
    by_cases h1 : n < 128
    · rw [if_pos h1] at hx; simp at hx; omega
    · rw [if_neg h1] at hx
      by_cases h2 : n < 2048
      · rw [if_pos h2] at hx; simp at hx; omega
      · rw [if_neg h2] at hx
        by_cases h3 : n < 65536
        · rw [if_pos h3] at hx; simp at hx; omega
        · rw [if_neg h3] at hx; simp at hx; omega
def okZ (s : ByteArray) (p z : Nat) (x : Int) : Prop := 0 ≤ x ∧ x ≤ 1114111 ∧ charN x.toNat = (List.range z).map fun i => B s (p + i)
theorem fin_at (k : Nat) (s : ByteArray) (p z : Nat) (x : Int) (hp : p + z ≤ s.size) (hs : s.size ≤ 1000000) :
    (okZ s p z x → dioramaref05_At.l1 (k + 2) s (p : Int) (z : Int) x (z : Int) = some (x, (z : Int))) ∧ (¬ okZ s p z x → dioramaref05_At.l1 (k + 2) s (p : Int) (z : Int) x (z : Int) = dioramaref05_At.l0 (k + 1) s (p : Int) ((z + 1 : Nat) : Int)) := by
  have hz : wrap64 ((z : Int) + 1) = ((z + 1 : Nat) : Int) := by rw [wrap64_in _ (by omega)]; rfl
  have hpz : wrap64 ((p : Int) + z) = ((p + z : Nat) : Int) := by rw [wrap64_in _ (by omega)]; rfl
  rw [dioramaref05_At.l1, if_neg (Int.lt_irrefl _), hz]
  by_cases h0 : x ≥ 0
  · rw [if_pos h0]
    by_cases h1 : x ≤ 1114111
    · rw [if_pos h1]
      have hw : wrap32 x = x := wrap32_in x (by omega)
      obtain ⟨n, rfl⟩ : ∃ n : Nat, x = (n : Int) := ⟨x.toNat, by omega⟩
      have hn : n ≤ 1114111 := by omega
      obtain ⟨t, ht, hb⟩ := char_f k n hn
      rw [hw, ht, Option.bind_some, hpz, if_pos (Int.natCast_nonneg p), if_pos (show (p : Int) ≤ ((p + z : Nat) : Int) by omega), if_pos (show ((p + z : Nat) : Int) ≤ (s.size : Int) by omega)]
      rw [hb, Int.toNat_natCast, Int.toNat_natCast, ext_bytes s p z hp]
      have hi := bytesL_inj (charN n) ((List.range z).map fun i => B s (p + i)) (charN_lt n hn) (fun x hx => by
        obtain ⟨i, _, rfl⟩ := List.mem_map.1 hx
        exact B_lt _ _)
      refine ⟨fun hok => ?_, fun hok => ?_⟩
      · rw [if_pos (hi.2 (by have := hok.2.2; rwa [Int.toNat_natCast] at this))]
      · rw [if_neg (fun h => hok ⟨h0, h1, by rw [Int.toNat_natCast]; exact hi.1 h⟩)]
    · rw [if_neg h1]
      exact ⟨fun h => absurd h.2.1 h1, fun _ => rfl⟩
  · rw [if_neg h0]
    exact ⟨fun h => absurd h.1 h0, fun _ => rfl⟩
theorem l1_step (k : Nat) (s : ByteArray) (p z j : Nat) (x : Int) (hj : j < z) (hp : p + z ≤ s.size) (hs : s.size ≤ 1000000) (hx : -100000000 ≤ x ∧ x ≤ 100000000) :
    dioramaref05_At.l1 (k + 1) s (p : Int) (z : Int) x (j : Int) = dioramaref05_At.l1 k s (p : Int) (z : Int) (64 * x + (B s (p + j) : Int) - 128) ((j + 1 : Nat) : Int) := by
  have hb := B_lt s (p + j)
  rw [dioramaref05_At.l1, if_pos (show (j : Int) < z by omega)]
  have e1 : wrap64 ((p : Int) + j) = ((p + j : Nat) : Int) := by rw [wrap64_in _ (by omega)]; rfl
  have e2 : wrap64 ((j : Int) + 1) = ((j + 1 : Nat) : Int) := by rw [wrap64_in _ (by omega)]; rfl
  rw [e1, e2, if_pos (Int.natCast_nonneg _), if_pos (show ((p + j : Nat) : Int) < (s.size : Int) by omega), bt_B s (p + j) (by omega)]
  clear e1 e2
  generalize B s (p + j) = y at hb
  rw [wrap64_in (64 * x) (by omega), wrap64_in (y : Int) (by omega), wrap64_in (64 * x + y) (by omega), wrap64_in (64 * x + y - 128) (by omega)]
def numZ (s : ByteArray) (p z : Nat) : Int :=
  if z = 1 then B s p else if z = 2 then 64 * ((B s p : Int) - 192) + B s (p + 1) - 128
  else if z = 3 then 64 * (64 * ((B s p : Int) - 224) + B s (p + 1) - 128) + B s (p + 2) - 128
  else 64 * (64 * (64 * ((B s p : Int) - 240) + B s (p + 1) - 128) + B s (p + 2) - 128) + B s (p + 3) - 128
theorem l0_step (k : Nat) (s : ByteArray) (p z : Nat) (hz : 1 ≤ z ∧ z ≤ 4) (hs : s.size ≤ 1000000) (hp : p < s.size) :
    (p + z ≤ s.size → okZ s p z (numZ s p z) → dioramaref05_At.l0 (k + 1 + 5 + z) s (p : Int) (z : Int) = some (numZ s p z, (z : Int)))
    ∧ (p + z ≤ s.size → ¬ okZ s p z (numZ s p z) → dioramaref05_At.l0 (k + 1 + 5 + z) s (p : Int) (z : Int) = dioramaref05_At.l0 (k + 1) s (p : Int) ((z + 1 : Nat) : Int))
    ∧ (¬ p + z ≤ s.size → dioramaref05_At.l0 (k + 1 + 5 + z) s (p : Int) (z : Int) = some (0, 0)) := by
  have hb := B_lt s p
  have hw : wrap64 ((p : Int) + z) = ((p + z : Nat) : Int) := by rw [wrap64_in _ (by omega)]; rfl
  have e0 : dioramaref05_At.l0 (k + 1 + 5 + z) s (p : Int) (z : Int) = dioramaref05_At.j1 (k + 1 + 4 + z) s (p : Int) (z : Int) (decide (p + z ≤ s.size)) := by
    rw [show k + 1 + 5 + z = (k + 1 + 4 + z) + 1 by omega, dioramaref05_At.l0, if_pos (show (z : Int) ≤ 4 by omega), hw]
    congr 1
    exact decide_eq_decide.2 (by omega)
  rw [e0]
  clear e0 hw
  by_cases hpz : p + z ≤ s.size
  · rw [decide_eq_true hpz, show k + 1 + 4 + z = (k + 1 + 3 + z) + 1 by omega, dioramaref05_At.j1, if_pos rfl, if_pos (Int.natCast_nonneg p), if_pos (show (p : Int) < s.size by omega), bt_B s p hp, wrap64_in (B s p : Int) (by generalize B s p = y at hb; omega)]
    have c : ∀ x : Int, dioramaref05_At.j4 (k + 1 + 1 + z) s (p : Int) (z : Int) x = dioramaref05_At.l1 (k + 1 + z) s (p : Int) (z : Int) x 1 := fun x => by
      rw [show k + 1 + 1 + z = (k + 1 + z) + 1 by omega, dioramaref05_At.j4]
    have key : dioramaref05_At.l1 (k + 1 + z) s (p : Int) (z : Int) ((B s p : Int) - (if z = 2 then 192 else if z = 3 then 224 else if z = 4 then 240 else 0)) 1 = dioramaref05_At.l1 (k + 2) s (p : Int) (z : Int) (numZ s p z) (z : Int) := by
      have b1 := B_lt s (p + 1)
      have b2 := B_lt s (p + 2)
      have hz4 : z = 1 ∨ z = 2 ∨ z = 3 ∨ z = 4 := by omega
      rcases hz4 with rfl | rfl | rfl | rfl
      · unfold numZ; simp
      · have h1 := l1_step (k + 2) s p 2 1 ((B s p : Int) - 192) (by omega) hpz hs (by generalize B s p = y at hb; omega)
        exact h1
      · have h1 := l1_step (k + 3) s p 3 1 ((B s p : Int) - 224) (by omega) hpz hs (by generalize B s p = y at hb; omega)
        have h2 := l1_step (k + 2) s p 3 2 (64 * ((B s p : Int) - 224) + B s (p + 1) - 128) (by omega) hpz hs (by generalize B s p = y at hb; generalize B s (p + 1) = y1 at b1; omega)
        exact h1.trans h2
      · have h1 := l1_step (k + 4) s p 4 1 ((B s p : Int) - 240) (by omega) hpz hs (by generalize B s p = y at hb; omega)
        have h2 := l1_step (k + 3) s p 4 2 (64 * ((B s p : Int) - 240) + B s (p + 1) - 128) (by omega) hpz hs (by generalize B s p = y at hb; generalize B s (p + 1) = y1 at b1; omega)
        have h3 := l1_step (k + 2) s p 4 3 (64 * (64 * ((B s p : Int) - 240) + B s (p + 1) - 128) + B s (p + 2) - 128) (by omega) hpz hs (by generalize B s p = y at hb; generalize B s (p + 1) = y1 at b1; generalize B s (p + 2) = y2 at b2; omega)
        exact h1.trans (h2.trans h3)
    have hall : (if (z : Int) = 2 then (dioramaref05_At.j2 (k + 1 + 3 + z) s (p : Int) (z : Int) (wrap64 ((B s p : Int) - 192))) else (dioramaref05_At.j2 (k + 1 + 3 + z) s (p : Int) (z : Int) (B s p : Int))) = dioramaref05_At.l1 (k + 2) s (p : Int) (z : Int) (numZ s p z) (z : Int) := by
      rw [← key, ← c]
      have f2 : ∀ x : Int, dioramaref05_At.j2 (k + 1 + 3 + z) s (p : Int) (z : Int) x = (if (z : Int) = 3 then (dioramaref05_At.j3 (k + 1 + 2 + z) s (p : Int) (z : Int) (wrap64 (x - 224))) else (dioramaref05_At.j3 (k + 1 + 2 + z) s (p : Int) (z : Int) x)) := fun x => by
        rw [show k + 1 + 3 + z = (k + 1 + 2 + z) + 1 by omega, dioramaref05_At.j2]
      have f3 : ∀ x : Int, dioramaref05_At.j3 (k + 1 + 2 + z) s (p : Int) (z : Int) x = (if (z : Int) = 4 then (dioramaref05_At.j4 (k + 1 + 1 + z) s (p : Int) (z : Int) (wrap64 (x - 240))) else (dioramaref05_At.j4 (k + 1 + 1 + z) s (p : Int) (z : Int) x)) := fun x => by
        rw [show k + 1 + 2 + z = (k + 1 + 1 + z) + 1 by omega, dioramaref05_At.j3]
      have w1 : wrap64 ((B s p : Int) - 192) = (B s p : Int) - 192 := wrap64_in _ (by generalize B s p = y at hb; omega)
      have w2 : wrap64 ((B s p : Int) - 224) = (B s p : Int) - 224 := wrap64_in _ (by generalize B s p = y at hb; omega)
      have w3 : wrap64 ((B s p : Int) - 240) = (B s p : Int) - 240 := wrap64_in _ (by generalize B s p = y at hb; omega)
      have hz4 : z = 1 ∨ z = 2 ∨ z = 3 ∨ z = 4 := by omega
      rcases hz4 with rfl | rfl | rfl | rfl
      · rw [if_neg (by decide), f2, if_neg (by decide), f3, if_neg (by decide), if_neg (by decide), if_neg (by decide), if_neg (by decide), Int.sub_zero]
      · rw [if_pos (by decide), w1, f2, if_neg (by decide), f3, if_neg (by decide), if_pos (by decide)]
      · rw [if_neg (by decide), f2, if_pos (by decide), w2, f3, if_neg (by decide), if_neg (by decide), if_pos (by decide)]
      · rw [if_neg (by decide), f2, if_neg (by decide), f3, if_pos (by decide), w3, if_neg (by decide), if_neg (by decide), if_pos (by decide)]
    rw [hall]
    have hf := fin_at k s p z (numZ s p z) hpz hs
    exact ⟨fun _ h => hf.1 h, fun _ h => hf.2 h, fun h => absurd hpz h⟩
  · rw [decide_eq_false hpz, show k + 1 + 4 + z = (k + 1 + 3 + z) + 1 by omega, dioramaref05_At.j1, if_neg (by decide)]
    exact ⟨fun h => absurd h hpz, fun h => absurd h hpz, fun _ => rfl⟩
end Go.Proofs.YtglfebpgdghlfaaDoor.L
end
section
namespace Go.Proofs.YtglfebpgdghlfaaDoor.L
open Go.RowKit Go.ChangeShapes Go.WideShapes Go.Proofs.YtglfebpgdghlfaaDoorW.PrintWords Go.Proofs.YtglfebpgdghlfaaDoorW.PrintLast Go.Proofs.YtglfebpgdghlfaaDoorW.PrintMore
attribute [local go_sem] max2_int min2_int max_two min_two max_three min_three max_four min_four
open Go.Proofs.YtglfebpgdghlfaaDoor.PUpgradeUps
theorem range4 {α : Type} (f : Nat → α) : (List.range 1).map f = [f 0] ∧ (List.range 2).map f = [f 0, f 1] ∧ (List.range 3).map f = [f 0, f 1, f 2] ∧ (List.range 4).map f = [f 0, f 1, f 2, f 3] := ⟨rfl, rfl, rfl, rfl⟩
def okN (b0 b1 b2 b3 z : Nat) (x : Int) : Prop := 0 ≤ x ∧ x ≤ 1114111 ∧ charN x.toNat = (if z = 1 then [b0] else if z = 2 then [b0, b1] else if z = 3 then [b0, b1, b2] else [b0, b1, b2, b3])
def nuN (b0 b1 b2 b3 z : Nat) : Int :=
  if z = 1 then b0 else if z = 2 then 64 * ((b0 : Int) - 192) + b1 - 128
  else if z = 3 then 64 * (64 * ((b0 : Int) - 224) + b1 - 128) + b2 - 128
  else 64 * (64 * (64 * ((b0 : Int) - 240) + b1 - 128) + b2 - 128) + b3 - 128
theorem okZ_N (s : ByteArray) (p z : Nat) (hz : 1 ≤ z ∧ z ≤ 4) (x : Int) : okZ s p z x ↔ okN (B s p) (B s (p + 1)) (B s (p + 2)) (B s (p + 3)) z x := by
  unfold okZ okN
  have h4 : z = 1 ∨ z = 2 ∨ z = 3 ∨ z = 4 := by omega
  have r := range4 (fun i => B s (p + i))
  rcases h4 with rfl | rfl | rfl | rfl
  · rw [r.1]; rfl
  · rw [r.2.1]; rfl
  · rw [r.2.2.1]; rfl
  · rw [r.2.2.2]; rfl
theorem charN_cases (n : Nat) (hn : n ≤ 1114111) : (charN n = [] ∧ 55296 ≤ n ∧ n ≤ 57343) ∨ (charN n = [n] ∧ n < 128) ∨ (charN n = [192 + n / 64, 128 + n % 64] ∧ 128 ≤ n ∧ n < 2048) ∨ (charN n = [224 + n / 4096, 128 + n / 64 % 64, 128 + n % 64] ∧ 2048 ≤ n ∧ n < 65536 ∧ ¬ (55296 ≤ n ∧ n ≤ 57343)) ∨ (charN n = [240 + n / 262144, 128 + n / 4096 % 64, 128 + n / 64 % 64, 128 + n % 64] ∧ 65536 ≤ n) := by
  unfold charN
  by_cases h0 : 55296 ≤ n ∧ n ≤ 57343
  · rw [if_pos (.inr h0)]; exact .inl ⟨rfl, h0⟩
  · rw [if_neg (by omega)]
    by_cases h1 : n < 128
    · rw [if_pos h1]; exact .inr (.inl ⟨rfl, h1⟩)
    · rw [if_neg h1]
      by_cases h2 : n < 2048
      · rw [if_pos h2]; exact .inr (.inr (.inl ⟨rfl, by omega, h2⟩))
      · rw [if_neg h2]
        by_cases h3 : n < 65536
        · rw [if_pos h3]; exact .inr (.inr (.inr (.inl ⟨rfl, by omega, h3, h0⟩)))
        · rw [if_neg h3]; exact .inr (.inr (.inr (.inr ⟨rfl, by omega⟩)))
theorem ok_dec (r b0 b1 b2 b3 z : Nat) (hz : 1 ≤ z ∧ z ≤ 4) (hr : z ≤ r) (h : okN b0 b1 b2 b3 z (nuN b0 b1 b2 b3 z)) :
    Lib.decodeN r b0 b1 b2 b3 = ((nuN b0 b1 b2 b3 z).toNat, z) ∧ ¬ ((nuN b0 b1 b2 b3 z).toNat = 65533 ∧ z = 1) := by
  obtain ⟨h0, h1, h2⟩ := h
  have hc := charN_cases (nuN b0 b1 b2 b3 z).toNat (by omega)
  have hmx : (nuN b0 b1 b2 b3 z).toNat ≤ 1114111 := by omega
  generalize (nuN b0 b1 b2 b3 z).toNat = n at *
  clear h0 h1
  have h4 : z = 1 ∨ z = 2 ∨ z = 3 ∨ z = 4 := by omega
  rcases h4 with rfl | rfl | rfl | rfl
  · rw [if_pos rfl] at h2
    rcases hc with ⟨hc, ha⟩ | ⟨hc, ha⟩ | ⟨hc, ha⟩ | ⟨hc, ha⟩ | ⟨hc, ha⟩ <;> rw [hc] at h2 <;> simp only [List.cons.injEq, reduceCtorEq, and_true, and_false, false_and] at h2
    subst h2
    unfold Lib.decodeN
    rw [if_pos ha]
    exact ⟨rfl, by omega⟩
  · rw [if_neg (by decide), if_pos rfl] at h2
    rcases hc with ⟨hc, ha⟩ | ⟨hc, ha⟩ | ⟨hc, ha⟩ | ⟨hc, ha⟩ | ⟨hc, ha⟩ <;> rw [hc] at h2 <;> simp only [List.cons.injEq, reduceCtorEq, and_true, and_false, false_and] at h2
    obtain ⟨e0, e1⟩ := h2
    unfold Lib.decodeN
    rw [if_neg (by omega), if_pos (by omega), if_pos (by omega)]
    exact ⟨Prod.ext (by show _ = n; omega) rfl, by omega⟩
  · rw [if_neg (by decide), if_neg (by decide), if_pos rfl] at h2
    rcases hc with ⟨hc, ha⟩ | ⟨hc, ha⟩ | ⟨hc, ha⟩ | ⟨hc, ha⟩ | ⟨hc, ha⟩ <;> rw [hc] at h2 <;> simp only [List.cons.injEq, reduceCtorEq, and_true, and_false, false_and] at h2
    obtain ⟨e0, e1, e2⟩ := h2
    unfold Lib.decodeN
    rw [if_neg (by omega), if_neg (by omega), if_pos (by omega), if_pos (by omega)]
    exact ⟨Prod.ext (by show _ = n; omega) rfl, by omega⟩
  · rw [if_neg (by decide), if_neg (by decide), if_neg (by decide)] at h2
    rcases hc with ⟨hc, ha⟩ | ⟨hc, ha⟩ | ⟨hc, ha⟩ | ⟨hc, ha⟩ | ⟨hc, ha⟩ <;> rw [hc] at h2 <;> simp only [List.cons.injEq, reduceCtorEq, and_true, and_false, false_and] at h2
    obtain ⟨e0, e1, e2, e3⟩ := h2
    unfold Lib.decodeN
    rw [if_neg (by omega), if_neg (by omega), if_neg (by omega), if_pos (by omega), if_pos (by omega)]
    exact ⟨Prod.ext (by show _ = n; omega) rfl, by omega⟩
theorem dec_ok (r b0 b1 b2 b3 : Nat) (k0 : b0 < 256) (k1 : b1 < 256) (k2 : b2 < 256) (k3 : b3 < 256) :
    Lib.decodeN r b0 b1 b2 b3 = (65533, 1) ∨ ∃ z, 1 ≤ z ∧ z ≤ 4 ∧ (z = 1 ∨ z ≤ r) ∧ okN b0 b1 b2 b3 z (nuN b0 b1 b2 b3 z) := by
  rcases Lib.decodeN_shape r b0 b1 b2 b3 with ⟨c, e⟩ | ⟨c1, c2, c3, cv, e⟩ | ⟨c1, c2, c3, c4, cv, cs, e⟩ | ⟨c1, c2, c3, c4, c5, cv, cw, e⟩ | e
  · refine .inr ⟨1, by omega, by omega, .inl rfl, ?_⟩
    have hn : nuN b0 b1 b2 b3 1 = ((b0 : Nat) : Int) := rfl
    rw [hn]
    refine ⟨by omega, by omega, ?_⟩
    rw [Int.toNat_natCast, if_pos rfl]
    unfold charN
    rw [if_neg (by omega), if_pos c]
  · refine .inr ⟨2, by omega, by omega, .inr (by omega), ?_⟩
    have hn : nuN b0 b1 b2 b3 2 = ((b0 % 32 * 64 + b1 % 64 : Nat) : Int) := by
      show 64 * ((b0 : Int) - 192) + b1 - 128 = _
      omega
    rw [hn]
    clear hn e
    refine ⟨by omega, by omega, ?_⟩
    rw [Int.toNat_natCast, if_neg (by decide), if_pos rfl]
    unfold charN
    rw [if_neg (by omega), if_neg (by omega), if_pos (by omega)]
    rw [show 192 + (b0 % 32 * 64 + b1 % 64) / 64 = b0 by omega, show 128 + (b0 % 32 * 64 + b1 % 64) % 64 = b1 by omega]
  · refine .inr ⟨3, by omega, by omega, .inr (by omega), ?_⟩
    have hn : nuN b0 b1 b2 b3 3 = ((b0 % 16 * 4096 + b1 % 64 * 64 + b2 % 64 : Nat) : Int) := by
      show 64 * (64 * ((b0 : Int) - 224) + b1 - 128) + b2 - 128 = _
      omega
    rw [hn]
    clear hn e
    refine ⟨by omega, by omega, ?_⟩
    rw [Int.toNat_natCast, if_neg (by decide), if_neg (by decide), if_pos rfl]
    unfold charN
    rw [if_neg (by omega), if_neg (by omega), if_neg (by omega), if_pos (by omega)]
    rw [show 224 + (b0 % 16 * 4096 + b1 % 64 * 64 + b2 % 64) / 4096 = b0 by omega, show 128 + (b0 % 16 * 4096 + b1 % 64 * 64 + b2 % 64) / 64 % 64 = b1 by omega, show 128 + (b0 % 16 * 4096 + b1 % 64 * 64 + b2 % 64) % 64 = b2 by omega]
  · refine .inr ⟨4, by omega, by omega, .inr (by omega), ?_⟩
    have hn : nuN b0 b1 b2 b3 4 = ((b0 % 8 * 262144 + b1 % 64 * 4096 + b2 % 64 * 64 + b3 % 64 : Nat) : Int) := by
      show 64 * (64 * (64 * ((b0 : Int) - 240) + b1 - 128) + b2 - 128) + b3 - 128 = _
      omega
    rw [hn]
    clear hn e
    refine ⟨by omega, by omega, ?_⟩
    rw [Int.toNat_natCast, if_neg (by decide), if_neg (by decide), if_neg (by decide)]
    unfold charN
    rw [if_neg (by omega), if_neg (by omega), if_neg (by omega), if_neg (by omega)]
    rw [show 240 + (b0 % 8 * 262144 + b1 % 64 * 4096 + b2 % 64 * 64 + b3 % 64) / 262144 = b0 by omega, show 128 + (b0 % 8 * 262144 + b1 % 64 * 4096 + b2 % 64 * 64 + b3 % 64) / 4096 % 64 = b1 by omega, show 128 + (b0 % 8 * 262144 + b1 % 64 * 4096 + b2 % 64 * 64 + b3 % 64) / 64 % 64 = b2 by omega, show 128 + (b0 % 8 * 262144 + b1 % 64 * 4096 + b2 % 64 * 64 + b3 % 64) % 64 = b3 by omega]
  · exact .inl e
theorem decode_B (s : ByteArray) (p : Nat) : Utf8.decode s p = Lib.decodeN (s.size - p) (B s p) (B s (p + 1)) (B s (p + 2)) (B s (p + 3)) := Lib.decode_at s p
theorem nuN_B (s : ByteArray) (p z : Nat) : numZ s p z = nuN (B s p) (B s (p + 1)) (B s (p + 2)) (B s (p + 3)) z := rfl
theorem found (s : ByteArray) (p z : Nat) (hz : 1 ≤ z ∧ z ≤ 4) (hp : p + z ≤ s.size) (h : okZ s p z (numZ s p z)) : ¬ Utf8.decode s p = (65533, 1) ∧ (z : Int) = ((Utf8.decode s p).2 : Int) := by
  have h1 := ok_dec (s.size - p) _ _ _ _ z hz (by omega) (by rw [← nuN_B]; exact (okZ_N s p z hz _).1 h)
  rw [decode_B, h1.1]
  exact ⟨fun e => h1.2 ⟨(Prod.mk.inj e).1, (Prod.mk.inj e).2⟩, rfl⟩
theorem none_bad (s : ByteArray) (p : Nat) (hp : p < s.size) (h : ∀ z, 1 ≤ z → z ≤ 4 → ¬ (p + z ≤ s.size ∧ okZ s p z (numZ s p z))) : Utf8.decode s p = (65533, 1) := by
  rw [decode_B]
  refine (dec_ok (s.size - p) _ _ _ _ (B_lt _ _) (B_lt _ _) (B_lt _ _) (B_lt _ _)).resolve_right ?_
  rintro ⟨z, h1, h4, hr, hok⟩
  exact h z h1 h4 ⟨by omega, by rw [okZ_N s p z ⟨h1, h4⟩, nuN_B]; exact hok⟩
def AtPost (s : ByteArray) (p : Nat) (r : Option (Int × Int)) : Prop := ∃ c n : Int, r = some (c, n) ∧ (Utf8.decode s p = (65533, 1) → n = 0) ∧ (¬ Utf8.decode s p = (65533, 1) → n = ((Utf8.decode s p).2 : Int))
theorem at_step (s : ByteArray) (p z k : Nat) (hs : s.size ≤ 1000000) (hp : p < s.size) (hz : 1 ≤ z ∧ z ≤ 4) (hprev : ∀ y, 1 ≤ y → y < z → ¬ (p + y ≤ s.size ∧ okZ s p y (numZ s p y)))
    (hnext : (∀ y, 1 ≤ y → y < z + 1 → ¬ (p + y ≤ s.size ∧ okZ s p y (numZ s p y))) → AtPost s p (dioramaref05_At.l0 (k + 1) s (p : Int) ((z + 1 : Nat) : Int))) : AtPost s p (dioramaref05_At.l0 (k + 1 + 5 + z) s (p : Int) (z : Int)) := by
  have hst := l0_step k s p z hz hs hp
  by_cases h1 : p + z ≤ s.size
  · by_cases h2 : okZ s p z (numZ s p z)
    · rw [hst.1 h1 h2]
      have hf := found s p z hz h1 h2
      exact ⟨_, _, rfl, fun h => absurd h hf.1, fun _ => hf.2⟩
    · rw [hst.2.1 h1 h2]
      refine hnext (fun y hy1 hy2 => ?_)
      by_cases he : y = z
      · subst he; exact fun h => h2 h.2
      · exact hprev y hy1 (by omega)
  · rw [hst.2.2 h1]
    have hb := none_bad s p hp (fun y hy1 hy2 => by
      by_cases he : y < z
      · exact hprev y hy1 he
      · exact fun h => h1 (by have := h.1; omega))
    exact ⟨_, _, rfl, fun _ => rfl, fun h => absurd hb h⟩
theorem at_f (s : ByteArray) (p K : Nat) (hs : s.size ≤ 1000000) (hp : p < s.size) : AtPost s p (dioramaref05_At.f (K + 32) s (p : Int)) := by
  unfold dioramaref05_At.f
  refine at_step s p 1 (K + 25) hs hp (by omega) (fun y h1 h2 => by omega) (fun h1 => ?_)
  refine at_step s p 2 (K + 18) hs hp (by omega) h1 (fun h2 => ?_)
  refine at_step s p 3 (K + 10) hs hp (by omega) h2 (fun h3 => ?_)
  refine at_step s p 4 (K + 1) hs hp (by omega) h3 (fun h4 => ?_)
  rw [dioramaref05_At.l0, if_neg (by decide), dioramaref05_At.j1, if_neg (by decide)]
  have hb := none_bad s p hp (fun y hy1 hy2 => h4 y hy1 (by omega))
  exact ⟨_, _, rfl, fun _ => rfl, fun h => absurd hb h⟩
theorem read_l0 (s : ByteArray) (hs : s.size ≤ 1000000) : ∀ (m p K : Nat) (acc : List Int), s.size ≤ p + m → p ≤ s.size → acc.length ≤ p →
    ∃ l, ∃ q : Nat, dioramaref05_Read.l0 (K + 33 + m) s acc (p : Int) = some (l, (q : Int)) ∧ (q = s.size ↔ utfFrom s m p = -1)
  | 0, p, K, acc, h1, h2, h3 => by
    rw [show K + 33 + 0 = (K + 32) + 1 by omega, dioramaref05_Read.l0, if_neg (by omega)]
    exact ⟨_, p, rfl, fun _ => rfl, fun _ => by omega⟩
  | m + 1, p, K, acc, h1, h2, h3 => by
    rw [show K + 33 + (m + 1) = (K + 33 + m) + 1 by omega, dioramaref05_Read.l0]
    by_cases hp : p < s.size
    · rw [if_pos (show (p : Int) < s.size by omega)]
      obtain ⟨c, n, he, hb, hg⟩ := at_f s p (K + 1 + m) hs hp
      rw [show K + 33 + m = K + 1 + m + 32 by omega, he, Option.bind_some]
      unfold utfFrom
      rw [if_pos hp]
      by_cases hd : Utf8.decode s p = (65533, 1)
      · rw [if_pos (hb hd), if_pos hd]
        exact ⟨_, p, rfl, fun h => by omega, fun h => by omega⟩
      · have hn := hg hd
        have hbd := decode_bound s p
        have hbd3 := hbd.2.2 hp
        rw [if_neg (by show ¬ n = 0; omega), if_neg hd]
        dsimp only
        rw [if_pos (by omega), hn, wrap64_in ((p : Int) + _) (by omega), show K + 1 + m + 32 = K + 33 + m by omega]
        exact read_l0 s hs m (p + (Utf8.decode s p).2) K _ (by omega) (by omega) (by rw [List.length_append]; simp; omega)
    · rw [if_neg (show ¬ (p : Int) < s.size by omega), utfFrom_end hp]
      exact ⟨_, p, rfl, fun _ => rfl, fun _ => by omega⟩
theorem utf_ok_iff (s : ByteArray) : utfOk s = true ↔ utfFrom s s.size 0 ≠ -1 → False := by
  unfold utfOk utfFirst
  rw [decide_eq_true_iff]
  refine ⟨fun h hn => ?_, fun h => ?_⟩
  · have hge : ∀ (f p : Nat), utfFrom s f p = -1 ∨ 0 ≤ utfFrom s f p := fun f => by
      induction f with
      | zero => intro p; exact .inl rfl
      | succ f ih =>
        intro p
        unfold utfFrom
        split
        · split
          · exact .inr (by omega)
          · exact ih _
        · exact .inl rfl
    rcases hge s.size 0 with h0 | h0
    · exact hn h0
    · omega
  · have : utfFrom s s.size 0 = -1 := Classical.byContradiction h
    rw [this]; decide
theorem right_f (s : ByteArray) (hs : s.size ≤ 1000000) (k : Nat) (hk : s.size + 33 ≤ k) : dioramaref05_Right.f k s = some (utfOk s) := by
  obtain ⟨K, rfl⟩ : ∃ K, k = K + 33 + s.size := ⟨k - 33 - s.size, by omega⟩
  obtain ⟨l, q, he, hq⟩ := read_l0 s hs s.size 0 K [] (by omega) (by omega) (by simp)
  unfold dioramaref05_Right.f dioramaref05_Read.f
  rw [show ((0 : Int)) = ((0 : Nat) : Int) from rfl, he, Option.bind_some]
  congr 1
  show ((q : Int) == (s.size : Int)) = utfOk s
  have h1 := utf_ok_iff s
  by_cases h : utfFrom s s.size 0 = -1
  · have e1 := hq.2 h
    have e2 : utfOk s = true := h1.2 (fun hn => hn h)
    rw [e1, e2]; simp
  · have e1 : ¬ q = s.size := fun e => h (hq.1 e)
    have e2 : utfOk s = false := Bool.eq_false_iff.2 (fun e => h1.1 e h)
    rw [e2]
    exact beq_eq_false_iff_ne.2 (by omega)
end Go.Proofs.YtglfebpgdghlfaaDoor.L
end
section
namespace Go.Proofs.YtglfebpgdghlfaaDoor.L
open Go.RowKit Go.ChangeShapes Go.WideShapes Go.Proofs.YtglfebpgdghlfaaDoorW.PrintWords Go.Proofs.YtglfebpgdghlfaaDoorW.PrintLast Go.Proofs.YtglfebpgdghlfaaDoorW.PrintMore
attribute [local go_sem] max2_int min2_int max_two min_two max_three min_three max_four min_four
open Go.Proofs.YtglfebpgdghlfaaDoor.PUpgradeUps
theorem in_f (c n : Int) : dioramaref07_In.f c n = some (inC c n) := by
  unfold dioramaref07_In.f
  by_cases c1 : c = 1
  · subst c1; rfl
  · rw [if_neg c1]
    by_cases c2 : c = 2
    · subst c2
      rw [if_pos rfl, inC_2]
      by_cases h0 : n ≥ 0
      · rw [if_pos h0]
        by_cases h1 : n ≤ 140737488355328
        · rw [if_pos h1, decide_eq_true (by omega), decide_eq_true h1]; rfl
        · rw [if_neg h1, if_neg (by omega), decide_eq_false h1, Bool.and_false]
      · rw [if_neg h0, if_pos (by omega), decide_eq_true (show n ≤ 140737488355328 by omega), Bool.and_true]
    · rw [if_neg c2]
      by_cases c3 : c = 3
      · subst c3
        rw [if_pos rfl, inC_3]
        by_cases h0 : n ≥ 0
        · rw [if_pos h0, decide_eq_true h0]; rfl
        · rw [if_neg h0, decide_eq_false h0]; rfl
      · rw [if_neg c3]
        by_cases c4 : c = 4
        · subst c4
          rw [if_pos rfl, inC_4]
          by_cases h0 : n ≥ 0
          · rw [if_pos h0, decide_eq_true h0, Bool.true_and]; congr 1; exact decide_eq_decide.2 (by omega)
          · rw [if_neg h0, decide_eq_false h0]; rfl
        · rw [if_neg c4]
          by_cases c5 : c = 5
          · subst c5
            rw [if_pos rfl, inC_5]
            by_cases h0 : n = 0
            · subst h0; rw [if_pos (show wrap64 (0 * 0) = 0 from wrap64_in _ (by decide)), if_pos (by decide)]; rfl
            · by_cases h1 : n = 1
              · subst h1; rw [if_pos (show wrap64 (1 * 1) = 1 from wrap64_in _ (by decide)), if_pos (by decide)]; rfl
              · have hr : ((n == 0) || (n == 1)) = false := by simp [h0, h1]
                rw [hr]
                split
                · split
                  · rw [decide_eq_false (by omega)]
                  · rfl
                · rfl
          · rw [if_neg c5, inC_no c1 c2 c3 c4 c5]
def tailErr (n : Node) (s : Spec) : Int := if (n.kids.length : Int) < s.least ∨ 0 ≤ s.most ∧ s.most < n.kids.length then 12 else 0
theorem check_l1 (n : Node) (s : Spec) (hs : TextsSmall n) (hl : n.texts.length ≤ 1000000) : ∀ (m i K : Nat), n.texts.length ≤ i + m → i ≤ n.texts.length → (∀ j, j < i → utfOk (str n.texts j) = true) →
    dioramaref08_Check.l1 (K + 1000034 + m) (i : Int) n.kind n.ints n.texts n.kids s.ints s.texts s.least s.most = some (if textsOk n.texts = false then 11 else tailErr n s)
  | 0, i, K, h1, h2, h3 => by
    have hi : i = n.texts.length := by omega
    have ht : textsOk n.texts = true := decide_eq_true (fun j hj => h3 j (by omega))
    rw [show K + 1000034 + 0 = (K + 1000033) + 1 by omega, dioramaref08_Check.l1, if_neg (by omega), ht, if_neg (show ¬ (true = false) by decide)]
    unfold tailErr
    by_cases h : (n.kids.length : Int) < s.least
    · rw [if_pos h, if_pos (.inl h)]
    · rw [if_neg h]
      by_cases h' : s.most ≥ 0
      · rw [if_pos h']
        by_cases h'' : (n.kids.length : Int) > s.most
        · rw [if_pos h'', if_pos (.inr ⟨h', h''⟩)]
        · rw [if_neg h'', if_neg (by omega)]
      · rw [if_neg h', if_neg (by omega)]
  | m + 1, i, K, h1, h2, h3 => by
    by_cases hi : i < n.texts.length
    · rw [show K + 1000034 + (m + 1) = (K + 1000034 + m) + 1 by omega, dioramaref08_Check.l1, if_pos (by omega), if_pos (Int.natCast_nonneg i)]
      have hrd : rdOf ByteArray.empty n.texts (i : Int) = str n.texts i := by unfold rdOf str; rw [Int.toNat_natCast]
      rw [hrd, right_f (str n.texts i) (hs i hi) _ (by have := hs i hi; omega), Option.bind_some]
      by_cases hu : utfOk (str n.texts i) = true
      · rw [if_pos hu, wrap64_in ((i : Int) + 1) (by omega), show (i : Int) + 1 = ((i + 1 : Nat) : Int) from rfl]
        exact check_l1 n s hs hl m (i + 1) K (by omega) (by omega) (ext_lt (P := fun j => utfOk (str n.texts j) = true) h3 hu)
      · rw [if_neg hu, textsOk_bad hi (Bool.eq_false_iff.2 hu), if_pos rfl]
    · have := check_l1 n s hs hl m i (K + 1) (by omega) h2 h3
      rw [show K + 1 + 1000034 + m = K + 1000034 + (m + 1) by omega] at this
      exact this
theorem check_l0 (n : Node) (s : Spec) (hs : TextsSmall n) (hl : n.texts.length ≤ 1000000) (hn : n.ints.length ≤ 1000000) (he : n.ints.length = s.ints.length) : ∀ (m i K : Nat), n.ints.length ≤ i + m → i ≤ n.ints.length → (∀ j, j < i → inC (rd s.ints j) (rd n.ints j) = true) →
    dioramaref08_Check.l0 (K + 2000035 + m) (i : Int) n.kind n.ints n.texts n.kids s.ints s.texts s.least s.most = some (nodeErr n s)
  | 0, i, K, h1, h2, h3 => by
    have hi : i = n.ints.length := by omega
    have ht : numsOk n.ints s.ints = true := decide_eq_true ⟨he, fun j hj => h3 j (by omega)⟩
    rw [show K + 2000035 + 0 = (K + 2000034) + 1 by omega, dioramaref08_Check.l0, if_neg (by omega)]
    unfold nodeErr
    rw [ht, if_neg (show ¬ (true = false) by decide)]
    by_cases h : (n.texts.length : Int) = s.texts
    · rw [if_pos h]
      have h1 := check_l1 n s hs hl n.texts.length 0 (K + 1000000 - n.texts.length) (by omega) (by omega) (fun j hj => by omega)
      rw [show K + 1000000 - n.texts.length + 1000034 + n.texts.length = K + 2000034 by omega] at h1
      refine h1.trans ?_
      congr 1
      by_cases hk : textsOk n.texts = false
      · rw [if_pos hk, if_pos (.inr hk)]
      · rw [if_neg hk, if_neg (fun hh => hh.elim (fun h' => h' h) hk)]; rfl
    · rw [if_neg h, if_pos (.inl h)]
  | m + 1, i, K, h1, h2, h3 => by
    by_cases hi : i < n.ints.length
    · rw [show K + 2000035 + (m + 1) = (K + 2000035 + m) + 1 by omega, dioramaref08_Check.l0, if_pos (by omega), if_pos (Int.natCast_nonneg i), if_pos (by omega), in_f, Option.bind_some]
      by_cases hu : inC (rd s.ints i) (rd n.ints i) = true
      · rw [if_pos hu, wrap64_in ((i : Int) + 1) (by omega), show (i : Int) + 1 = ((i + 1 : Nat) : Int) from rfl]
        exact check_l0 n s hs hl hn he m (i + 1) K (by omega) (by omega) (ext_lt (P := fun j => inC (rd s.ints j) (rd n.ints j) = true) h3 hu)
      · rw [if_neg hu]
        unfold nodeErr
        rw [if_pos (numsOk_bad hi (Bool.eq_false_iff.2 hu))]
    · have := check_l0 n s hs hl hn he m i (K + 1) (by omega) h2 h3
      rw [show K + 1 + 2000035 + m = K + 2000035 + (m + 1) by omega] at this
      exact this
theorem check_f (n : Node) (s : Spec) (hs : TextsSmall n) (hm : Small n) : dioramaref08_Check.f 3000035 n.kind n.ints n.texts n.kids s.ints s.texts s.least s.most = some (nodeErr n s) := by
  unfold dioramaref08_Check.f
  by_cases h : n.ints.length = s.ints.length
  · rw [if_pos (by omega)]
    have h1 := check_l0 n s hs hm.2.1 hm.1 h n.ints.length 0 (1000000 - n.ints.length) (by omega) (by omega) (fun j hj => by omega)
    rw [show 1000000 - n.ints.length + 2000035 + n.ints.length = 3000035 by have := hm.1; omega] at h1
    exact h1
  · rw [if_neg (by omega)]
    unfold nodeErr
    rw [if_pos (numsOk_len h)]
theorem rcheck_any (n : Node) (A1 : Option Addr) (c1 : Nat) (A2 : Option Addr) (c2 : Nat) (A3 : Option Addr) (c3 : Nat) (s : Spec) (A4 : Option Addr) (c4 : Nat) (w : World) (h : NodeC w n A1 c1 A2 c2 A3 c3) (h4 : SpecC w s A4 c4) (hs : TextsSmall n) (hm : Small n) :
    Calls Tryd.prog 41 #[.agg #[.int .i64 n.kind, .slice A1 n.ints.length c1, .slice A2 n.texts.length c2, .slice A3 n.kids.length c3], .agg #[.slice A4 s.ints.length c4, .int .i64 s.texts, .int .i64 s.least, .int .i64 s.most]] w
      fun e w' => e = .returned (.int .i64 (nodeErr n s)) ∧ Below w.heap.size w w' :=
  dioramaref08_Check.calls 3000035 n.kind A1 c1 n.ints A2 c2 n.texts A3 c3 n.kids A4 c4 s.ints s.texts s.least s.most _ w h.i h.l1 h.t h.l2 h.k h.l3 h4.i h4.l (check_f n s hs hm)
end Go.Proofs.YtglfebpgdghlfaaDoor.L
end
section
namespace Go.Proofs.YtglfebpgdghlfaaDoor.L
open Go.RowKit Go.ChangeShapes Go.WideShapes Go.Proofs.YtglfebpgdghlfaaDoorW.PrintWords Go.Proofs.YtglfebpgdghlfaaDoorW.PrintLast Go.Proofs.YtglfebpgdghlfaaDoorW.PrintMore
attribute [local go_sem] max2_int min2_int max_two min_two max_three min_three max_four min_four
set_option maxRecDepth 100000 in
set_option maxHeartbeats 1000000 in
theorem empty_any (n : Node) (A1 : Option Addr) (c1 : Nat) (A2 : Option Addr) (c2 : Nat) (A3 : Option Addr) (c3 : Nat) (w : World) :
    Calls Tryd.prog 111 #[.agg #[.int .i64 n.kind, .slice A1 n.ints.length c1, .slice A2 n.texts.length c2, .slice A3 n.kids.length c3]] w fun e w' => e = .returned (.bool (emptyN n)) ∧ Below w.heap.size w w' := by
  have HB := Aside0.mk (below_alloc (Below.refl w.heap.size w) (.cells #[.int .i64 n.kind, .slice A1 n.ints.length c1, .slice A2 n.texts.length c2, .slice A3 n.kids.length c3] 26))
  have hu := Tryd.underlying26
  by_cases h0 : n.kind = 0
  · by_cases h1 : n.ints.length = 0
    · by_cases h2 : n.texts.length = 0
      · by_cases h3 : n.kids.length = 0
        · have HE := Aside0.mk (show emptyN n = true from decide_eq_true ⟨h0, h1, h2, h3⟩)
          rw [h0, h1, h2, h3] at HB ⊢
          clear h0 h1 h2 h3
          go_enter Tryd.func111, Tryd.ntmps111
          go_wp2
          go_ret
          exact ⟨ret_bool HE.out.symm, HB.out⟩
        · have HE := Aside0.mk (show emptyN n = false from decide_eq_false (fun h => h3 h.2.2.2))
          have d3 : ((n.kids.length : Int) == 0) = false := beq_eq_false_iff_ne.2 (by omega)
          rw [h0, h1, h2] at HB ⊢
          clear h0 h1 h2 h3
          go_enter Tryd.func111, Tryd.ntmps111
          go_wp2
          go_ret
          exact ⟨ret_bool HE.out.symm, HB.out⟩
      · have HE := Aside0.mk (show emptyN n = false from decide_eq_false (fun h => h2 h.2.2.1))
        have d3 : ((n.texts.length : Int) == 0) = false := beq_eq_false_iff_ne.2 (by omega)
        rw [h0, h1] at HB ⊢
        clear h0 h1 h2
        go_enter Tryd.func111, Tryd.ntmps111
        go_wp2
        go_ret
        exact ⟨ret_bool HE.out.symm, HB.out⟩
    · have HE := Aside0.mk (show emptyN n = false from decide_eq_false (fun h => h1 h.2.1))
      have d3 : ((n.ints.length : Int) == 0) = false := beq_eq_false_iff_ne.2 (by omega)
      rw [h0] at HB ⊢
      clear h0 h1
      go_enter Tryd.func111, Tryd.ntmps111
      go_wp2
      go_ret
      exact ⟨ret_bool HE.out.symm, HB.out⟩
  · have HE := Aside0.mk (show emptyN n = false from decide_eq_false (fun h => h0 h.1))
    have d3 : (n.kind == 0) = false := by simpa using h0
    clear h0
    go_enter Tryd.func111, Tryd.ntmps111
    go_wp2
    go_ret
    exact ⟨ret_bool HE.out.symm, HB.out⟩
structure BRel (a : Scene) (A : Option Addr) (c b mb cnt : Nat) (f : Lit → Option Value) (v : Value) (out : List Node) (w W : World) : Prop where
  below : Below w.heap.size w W
  blk : W.heap[b]? = some (.cells #[.slice A a.nodes.length c, .int .i64 a.root, .map (some mb), v] 89 (0, 0))
  map : MapF Tryd.prog 3 W mb cnt f
  rows : kNode.R 26 W w.heap.size (fun _ => True) v out
  bge : w.heap.size ≤ b
  mge : w.heap.size ≤ mb
section
variable {a : Scene} {A : Option Addr} {c b mb cnt : Nat} {f : Lit → Option Value} {v : Value} {out : List Node} {w W W1 : World}
theorem BRel.later (h : BRel a A c b mb cnt f v out w W) (hb : Below W.heap.size W W1) : BRel a A c b mb cnt f v out w W1 :=
  ⟨below_step h.below hb, (hb.block _ (blk_lt h.blk)).trans h.blk, h.map.below hb, Kd.R_below h.rows hb, h.bge, h.mge⟩
theorem BRel.drew (h : BRel a A c b mb cnt f v out w W) : BRel a A c b mb cnt f v out w W.drew := h.later (pw_below_drewN (Below.refl _ _) 1)
theorem BRel.grow {cnt' : Nat} {f' : Lit → Option Value} (h : BRel a A c b mb cnt f v out w W) (hg : W.grownBy W1 (some mb)) (hM : MapF Tryd.prog 3 W1 mb cnt' f') : BRel a A c b mb cnt' f' v out w W1 :=
  ⟨h.below.grown hg h.below.size (fun q hq => by injection hq with hq; have := h.mge; omega), blk_grown h.blk hg (fun e => by injection e with e; exact h.map.not_cells (by rw [← e]; exact h.blk)), hM, R_past_map h.rows h.map hg, h.bge, h.mge⟩
end
def CapB (B N : Nat) (w : World) : Prop := ∃ b A c, w.cell? ⟨B, 0, none⟩ = some (.pointer (some ⟨b, 0, none⟩)) ∧ w.cell? ⟨b, 3, none⟩ = some (.slice A N c) ∧ N ≤ 9223372036854775807
theorem CapB.below {B N : Nat} {w w' : World} (h : CapB B N w) (hb : Below w.heap.size w w') : CapB B N w' := by
  obtain ⟨b, A, c, h1, h2, hN⟩ := h
  exact ⟨b, A, c, pw_cell_below hb h1, pw_cell_below hb h2, hN⟩
set_option maxRecDepth 100000 in
set_option maxHeartbeats 1000000 in
theorem noAhead_any (k : Int) (B b : Nat) (A : Option Addr) (N c : Nat) (w : World) (h : w.cell? ⟨B, 0, none⟩ = some (.pointer (some ⟨b, 0, none⟩))) (h2 : w.cell? ⟨b, 3, none⟩ = some (.slice A N c)) (hN : N ≤ 9223372036854775807) :
    Calls Tryd.prog 94 #[.int .i64 k, .pointer (some ⟨B, 0, none⟩)] w fun e w' => e = .returned (.bool (noPlace N k)) ∧ Drawn0 w w' := by
  have hub := Tryd.underlying89
  by_cases h1 : k < 0
  · have E : Aside0 (noPlace N k = true) := ⟨by unfold noPlace; rw [decide_eq_true h1]; rfl⟩
    have d1 : decide (k < 0) = true := decide_eq_true h1
    clear h1
    go_enter Tryd.func94, Tryd.ntmps94
    go_wp2
    go_ret
    exact ⟨ret_bool E.out.symm, by repeat (first | exact Drawn0.refl _ | apply Drawn0.step)⟩
  · have d1 : decide (k < 0) = false := decide_eq_false h1
    by_cases h3 : (N : Int) ≤ k
    · have E : Aside0 (noPlace N k = true) := ⟨by unfold noPlace; rw [decide_eq_true h3]; simp⟩
      have d2 : decide ((N : Int) ≤ k) = true := decide_eq_true h3
      clear h1 h3
      go_enter Tryd.func94, Tryd.ntmps94
      go_wp2
      go_ret
      exact ⟨ret_bool E.out.symm, by repeat (first | exact Drawn0.refl _ | apply Drawn0.step)⟩
    · have E : Aside0 (noPlace N k = false) := ⟨by unfold noPlace; rw [decide_eq_false h1, decide_eq_false h3]; rfl⟩
      have d2 : decide ((N : Int) ≤ k) = false := decide_eq_false h3
      clear h1 h3
      go_enter Tryd.func94, Tryd.ntmps94
      go_wp2
      go_ret
      exact ⟨ret_bool E.out.symm, by repeat (first | exact Drawn0.refl _ | apply Drawn0.step)⟩
set_option maxRecDepth 100000 in
set_option maxHeartbeats 1000000 in
theorem aheadIdx_any (A : Option Addr) (c : Nat) (l : List Int) (B N : Nat) (w : World) (hl : (Kd.int .i64).C w A l.length l) (h : CapB B N w) :
    Calls Tryd.prog 115 #[.slice A l.length c, .func (.func 94) #[] #[.pointer (some ⟨B, 0, none⟩)]] w (KidIdx N l w) := by
  have HR := Aside0.mk hl
  have HC := Aside0.mk h
  have HB := Aside0.mk (Below.refl w.heap.size w)
  have b0 := hl.2.1
  clear hl h
  go_enter Tryd.func115, Tryd.ntmps115
  go_wp2
  go_loopw [5, 8] (fun _ v8 W => ∃ k : Nat, k ≤ l.length ∧ v8 = .int .i64 k ∧ Aside0 (∀ j, j < k → noPlace N (rd l j) = false) ∧ Aside0 (Below w.heap.size w W)) (fun _ v8 _ => l.length - (intOf v8).toNat)
  case atStart => exact ⟨0, by omega, rfl, ⟨fun j hj => by omega⟩, HB⟩
  case round =>
    obtain ⟨k, hk, rfl, HP, HB1⟩ := hrel
    by_cases hlt : k < l.length
    · obtain ⟨ad0, rfl, hx0⟩ := at_nat (Kd.C_below HR.out HB1.out) k (by omega)
      obtain ⟨bb, AA, cc, h3⟩ := HC.out.below HB1.out
      have h3 := Aside0.mk h3
      go_wp2_with fail
      refine (noAhead_any (rd l k) B _ _ N _ _ h3.out.1 h3.out.2.1 h3.out.2.2).mono ?_
      rintro e w' ⟨rfl, hB⟩
      have HB2 := Aside0.mk (below_step HB1.out hB.below)
      clear hB
      by_cases hi : noPlace N (rd l k) = true
      · have HI := Aside0.mk hi
        clear hi
        rw [HI.out]
        go_wp2
        go_ret
        exact ⟨k, rfl, by rw [kidsBad_at hlt HI.out]; exact decide_eq_true (by omega), HB2.out⟩
      · have HI := Aside0.mk (Bool.eq_false_iff.2 hi)
        clear hi
        rw [HI.out]
        go_wp2
        go_roundw
        case rel => exact ⟨k + 1, by omega, by go_num, ⟨ext_lt HP.out HI.out⟩, HB2⟩
        case measure => simp [intOf]; omega
    · have HE := Aside0.mk (kidsBad_no (by omega) HP.out)
      go_wp2
      go_ret
      exact ⟨-1, rfl, by rw [HE.out]; rfl, HB1.out⟩
set_option maxRecDepth 100000 in
set_option maxHeartbeats 1000000 in
theorem aheadHas_any (A : Option Addr) (c : Nat) (l : List Int) (B N : Nat) (w : World) (hl : (Kd.int .i64).C w A l.length l) (h : CapB B N w) :
    Calls Tryd.prog 93 #[.slice A l.length c, .func (.func 94) #[] #[.pointer (some ⟨B, 0, none⟩)]] w fun e w' => e = .returned (.bool (kidsBad N l)) ∧ Below w.heap.size w w' := by
  have HR := Aside0.mk hl
  have HC := Aside0.mk h
  clear hl h
  go_enter Tryd.func93, Tryd.ntmps93
  go_wp2_with fail
  refine (aheadIdx_any A c l B N _ HR.out HC.out).mono ?_
  rintro e w' ⟨i, rfl, hi, hB⟩
  have HI := Aside0.mk hi
  have HB := Aside0.mk hB
  clear hi hB
  go_wp2
  go_ret
  exact ⟨ret_bool HI.out, HB.out⟩
end Go.Proofs.YtglfebpgdghlfaaDoor.L
end
section
namespace Go.Proofs.YtglfebpgdghlfaaDoor.L
open Go.RowKit Go.ChangeShapes Go.WideShapes Go.Proofs.YtglfebpgdghlfaaDoorW.PrintWords Go.Proofs.YtglfebpgdghlfaaDoorW.PrintLast Go.Proofs.YtglfebpgdghlfaaDoorW.PrintMore
attribute [local go_sem] max2_int min2_int max_two min_two max_three min_three max_four min_four
theorem zeroI (w : World) : (zeroValue 3).run Tryd.prog w = .ok (.int .i64 0) w := by kernel_rfl
abbrev zeroN : Array Value := #[.int .i64 0, .slice none 0 0, .slice none 0 0, .slice none 0 0]
theorem OutRel.landed {P : Program} {k : TypeId} {n mb : Nat} {f : Lit → Option Value} {m : Node} {v1 v2 v3 : Value} {w : World} {rb g : Nat} {W W1 : World} (h : OutRel m v1 v2 v3 w rb g W) (hm : MapF P k W mb n f) (hlt : mb < w.heap.size) (hg : W.grownBy W1 (some mb)) :
    W1.heap[g]? = some (.cells #[.int .i64 m.kind, v1, v2, v3] 26 (0, 0)) ∧ W1.heap[rb]? = some (.cells #[.int .i64 0, .slice none 0 0, .slice none 0 0, .slice none 0 0] 26 (0, 0)) ∧
    ((((W1.setCell ⟨rb, 0, none⟩ (.int .i64 m.kind)).setCell ⟨rb, 1, none⟩ v1).setCell ⟨rb, 2, none⟩ v2).setCell ⟨rb, 3, none⟩ v3).heap[rb]? = some (.cells #[.int .i64 m.kind, v1, v2, v3] 26 (0, 0)) ∧
    kNode.M ((((W1.setCell ⟨rb, 0, none⟩ (.int .i64 m.kind)).setCell ⟨rb, 1, none⟩ v1).setCell ⟨rb, 2, none⟩ v2).setCell ⟨rb, 3, none⟩ v3) w.heap.size (fun _ => True) m [.int .i64 m.kind, v1, v2, v3] ∧
    w.grownBy ((((W1.setCell ⟨rb, 0, none⟩ (.int .i64 m.kind)).setCell ⟨rb, 1, none⟩ v1).setCell ⟨rb, 2, none⟩ v2).setCell ⟨rb, 3, none⟩ v3) (some mb) := by
  have hne : ∀ {q : Nat} {cs : Array Value} {T : TypeId}, W.heap[q]? = some (.cells cs T (0, 0)) → some q ≠ some mb := fun hq e => by
    injection e with e
    exact hm.not_cells (by rw [← e]; exact hq)
  have hb0 := blk_grown h.res hg (hne h.res)
  have hb1 := blk_set hb0 0 (.int .i64 m.kind)
  have hb2 := blk_set hb1 1 v1
  have hb3 := blk_set hb2 2 v2
  refine ⟨blk_grown h.box hg (hne h.box), hb0, box4 hb0 _ _ _ _, kNode_mkM ?_ ?_ ?_, ?_⟩
  · exact R_type (R_type (R_type (R_type (R_past_map h.r1 hm hg) hb0 (by decide) _ _) hb1 (by decide) _ _) hb2 (by decide) _ _) hb3 (by decide) _ _
  · exact R_type (R_type (R_type (R_type (R_past_map h.r2 hm hg) hb0 (by decide) _ _) hb1 (by decide) _ _) hb2 (by decide) _ _) hb3 (by decide) _ _
  · exact R_type (R_type (R_type (R_type (R_past_map h.r3 hm hg) hb0 (by decide) _ _) hb1 (by decide) _ _) hb2 (by decide) _ _) hb3 (by decide) _ _
  · refine ⟨hg.os.trans h.below.os, hg.tape.trans h.below.tape, hg.output.trans h.below.output, ?_, fun i hi hr => ?_⟩
    · have h1 := hg.size
      have h2 := h.below.size
      simpa using Nat.le_trans h2 h1
    · have hr1 : i ≠ rb := by have := h.rge; omega
      rw [Below.heap_setCell _ ⟨rb, 3, none⟩ v3 i hr1, Below.heap_setCell _ ⟨rb, 2, none⟩ v2 i hr1, Below.heap_setCell _ ⟨rb, 1, none⟩ v1 i hr1, Below.heap_setCell _ ⟨rb, 0, none⟩ (.int .i64 m.kind) i hr1, hg.block i (by have := h.below.size; omega) hr]
      exact h.below.block i hi
section
variable {a : Scene} {A : Option Addr} {c b mb cnt : Nat} {base : List Int} {v : Value} {out : List Node} {w : World}
set_option maxRecDepth 100000 in
set_option maxHeartbeats 4000000 in
theorem take_no (W : World) (h : BRel a A c b mb cnt (imgF base) v out w W) (p : Int) (hp0 : -9223372036854775808 ≤ p) (hp1 : p ≤ 9223372036854775807) (hno : takes a.nodes.length base p = false) :
    Calls Tryd.prog 112 #[.pointer (some ⟨b, 0, none⟩), .int .i64 p] W fun e W' => e = .returned (.tuple #[.agg #[.int .i64 0, .slice none 0 0, .slice none 0 0, .slice none 0 0], .bool false]) ∧ Below W.heap.size W W' := by
  have HB := Aside0.mk h
  have HA := Aside0.mk (below_alloc (Below.refl W.heap.size W) (.cells zeroN 26))
  have HM := Aside0.mk (h.map.below HA.out)
  have q0 : W.cell? ⟨b, 0, none⟩ = some (.slice A a.nodes.length c) := (blk_cell h.blk 0).trans rfl
  have q2 : W.cell? ⟨b, 2, none⟩ = some (.map (some mb)) := (blk_cell h.blk 2).trans rfl
  have hb := blk_lt h.blk
  have hub := Tryd.underlying89
  have hun := Tryd.underlying39
  have HK := Aside0.mk (keyI_of hp0 hp1)
  have HNo := Aside0.mk (of_decide_eq_false hno)
  clear h hno
  by_cases hin : 0 ≤ p ∧ p ∈ base
  · have HI := Aside0.mk (imgF_in hin.1 hin.2 (.int .i64 0))
    clear hin HNo
    go_enter Tryd.func112, Tryd.ntmps112
    go_wp2_with (at_lookup; refine wpList_lookup_F_ok _ rfl (.tmp 17) (.tmp 18) 87 rfl 3 3 keyI Tryd.underlying87 (zeroI _) mb cnt (imgF base) rfl HM.out (.int .i64 p) (.int .i64 p) rfl HK.out _ HI.out.1 true HI.out.2 ?_)
    exact bodyPost_ret (v := .tuple #[.agg #[.int .i64 0, .slice none 0 0, .slice none 0 0, .slice none 0 0], .bool false]) (by simp [results, Tryd.results112, go_sem]) rfl ⟨rfl, HA.out⟩
  · have HI := Aside0.mk (imgF_out hin (.int .i64 0))
    by_cases hp : p < 0
    · have d1 : decide (p < 0) = true := decide_eq_true hp
      clear hin HNo hp
      go_enter Tryd.func112, Tryd.ntmps112
      go_wp2_with (at_lookup; refine wpList_lookup_F_ok _ rfl (.tmp 17) (.tmp 18) 87 rfl 3 3 keyI Tryd.underlying87 (zeroI _) mb cnt (imgF base) rfl HM.out (.int .i64 p) (.int .i64 p) rfl HK.out _ HI.out.1 false HI.out.2 ?_)
      exact bodyPost_ret (v := .tuple #[.agg #[.int .i64 0, .slice none 0 0, .slice none 0 0, .slice none 0 0], .bool false]) (by simp [results, Tryd.results112, go_sem]) rfl ⟨rfl, HA.out⟩
    · have d1 : decide (p < 0) = false := decide_eq_false hp
      have d2 : decide ((a.nodes.length : Int) ≤ p) = true := decide_eq_true (Classical.byContradiction fun hh => HNo.out ⟨by omega, by omega, fun hm => hin ⟨by omega, hm⟩⟩)
      clear hin HNo hp
      go_enter Tryd.func112, Tryd.ntmps112
      go_wp2_with (at_lookup; refine wpList_lookup_F_ok _ rfl (.tmp 17) (.tmp 18) 87 rfl 3 3 keyI Tryd.underlying87 (zeroI _) mb cnt (imgF base) rfl HM.out (.int .i64 p) (.int .i64 p) rfl HK.out _ HI.out.1 false HI.out.2 ?_)
      exact bodyPost_ret (v := .tuple #[.agg #[.int .i64 0, .slice none 0 0, .slice none 0 0, .slice none 0 0], .bool false]) (by simp [results, Tryd.results112, go_sem]) rfl ⟨rfl, HA.out⟩
end
end Go.Proofs.YtglfebpgdghlfaaDoor.L
end
section
namespace Go.Proofs.YtglfebpgdghlfaaDoor.L
open Go.RowKit Go.ChangeShapes Go.WideShapes Go.Proofs.YtglfebpgdghlfaaDoorW.PrintWords Go.Proofs.YtglfebpgdghlfaaDoorW.PrintLast Go.Proofs.YtglfebpgdghlfaaDoorW.PrintMore
attribute [local go_sem] max2_int min2_int max_two min_two max_three min_three max_four min_four
def TakePost (a : Scene) (A : Option Addr) (c b mb cnt : Nat) (base : List Int) (v : Value) (out : List Node) (w : World) (i : Nat) (W : World) (e : Ending) (W' : World) : Prop :=
  ∃ v1 v2 v3, e = .returned (.tuple #[.agg #[.int .i64 (imgN base (nd a.nodes i)).kind, v1, v2, v3], .bool true]) ∧ kNode.M W' W.heap.size (fun _ => True) (imgN base (nd a.nodes i)) [.int .i64 (imgN base (nd a.nodes i)).kind, v1, v2, v3] ∧
    BRel a A c b mb (cnt + 1) (imgF (base ++ [(i : Int)])) v out w W' ∧ W.grownBy W' (some mb)
section
variable {a : Scene} {A : Option Addr} {c b mb cnt : Nat} {base : List Int} {v : Value} {out : List Node} {w : World}
set_option maxRecDepth 100000 in
set_option maxHeartbeats 8000000 in
theorem take_yes (W : World) (h : BRel a A c b mb cnt (imgF base) v out w W) (hlen : out.length = base.length) (hc : kNode.C w A a.nodes.length a.nodes) (hS : ∀ i : Nat, i < a.nodes.length → Small (nd a.nodes i)) (hP : Places a.nodes) (hn : a.nodes.length ≤ 1000000) (hcn : cnt ≤ 1000000) (i : Nat) (hi : i < a.nodes.length) (hni : ¬ (i : Int) ∈ base) :
    Calls Tryd.prog 112 #[.pointer (some ⟨b, 0, none⟩), .int .i64 (i : Int)] W (TakePost a A c b mb cnt base v out w i W) := by
  have HB := Aside0.mk h
  have hA0 := below_alloc (Below.refl W.heap.size W) (.cells zeroN 26)
  have HA := Aside0.mk hA0
  have HM := Aside0.mk (h.map.below hA0)
  have q0 : W.cell? ⟨b, 0, none⟩ = some (.slice A a.nodes.length c) := (blk_cell h.blk 0).trans rfl
  have q2 : W.cell? ⟨b, 2, none⟩ = some (.map (some mb)) := (blk_cell h.blk 2).trans rfl
  have hb := blk_lt h.blk
  have hub := Tryd.underlying89
  have hus := Tryd.underlying39
  have hun := Tryd.underlying26
  have HK := Aside0.mk (keyI_of (x := (i : Int)) (by omega) (by omega))
  have HI := Aside0.mk (imgF_out (base := base) (k := (i : Int)) (fun hh => hni hh.2) (.int .i64 0))
  have HNi := Aside0.mk hni
  have HPl := Aside0.mk (hP i hi)
  have HSm := Aside0.mk (hS i hi)
  have HLen := Aside0.mk hlen
  have HRes := Aside0.mk (show (W.alloc (.cells zeroN 26)).heap[W.heap.size]? = some (.cells zeroN 26 (0, 0)) from by simpa using heap_alloc_new W _)
  obtain ⟨adn, A1, c1, A2, c2, A3, c3, rfl, x0, x1, x2, x3, hN⟩ := at_node (Kd.C_below hc h.below) i hi
  have HN := Aside0.mk hN
  replace x0 := pw_cell_below hA0 x0
  replace x1 := pw_cell_below hA0 x1
  replace x2 := pw_cell_below hA0 x2
  replace x3 := pw_cell_below hA0 x3
  have d0 : decide ((i : Int) < 0) = false := decide_eq_false (by omega)
  have d1 : decide ((a.nodes.length : Int) ≤ (i : Int)) = false := decide_eq_false (by omega)
  have d1n : decide (a.nodes.length ≤ i) = false := decide_eq_false (by omega)
  clear h hc hS hP hni hN hA0 hlen
  go_enter Tryd.func112, Tryd.ntmps112
  go_wp2_with (at_lookup; refine wpList_lookup_F_ok _ rfl (.tmp 17) (.tmp 18) 87 rfl 3 3 keyI Tryd.underlying87 (zeroI _) mb cnt (imgF base) rfl HM.out (.int .i64 (i : Int)) (.int .i64 (i : Int)) rfl HK.out _ HI.out.1 false HI.out.2 ?_)
  refine (copy_any (nd a.nodes i) A1 c1 A2 c2 A3 c3 _ (HN.out.below HA.out) HSm.out).mono ?_
  rintro e w6 ⟨v', rfl, ⟨v1, v2, v3, rfl, hM6⟩, hB6⟩
  have HO := Aside0.mk (OutRel.start (w := W) (rb := W.heap.size) (below_step HA.out hB6) (Nat.le_refl _) ((hB6.block _ (blk_lt HRes.out)).trans HRes.out) HA.out.size hM6)
  clear hB6 hM6 HRes
  obtain ⟨A5, c5, hv1⟩ := Kd.R_slice HO.out.r1
  subst hv1
  obtain ⟨A6, c6, hv2⟩ := Kd.R_slice HO.out.r2
  subst hv2
  obtain ⟨A7, c7, hv3⟩ := Kd.R_slice HO.out.r3
  subst hv3
  go_wp2
  generalize w6.alloc (.cells #[.int .i64 (nd a.nodes i).kind, .slice A5 (nd a.nodes i).ints.length c5, .slice A6 (nd a.nodes i).texts.length c6, .slice A7 (nd a.nodes i).kids.length c7] 26) = W7 at HO ⊢
  generalize w6.heap.size = g at HO ⊢
  clear q0 q2 x0 x1 x2 x3
  go_loopw [50] (fun v50 W1 => ∃ j : Nat, j ≤ (nd a.nodes i).kids.length ∧ v50 = .int .i64 j ∧ Aside0 (OutRel ⟨(nd a.nodes i).kind, (nd a.nodes i).ints, (nd a.nodes i).texts, mapTake (img base) (nd a.nodes i).kids j⟩ (.slice A5 (nd a.nodes i).ints.length c5) (.slice A6 (nd a.nodes i).texts.length c6) (.slice A7 (nd a.nodes i).kids.length c7) W W.heap.size g W1)) (fun v50 _ => (nd a.nodes i).kids.length - (intOf v50).toNat)
  case atStart => exact ⟨0, by omega, rfl, ⟨by rw [mapTake_zero]; exact HO.out⟩⟩
  case round =>
    clear HO
    obtain ⟨j, hj, rfl, HJ⟩ := hrel
    have HB1 := Aside0.mk (HB.out.later HJ.out.below)
    have hkl : (nd a.nodes i).kids.length ≤ 1000000 := HSm.out.2.2
    have hbw := blk_lt HB1.out.blk
    have hgw := blk_lt HJ.out.box
    by_cases hjl : j < (nd a.nodes i).kids.length
    · obtain ⟨g7, c7', hv, -⟩ := Kd.R_form HJ.out.r3 (by show 0 < (mapTake _ _ _).length; rw [mapTake_len]; omega)
      injection hv with hA hx hcc
      clear hx
      subst hA hcc
      have HQ := Aside0.mk (HPl.out _ (rd_mem hjl))
      obtain ⟨k, hk⟩ : ∃ k : Nat, rd (nd a.nodes i).kids (j : Int) = (k : Int) := ⟨(rd (nd a.nodes i).kids (j : Int)).toNat, by have := HQ.out.1; omega⟩
      have hkn : k < a.nodes.length := by have := HQ.out.2; omega
      obtain ⟨s1, s2, hs3⟩ := HJ.out.setKid (f := j) (by show j < (mapTake _ _ _).length; rw [mapTake_len]; exact hjl) (img base (rd (nd a.nodes i).kids (j : Int)))
      have hs3 : OutRel ⟨(nd a.nodes i).kind, (nd a.nodes i).ints, (nd a.nodes i).texts, mapTake (img base) (nd a.nodes i).kids (j + 1)⟩ (.slice A5 (nd a.nodes i).ints.length c5) (.slice A6 (nd a.nodes i).texts.length c6) (.slice (some ⟨g7, 0, none⟩) (nd a.nodes i).kids.length c7) W W.heap.size g (wr.setCell ⟨g7, j, none⟩ (.int .i64 (img base (rd (nd a.nodes i).kids (j : Int))))) := by
        have h := hs3
        rw [show (mapTake (img base) (nd a.nodes i).kids j).set j (img base (rd (nd a.nodes i).kids (j : Int))) = mapTake (img base) (nd a.nodes i).kids (j + 1) from mapTake_set _ _ _ hjl] at h
        exact h
      rw [show rd (mapTake (img base) (nd a.nodes i).kids j) (j : Int) = rd (nd a.nodes i).kids (j : Int) from mapTake_rd _ _ _ hjl, hk] at s1
      rw [hk] at hs3
      have q3 : wr.cell? ⟨g, 3, none⟩ = some (.slice (some ⟨g7, 0, none⟩) (nd a.nodes i).kids.length c7) := (blk_cell HJ.out.box 3).trans rfl
      have q2 : wr.cell? ⟨b, 2, none⟩ = some (.map (some mb)) := (blk_cell HB1.out.blk 2).trans rfl
      have HKk := Aside0.mk (keyI_of (x := (k : Int)) (by omega) (by omega))
      clear hk
      by_cases hin : (k : Int) ∈ base
      · have HIk := Aside0.mk (imgF_in (base := base) (k := (k : Int)) (by omega) hin (.int .i64 0))
        have HS3 := Aside0.mk hs3
        clear hin hs3
        generalize img base (k : Int) = im at HIk HS3
        go_wp2_with (at_lookup; refine wpList_lookup_F_ok _ rfl (.tmp 59) (.tmp 60) 87 rfl 3 3 keyI Tryd.underlying87 (zeroI _) mb cnt (imgF base) rfl HB1.out.map (.int .i64 (k : Int)) (.int .i64 (k : Int)) rfl HKk.out _ HIk.out.1 true HIk.out.2 ?_)
        go_roundw
        case rel => exact ⟨j + 1, by omega, by go_num, HS3⟩
        case measure => simp [intOf]; omega
      · have HIk := Aside0.mk (imgF_out (base := base) (k := (k : Int)) (fun hh => hin hh.2) (.int .i64 0))
        rw [show img base (k : Int) = -1 from if_neg hin] at hs3
        have HS3 := Aside0.mk hs3
        clear hin hs3
        go_wp2_with (at_lookup; refine wpList_lookup_F_ok _ rfl (.tmp 59) (.tmp 60) 87 rfl 3 3 keyI Tryd.underlying87 (zeroI _) mb cnt (imgF base) rfl HB1.out.map (.int .i64 (k : Int)) (.int .i64 (k : Int)) rfl HKk.out _ HIk.out.1 false HIk.out.2 ?_)
        go_roundw
        case rel => exact ⟨j + 1, by omega, by go_num, HS3⟩
        case measure => simp [intOf]; omega
    · obtain rfl : j = (nd a.nodes i).kids.length := by omega
      obtain ⟨Av, cv, hv⟩ := Kd.R_slice HB1.out.rows
      subst hv
      have q2 : wr.cell? ⟨b, 2, none⟩ = some (.map (some mb)) := (blk_cell HB1.out.blk 2).trans rfl
      have q3 : wr.cell? ⟨b, 3, none⟩ = some (.slice Av out.length cv) := (blk_cell HB1.out.blk 3).trans rfl
      have HPut := Aside0.mk (imgF_put (base := base) (p := (i : Int)) (by omega) HNi.out)
      go_wp2
      go_still_tail 10, (by kernel_rfl)
      change wpList _ _ _ _ _ wr.drew
      have HJ2 := Aside0.mk (HJ.out.later (pw_below_drewN (Below.refl _ _) 1))
      have HM2 := Aside0.mk HB1.out.drew.map
      have hlt2 := MapF.lt HB.out.map
      go_wp2_with (at_mapUpdate; refine wpList_update_F _ rfl (.tmp 75) (.tmp 76) (.tmp 81) 87 rfl 3 3 keyI Tryd.underlying87 mb cnt (imgF base) rfl HM2.out (by unfold maxLen; omega) (.int .i64 (i : Int)) (.int .i64 (out.length : Int)) (.int .i64 (i : Int)) rfl rfl HK.out ?_; intro w2 hM2 hg2; have HMx := Aside0.mk hM2; have HL := Aside0.mk (HJ2.out.landed HM2.out hlt2 hg2); clear hM2 hg2; have y0 : w2.cell? ⟨g, 0, none⟩ = some (.int .i64 (nd a.nodes i).kind) := (blk_cell HL.out.1 0).trans rfl; have y1 : w2.cell? ⟨g, 1, none⟩ = some (.slice A5 (nd a.nodes i).ints.length c5) := (blk_cell HL.out.1 1).trans rfl; have y2 : w2.cell? ⟨g, 2, none⟩ = some (.slice A6 (nd a.nodes i).texts.length c6) := (blk_cell HL.out.1 2).trans rfl; have y3 : w2.cell? ⟨g, 3, none⟩ = some (.slice A7 (nd a.nodes i).kids.length c7) := (blk_cell HL.out.1 3).trans rfl; have e0 : w2.cell? ⟨W.heap.size, 0, none⟩ = some (.int .i64 0) := (blk_cell HL.out.2.1 0).trans rfl; have e0f := blk_frozen HL.out.2.1 0; have e1 : (w2.setCell ⟨W.heap.size, 0, none⟩ (.int .i64 (nd a.nodes i).kind)).cell? ⟨W.heap.size, 1, none⟩ = some (.slice none 0 0) := (blk_cell (blk_set HL.out.2.1 0 (.int .i64 (nd a.nodes i).kind)) 1).trans rfl; have e1f := blk_frozen (blk_set HL.out.2.1 0 (.int .i64 (nd a.nodes i).kind)) 1; have e2 : ((w2.setCell ⟨W.heap.size, 0, none⟩ (.int .i64 (nd a.nodes i).kind)).setCell ⟨W.heap.size, 1, none⟩ (.slice A5 (nd a.nodes i).ints.length c5)).cell? ⟨W.heap.size, 2, none⟩ = some (.slice none 0 0) := (blk_cell (blk_set (blk_set HL.out.2.1 0 (.int .i64 (nd a.nodes i).kind)) 1 (.slice A5 (nd a.nodes i).ints.length c5)) 2).trans rfl; have e2f := blk_frozen (blk_set (blk_set HL.out.2.1 0 (.int .i64 (nd a.nodes i).kind)) 1 (.slice A5 (nd a.nodes i).ints.length c5)) 2; have e3 : (((w2.setCell ⟨W.heap.size, 0, none⟩ (.int .i64 (nd a.nodes i).kind)).setCell ⟨W.heap.size, 1, none⟩ (.slice A5 (nd a.nodes i).ints.length c5)).setCell ⟨W.heap.size, 2, none⟩ (.slice A6 (nd a.nodes i).texts.length c6)).cell? ⟨W.heap.size, 3, none⟩ = some (.slice none 0 0) := (blk_cell (blk_set (blk_set (blk_set HL.out.2.1 0 (.int .i64 (nd a.nodes i).kind)) 1 (.slice A5 (nd a.nodes i).ints.length c5)) 2 (.slice A6 (nd a.nodes i).texts.length c6)) 3).trans rfl; have e3f := blk_frozen (blk_set (blk_set (blk_set HL.out.2.1 0 (.int .i64 (nd a.nodes i).kind)) 1 (.slice A5 (nd a.nodes i).ints.length c5)) 2 (.slice A6 (nd a.nodes i).texts.length c6)) 3)
      have h4 := res4 HL.out.2.2.1
      refine bodyPost_ret (v := .tuple #[.agg #[.int .i64 (nd a.nodes i).kind, .slice A5 (nd a.nodes i).ints.length c5, .slice A6 (nd a.nodes i).texts.length c6, .slice A7 (nd a.nodes i).kids.length c7], .bool true]) (by simp [results, Tryd.results112, go_sem, h4]) rfl
        ⟨_, _, _, rfl, ?_, HB.out.grow HL.out.2.2.2.2 ?_, HL.out.2.2.2.2⟩
      · have h := HL.out.2.2.2.1
        rw [mapTake_all] at h
        exact h
      · have h := HMx.out
        rw [HLen.out, HPut.out] at h
        have hne : mb ≠ W.heap.size := by omega
        exact (((h.setCell (a := ⟨W.heap.size, 0, none⟩) hne _).setCell (a := ⟨W.heap.size, 1, none⟩) hne _).setCell (a := ⟨W.heap.size, 2, none⟩) hne _).setCell (a := ⟨W.heap.size, 3, none⟩) hne _
end
end Go.Proofs.YtglfebpgdghlfaaDoor.L
end
section
namespace Go.Proofs.YtglfebpgdghlfaaDoor.L
open Go.RowKit Go.ChangeShapes Go.WideShapes Go.Proofs.YtglfebpgdghlfaaDoorW.PrintWords Go.Proofs.YtglfebpgdghlfaaDoorW.PrintLast Go.Proofs.YtglfebpgdghlfaaDoorW.PrintMore
attribute [local go_sem] max2_int min2_int max_two min_two max_three min_three max_four min_four
theorem grown_of_below {W W1 W2 : World} {row : Option Nat} (h : Below W.heap.size W W1) (hg : W1.grownBy W2 row) : W.grownBy W2 row :=
  ⟨hg.os.trans h.os, hg.tape.trans h.tape, hg.output.trans h.output, Nat.le_trans h.size hg.size, fun i hi hr => (hg.block i (Nat.lt_of_lt_of_le hi h.size) hr).trans (h.block i hi)⟩
theorem grown_then {W W1 W2 : World} {row : Option Nat} (hg : W.grownBy W1 row) (h : Below W1.heap.size W1 W2) : W.grownBy W2 row :=
  ⟨h.os.trans hg.os, h.tape.trans hg.tape, h.output.trans hg.output, Nat.le_trans hg.size h.size, fun i hi hr => (h.block i (Nat.lt_of_lt_of_le hi hg.size)).trans (hg.block i hi hr)⟩
theorem grown_set {W W1 : World} {row : Option Nat} (hg : W.grownBy W1 row) {rb i : Nat} (h : W.heap.size ≤ rb) (u : Value) : W.grownBy (W1.setCell ⟨rb, i, none⟩ u) row :=
  ⟨hg.os, hg.tape, hg.output, by have := hg.size; simpa using this, fun k hk hr => (Below.heap_setCell W1 ⟨rb, i, none⟩ u k (by show k ≠ rb; omega)).trans (hg.block k hk hr)⟩
theorem grown_set4 {W W1 : World} {row : Option Nat} (hg : W.grownBy W1 row) {rb i0 i1 i2 i3 : Nat} (h : W.heap.size ≤ rb) (u0 u1 u2 u3 : Value) : W.grownBy ((((W1.setCell ⟨rb, i0, none⟩ u0).setCell ⟨rb, i1, none⟩ u1).setCell ⟨rb, i2, none⟩ u2).setCell ⟨rb, i3, none⟩ u3) row :=
  grown_set (grown_set (grown_set (grown_set hg h u0) h u1) h u2) h u3
theorem grown_alloc {W W1 : World} {row : Option Nat} (hg : W.grownBy W1 row) (o : Obj) : W.grownBy (W1.alloc o) row := grown_then hg (below_alloc (Below.refl _ _) o)
theorem MapF.set4 {P : Program} {k : TypeId} {W : World} {mb n rb i0 i1 i2 i3 : Nat} {f : Lit → Option Value} (h : MapF P k W mb n f) (hne : mb ≠ rb) (u0 u1 u2 u3 : Value) : MapF P k ((((W.setCell ⟨rb, i0, none⟩ u0).setCell ⟨rb, i1, none⟩ u1).setCell ⟨rb, i2, none⟩ u2).setCell ⟨rb, i3, none⟩ u3) mb n f :=
  (((h.setCell (a := ⟨rb, i0, none⟩) hne _).setCell (a := ⟨rb, i1, none⟩) hne _).setCell (a := ⟨rb, i2, none⟩) hne _).setCell (a := ⟨rb, i3, none⟩) hne _
theorem node_landed {W : World} {rb B : Nat} {m : Node} {v1 v2 v3 : Value} (hM : kNode.M W B (fun _ => True) m [.int .i64 m.kind, v1, v2, v3]) (hb0 : W.heap[rb]? = some (.cells zeroN 26 (0, 0))) :
    ((((W.setCell ⟨rb, 0, none⟩ (.int .i64 m.kind)).setCell ⟨rb, 1, none⟩ v1).setCell ⟨rb, 2, none⟩ v2).setCell ⟨rb, 3, none⟩ v3).heap[rb]? = some (.cells #[.int .i64 m.kind, v1, v2, v3] 26 (0, 0)) ∧
    kNode.M ((((W.setCell ⟨rb, 0, none⟩ (.int .i64 m.kind)).setCell ⟨rb, 1, none⟩ v1).setCell ⟨rb, 2, none⟩ v2).setCell ⟨rb, 3, none⟩ v3) B (fun _ => True) m [.int .i64 m.kind, v1, v2, v3] := by
  obtain ⟨x1, x2, x3, e, h1, h2, h3⟩ := kNode_openM hM
  injection e with _ e
  injection e with e1 e
  injection e with e2 e
  injection e with e3 _
  subst e1 e2 e3
  have hb1 := blk_set hb0 0 (.int .i64 m.kind)
  have hb2 := blk_set hb1 1 v1
  have hb3 := blk_set hb2 2 v2
  refine ⟨box4 hb0 _ _ _ _, kNode_mkM ?_ ?_ ?_⟩
  · exact R_type (R_type (R_type (R_type h1 hb0 (by decide) _ _) hb1 (by decide) _ _) hb2 (by decide) _ _) hb3 (by decide) _ _
  · exact R_type (R_type (R_type (R_type h2 hb0 (by decide) _ _) hb1 (by decide) _ _) hb2 (by decide) _ _) hb3 (by decide) _ _
  · exact R_type (R_type (R_type (R_type h3 hb0 (by decide) _ _) hb1 (by decide) _ _) hb2 (by decide) _ _) hb3 (by decide) _ _
theorem M_lower {W : World} {B B' : Nat} {m : Node} {cs : List Value} (h : kNode.M W B (fun _ => True) m cs) (hB : B' ≤ B) : kNode.M W B' (fun _ => True) m cs := by
  obtain ⟨x1, x2, x3, rfl, h1, h2, h3⟩ := kNode_openM h
  exact kNode_mkM (Kd.R_lower h1 hB) (Kd.R_lower h2 hB) (Kd.R_lower h3 hB)
theorem M_below {W W1 : World} {B : Nat} {m : Node} {cs : List Value} (h : kNode.M W B (fun _ => True) m cs) (hb : Below W.heap.size W W1) : kNode.M W1 B (fun _ => True) m cs := by
  obtain ⟨x1, x2, x3, rfl, h1, h2, h3⟩ := kNode_openM h
  exact kNode_mkM (Kd.R_below h1 hb) (Kd.R_below h2 hb) (Kd.R_below h3 hb)
theorem slots4 {W : World} {rb : Nat} {y0 y1 y2 y3 : Value} {T : TypeId} (h : W.heap[rb]? = some (.cells #[y0, y1, y2, y3] T (0, 0))) (u0 u1 u2 : Value) :
    W.cell? ⟨rb, 0, none⟩ = some y0 ∧ W.frozen? ⟨rb, 0, none⟩ = false ∧ (W.setCell ⟨rb, 0, none⟩ u0).cell? ⟨rb, 1, none⟩ = some y1 ∧ (W.setCell ⟨rb, 0, none⟩ u0).frozen? ⟨rb, 1, none⟩ = false ∧
    ((W.setCell ⟨rb, 0, none⟩ u0).setCell ⟨rb, 1, none⟩ u1).cell? ⟨rb, 2, none⟩ = some y2 ∧ ((W.setCell ⟨rb, 0, none⟩ u0).setCell ⟨rb, 1, none⟩ u1).frozen? ⟨rb, 2, none⟩ = false ∧
    (((W.setCell ⟨rb, 0, none⟩ u0).setCell ⟨rb, 1, none⟩ u1).setCell ⟨rb, 2, none⟩ u2).cell? ⟨rb, 3, none⟩ = some y3 ∧ (((W.setCell ⟨rb, 0, none⟩ u0).setCell ⟨rb, 1, none⟩ u1).setCell ⟨rb, 2, none⟩ u2).frozen? ⟨rb, 3, none⟩ = false :=
  ⟨(blk_cell h 0).trans rfl, blk_frozen h 0, (blk_cell (blk_set h 0 u0) 1).trans rfl, blk_frozen (blk_set h 0 u0) 1, (blk_cell (blk_set (blk_set h 0 u0) 1 u1) 2).trans rfl, blk_frozen (blk_set (blk_set h 0 u0) 1 u1) 2, (blk_cell (blk_set (blk_set (blk_set h 0 u0) 1 u1) 2 u2) 3).trans rfl, blk_frozen (blk_set (blk_set (blk_set h 0 u0) 1 u1) 2 u2) 3⟩
theorem M_slices {W : World} {B : Nat} {m : Node} {v1 v2 v3 : Value} (h : kNode.M W B (fun _ => True) m [.int .i64 m.kind, v1, v2, v3]) : ∃ A1 c1 A2 c2 A3 c3, v1 = .slice A1 m.ints.length c1 ∧ v2 = .slice A2 m.texts.length c2 ∧ v3 = .slice A3 m.kids.length c3 := by
  obtain ⟨x1, x2, x3, e, h1, h2, h3⟩ := kNode_openM h
  injection e with _ e
  injection e with e1 e
  injection e with e2 e
  injection e with e3 _
  subst e1 e2 e3
  obtain ⟨A1, c1, r1⟩ := Kd.R_slice h1
  obtain ⟨A2, c2, r2⟩ := Kd.R_slice h2
  obtain ⟨A3, c3, r3⟩ := Kd.R_slice h3
  exact ⟨A1, c1, A2, c2, A3, c3, r1, r2, r3⟩
def OnePost (a : Scene) (A : Option Addr) (c b mb cnt : Nat) (base : List Int) (v : Value) (out : List Node) (w : World) (o : Opn) (r : Node × Int) (W : World) (e : Ending) (W' : World) : Prop :=
  ∃ v1 v2 v3, e = .returned (.tuple #[.agg #[.int .i64 r.1.kind, v1, v2, v3], .int .i64 r.2]) ∧ kNode.M W' W.heap.size (fun _ => True) r.1 [.int .i64 r.1.kind, v1, v2, v3] ∧
    (r.2 = 0 → ∃ cnt', cnt' ≤ cnt + 1 ∧ BRel a A c b mb cnt' (imgF (base ++ [baseOf o])) v out w W') ∧ W.grownBy W' (some mb)
section
variable {a : Scene} {A : Option Addr} {c b mb cnt : Nat} {base : List Int} {v : Value} {out : List Node} {w : World}
theorem OnePost.bad {o : Opn} {r : Node × Int} {W W' : World} (hr : r = (nodez, 21)) (hg : W.grownBy W' (some mb)) : OnePost a A c b mb cnt base v out w o r W (.returned (.tuple #[.agg #[.int .i64 0, .slice none 0 0, .slice none 0 0, .slice none 0 0], .int .i64 21])) W' := by
  subst hr
  exact ⟨_, _, _, rfl, nodez_M _ _, (fun h => absurd h (show ¬ (21 : Int) = 0 by decide)), hg⟩
theorem below_grown {W W1 : World} {row : Option Nat} (h : Below W.heap.size W W1) : W.grownBy W1 row := ⟨h.os, h.tape, h.output, h.size, fun i hi _ => h.block i hi⟩
set_option maxRecDepth 100000 in
set_option maxHeartbeats 4000000 in
theorem fresh_any (W : World) (h : BRel a A c b mb cnt (imgF base) v out w W) (o : Opn) (B1 : Option Addr) (d1 : Nat) (B2 : Option Addr) (d2 : Nat) (A1 : Option Addr) (c1 : Nat) (A2 : Option Addr) (c2 : Nat) (A3 : Option Addr) (c3 : Nat) (hO : OpnC W o B1 d1 B2 d2 A1 c1 A2 c2 A3 c3) (hs : Small o.node) (hk3 : o.kind = 3) :
    Calls Tryd.prog 92 #[.pointer (some ⟨b, 0, none⟩), .agg (opV o B1 d1 B2 d2 A1 c1 A2 c2 A3 c3)] W (OnePost a A c b mb cnt base v out w o (freshN o) W) := by
  have HB := Aside0.mk h
  have HO := Aside0.mk hO
  have HSm := Aside0.mk hs
  have hA0 := below_alloc (below_alloc (Below.refl W.heap.size W) (.cells (opV o B1 d1 B2 d2 A1 c1 A2 c2 A3 c3) 61)) (.cells zeroN 26)
  have HA := Aside0.mk hA0
  have huo := Tryd.underlying61
  have hun := Tryd.underlying26
  clear h hO hs hA0
  have HRes := Aside0.mk (show ((W.alloc (.cells (opV o B1 d1 B2 d2 A1 c1 A2 c2 A3 c3) 61)).alloc (.cells zeroN 26)).heap[W.heap.size + 1]? = some (.cells zeroN 26 (0, 0)) from by
    have := heap_alloc_new (W.alloc (.cells (opV o B1 d1 B2 d2 A1 c1 A2 c2 A3 c3) 61)) (.cells zeroN 26)
    simpa using this)
  by_cases h1 : o.base = 0
  · by_cases h2 : o.sets.length = 0
    · by_cases h3 : o.script.length = 0
      · have HE := Aside0.mk (show freshN o = (o.node, 0) from if_pos ⟨h1, h2, h3⟩)
        have HBase : Aside0 (baseOf o = -2) := ⟨if_pos hk3⟩
        have g1 : (o.base != 0) = false := by simpa using h1
        have g2 : decide (0 < o.sets.length) = false := decide_eq_false (by omega)
        have g3 : decide (0 < o.script.length) = false := decide_eq_false (by omega)
        clear h1 h2 h3
        go_enter Tryd.func92, Tryd.ntmps92
        go_wp2_with fail
        refine (copy_any o.node A1 c1 A2 c2 A3 c3 _ (HO.out.n.below HA.out) HSm.out).mono ?_
        rintro e w6 ⟨v', rfl, ⟨v1, v2, v3, rfl, hM6⟩, hB6⟩
        obtain ⟨A5, c5, A6, c6, A7, c7, rfl, rfl, rfl⟩ := M_slices hM6
        have HM6 := Aside0.mk (M_lower hM6 HA.out.size)
        have HRes6 := Aside0.mk ((hB6.block _ (blk_lt HRes.out)).trans HRes.out)
        have HB6 := Aside0.mk (below_step HA.out hB6)
        obtain ⟨e0, e0f, e1, e1f, e2, e2f, e3, e3f⟩ := slots4 HRes6.out (.int .i64 o.node.kind) (.slice A5 o.node.ints.length c5) (.slice A6 o.node.texts.length c6)
        have HL := Aside0.mk (node_landed HM6.out HRes6.out)
        clear hM6 hB6
        go_wp2
        have h4 := res4 HL.out.1
        have hB := below_set4 (i0 := 0) (i1 := 1) (i2 := 2) (i3 := 3) (u0 := .int .i64 o.node.kind) (u1 := .slice A5 o.node.ints.length c5) (u2 := .slice A6 o.node.texts.length c6) (u3 := .slice A7 o.node.kids.length c7) HB6.out (Nat.le_succ W.heap.size)
        refine bodyPost_ret (v := .tuple #[.agg #[.int .i64 o.node.kind, .slice A5 o.node.ints.length c5, .slice A6 o.node.texts.length c6, .slice A7 o.node.kids.length c7], .int .i64 0]) (by simp [results, Tryd.results92, go_sem, h4]) rfl
          ⟨_, _, _, by rw [HE.out], by rw [HE.out]; exact HL.out.2, fun _ => ⟨cnt, Nat.le_succ _, ?_⟩, below_grown hB⟩
        rw [HBase.out, imgF_fresh]
        exact HB.out.later hB
      · have HE := Aside0.mk (show freshN o = (nodez, 21) from if_neg (fun hh => h3 hh.2.2))
        have g1 : (o.base != 0) = false := by simpa using h1
        have g2 : decide (0 < o.sets.length) = false := decide_eq_false (by omega)
        have g3 : decide (0 < o.script.length) = true := decide_eq_true (by omega)
        clear h1 h2 h3
        go_enter Tryd.func92, Tryd.ntmps92
        go_wp2
        exact bodyPost_ret (v := .tuple #[.agg #[.int .i64 0, .slice none 0 0, .slice none 0 0, .slice none 0 0], .int .i64 21]) (by simp [results, Tryd.results92, go_sem]) rfl (OnePost.bad HE.out (below_grown HA.out))
    · have HE := Aside0.mk (show freshN o = (nodez, 21) from if_neg (fun hh => h2 hh.2.1))
      have g1 : (o.base != 0) = false := by simpa using h1
      have g2 : decide (0 < o.sets.length) = true := decide_eq_true (by omega)
      clear h1 h2
      go_enter Tryd.func92, Tryd.ntmps92
      go_wp2
      exact bodyPost_ret (v := .tuple #[.agg #[.int .i64 0, .slice none 0 0, .slice none 0 0, .slice none 0 0], .int .i64 21]) (by simp [results, Tryd.results92, go_sem]) rfl (OnePost.bad HE.out (below_grown HA.out))
  · have HE := Aside0.mk (show freshN o = (nodez, 21) from if_neg (fun hh => h1 hh.1))
    have g1 : (o.base != 0) = true := by simpa using h1
    clear h1
    go_enter Tryd.func92, Tryd.ntmps92
    go_wp2
    exact bodyPost_ret (v := .tuple #[.agg #[.int .i64 0, .slice none 0 0, .slice none 0 0, .slice none 0 0], .int .i64 21]) (by simp [results, Tryd.results92, go_sem]) rfl (OnePost.bad HE.out (below_grown HA.out))
end
end Go.Proofs.YtglfebpgdghlfaaDoor.L
end
section
namespace Go.Proofs.YtglfebpgdghlfaaDoor.L
open Go.RowKit Go.ChangeShapes Go.WideShapes Go.Proofs.YtglfebpgdghlfaaDoorW.PrintWords Go.Proofs.YtglfebpgdghlfaaDoorW.PrintLast Go.Proofs.YtglfebpgdghlfaaDoorW.PrintMore
attribute [local go_sem] max2_int min2_int max_two min_two max_three min_three max_four min_four
section
variable {a : Scene} {A : Option Addr} {c b mb cnt : Nat} {base : List Int} {v : Value} {out : List Node} {w : World}
set_option maxRecDepth 100000 in
set_option maxHeartbeats 8000000 in
theorem keep_any (W : World) (h : BRel a A c b mb cnt (imgF base) v out w W) (hlen : out.length = base.length) (hc : kNode.C w A a.nodes.length a.nodes) (hS : ∀ i : Nat, i < a.nodes.length → Small (nd a.nodes i)) (hP : Places a.nodes) (hn : a.nodes.length ≤ 1000000) (hcn : cnt ≤ 1000000)
    (o : Opn) (B1 : Option Addr) (d1 : Nat) (B2 : Option Addr) (d2 : Nat) (A1 : Option Addr) (c1 : Nat) (A2 : Option Addr) (c2 : Nat) (A3 : Option Addr) (c3 : Nat) (hO : OpnC W o B1 d1 B2 d2 A1 c1 A2 c2 A3 c3) (hb0 : -9223372036854775808 ≤ o.base) (hb1 : o.base ≤ 9223372036854775807) (hk3 : ¬ o.kind = 3) :
    Calls Tryd.prog 90 #[.pointer (some ⟨b, 0, none⟩), .agg (opV o B1 d1 B2 d2 A1 c1 A2 c2 A3 c3)] W (OnePost a A c b mb cnt base v out w o (keepN a.nodes base o) W) := by
  have HB := Aside0.mk h
  have HO := Aside0.mk hO
  have HC := Aside0.mk hc
  have HSm := Aside0.mk hS
  have HPl := Aside0.mk hP
  have HLen := Aside0.mk hlen
  have hA0 := below_alloc (below_alloc (Below.refl W.heap.size W) (.cells (opV o B1 d1 B2 d2 A1 c1 A2 c2 A3 c3) 61)) (.cells zeroN 26)
  have HA := Aside0.mk hA0
  have huo := Tryd.underlying61
  have hun := Tryd.underlying26
  have hA1 := below_alloc (Below.refl W.heap.size W) (.cells (opV o B1 d1 B2 d2 A1 c1 A2 c2 A3 c3) 61)
  have HRes := Aside0.mk (show ((W.alloc (.cells (opV o B1 d1 B2 d2 A1 c1 A2 c2 A3 c3) 61)).alloc (.cells zeroN 26)).heap[W.heap.size + 1]? = some (.cells zeroN 26 (0, 0)) from by
    have := heap_alloc_new (W.alloc (.cells (opV o B1 d1 B2 d2 A1 c1 A2 c2 A3 c3) 61)) (.cells zeroN 26)
    simpa using this)
  have k1 : ((W.alloc (.cells (opV o B1 d1 B2 d2 A1 c1 A2 c2 A3 c3) 61)).alloc (.cells zeroN 26)).cell? ⟨W.heap.size, 1, none⟩ = some (.int .i64 o.base) := box_cell2 W _ rfl _ _ _ 1 _ rfl
  have HBase : Aside0 (baseOf o = o.base) := ⟨if_neg hk3⟩
  have hrb : W.heap.size + 1 < ((W.alloc (.cells (opV o B1 d1 B2 d2 A1 c1 A2 c2 A3 c3) 61)).alloc (.cells zeroN 26)).heap.size := blk_lt HRes.out
  have HK1 := Aside0.mk k1
  have HRb := Aside0.mk hrb
  clear h hO hA0 hA1 hc hS hP hlen hrb k1
  by_cases h2 : o.sets.length = 0
  · by_cases h3 : o.script.length = 0
    · have g2 : decide (0 < o.sets.length) = false := decide_eq_false (by omega)
      have g3 : decide (0 < o.script.length) = false := decide_eq_false (by omega)
      have HH := Aside0.mk (And.intro h2 h3)
      clear h2 h3
      go_enter Tryd.func90, Tryd.ntmps90
      go_wp2_with fail
      refine (empty_any o.node A1 c1 A2 c2 A3 c3 _).mono ?_
      rintro e w5 ⟨rfl, hB5⟩
      have HRes5 := Aside0.mk ((hB5.block _ (blk_lt HRes.out)).trans HRes.out)
      have k1 := pw_cell_below hB5 HK1.out
      have hrb5 : W.heap.size + 1 < w5.heap.size := blk_lt HRes5.out
      have HB5 := Aside0.mk (below_step HA.out hB5)
      clear hB5 HRes HA HK1 HRb
      by_cases hem : emptyN o.node = true
      · rw [hem]
        by_cases htk : takes a.nodes.length base o.base = true
        · have HE := Aside0.mk (show keepN a.nodes base o = (imgN base (nd a.nodes o.base.toNat), 0) from if_pos ⟨HH.out.1, HH.out.2, hem, htk⟩)
          obtain ⟨ht0, ht1, htn⟩ := of_decide_eq_true htk
          obtain ⟨i, hi⟩ := Int.eq_ofNat_of_zero_le ht0
          rw [hi] at HE HBase k1 ht1 htn
          rw [Int.toNat_natCast] at HE
          have HTn := Aside0.mk htn
          clear hem htk ht0 hi htn hb0 hb1
          go_wp2_with fail
          refine (take_yes w5 (HB.out.later HB5.out) HLen.out HC.out HSm.out HPl.out hn hcn i (by omega) HTn.out).mono ?_
          rintro e w6 ⟨v1, v2, v3, rfl, hM6, hR6, hg6⟩
          generalize imgN base (nd a.nodes i) = m at HE hM6 ⊢
          obtain ⟨A5, c5, A6, c6, A7, c7, rfl, rfl, rfl⟩ := M_slices hM6
          have hM6' := M_lower hM6 HB5.out.size
          have hres6 : w6.heap[W.heap.size + 1]? = some (.cells zeroN 26 (0, 0)) := (hg6.block _ hrb5 (fun e => by injection e with e; exact (HB.out.later HB5.out).map.not_cells (by rw [← e]; exact HRes5.out))).trans HRes5.out
          have HL := Aside0.mk (node_landed hM6' hres6)
          have hrb6 : W.heap.size + 1 < w6.heap.size := blk_lt hres6
          obtain ⟨e0, e0f, e1, e1f, e2, e2f, e3, e3f⟩ := slots4 hres6 (.int .i64 m.kind) (.slice A5 m.ints.length c5) (.slice A6 m.texts.length c6)
          have HG := Aside0.mk (grown_of_below HB5.out hg6)
          have HM := Aside0.mk hR6.map
          have hmb : mb ≠ W.heap.size + 1 := by have := MapF.lt HB.out.map; omega
          clear hM6 hM6' hres6 hR6 hg6 k1
          go_wp2
          have h4 := res4a HL.out.1 (.cells #[.int .i64 m.kind, .slice A5 m.ints.length c5, .slice A6 m.texts.length c6, .slice A7 m.kids.length c7] 26)
          have hG := grown_alloc (grown_set4 (i0 := 0) (i1 := 1) (i2 := 2) (i3 := 3) HG.out (Nat.le_succ W.heap.size) (.int .i64 m.kind) (.slice A5 m.ints.length c5) (.slice A6 m.texts.length c6) (.slice A7 m.kids.length c7)) (.cells #[.int .i64 m.kind, .slice A5 m.ints.length c5, .slice A6 m.texts.length c6, .slice A7 m.kids.length c7] 26)
          refine bodyPost_ret (v := .tuple #[.agg #[.int .i64 m.kind, .slice A5 m.ints.length c5, .slice A6 m.texts.length c6, .slice A7 m.kids.length c7], .int .i64 0]) (by simp [results, Tryd.results90, go_sem, h4]) rfl
            ⟨_, _, _, by rw [HE.out], by rw [HE.out]; exact M_below HL.out.2 (below_alloc (Below.refl _ _) _), fun _ => ⟨cnt + 1, Nat.le_refl _, ?_⟩, hG⟩
          rw [HBase.out]
          exact HB.out.grow hG ((MapF.set4 HM.out hmb _ _ _ _).below (below_alloc (Below.refl _ _) _))
        · have HE := Aside0.mk (show keepN a.nodes base o = (nodez, 21) from if_neg (fun hh => htk hh.2.2.2))
          have HTk := Aside0.mk (Bool.eq_false_iff.2 htk)
          clear hem htk
          go_wp2_with fail
          refine (take_no w5 (HB.out.later HB5.out) o.base hb0 hb1 HTk.out).mono ?_
          rintro e w6 ⟨rfl, hB6⟩
          have hres6 := (hB6.block _ hrb5).trans HRes5.out
          have HZ := Aside0.mk (box4 hres6 (.int .i64 0) (.slice none 0 0) (.slice none 0 0) (.slice none 0 0))
          have HB6 := Aside0.mk (below_alloc (below_set4 (i0 := 0) (i1 := 1) (i2 := 2) (i3 := 3) (u0 := .int .i64 0) (u1 := .slice none 0 0) (u2 := .slice none 0 0) (u3 := .slice none 0 0) (below_step HB5.out hB6) (Nat.le_succ W.heap.size)) (.cells zeroN 26))
          have hrb6 : W.heap.size + 1 < w6.heap.size := blk_lt hres6
          obtain ⟨e0, e0f, e1, e1f, e2, e2f, e3, e3f⟩ := slots4 hres6 (.int .i64 0) (.slice none 0 0) (.slice none 0 0)
          clear hres6 hB6 k1
          go_wp2
          have h4 := res4a HZ.out (.cells zeroN 26)
          exact bodyPost_ret (v := .tuple #[.agg #[.int .i64 0, .slice none 0 0, .slice none 0 0, .slice none 0 0], .int .i64 21]) (by simp [results, Tryd.results90, go_sem, h4]) rfl (OnePost.bad HE.out (below_grown HB6.out))
      · have HE := Aside0.mk (show keepN a.nodes base o = (nodez, 21) from if_neg (fun hh => hem hh.2.2.1))
        rw [Bool.eq_false_iff.2 hem]
        have HZ := Aside0.mk (box4 HRes5.out (.int .i64 0) (.slice none 0 0) (.slice none 0 0) (.slice none 0 0))
        have HB6 := Aside0.mk (below_set4 (i0 := 0) (i1 := 1) (i2 := 2) (i3 := 3) (u0 := .int .i64 0) (u1 := .slice none 0 0) (u2 := .slice none 0 0) (u3 := .slice none 0 0) HB5.out (Nat.le_succ W.heap.size))
        obtain ⟨e0, e0f, e1, e1f, e2, e2f, e3, e3f⟩ := slots4 HRes5.out (.int .i64 0) (.slice none 0 0) (.slice none 0 0)
        clear hem k1
        go_wp2
        have h4 := res4 HZ.out
        exact bodyPost_ret (v := .tuple #[.agg #[.int .i64 0, .slice none 0 0, .slice none 0 0, .slice none 0 0], .int .i64 21]) (by simp [results, Tryd.results90, go_sem, h4]) rfl (OnePost.bad HE.out (below_grown HB6.out))
    · have HE := Aside0.mk (show keepN a.nodes base o = (nodez, 21) from if_neg (fun hh => h3 hh.2.1))
      have g2 : decide (0 < o.sets.length) = false := decide_eq_false (by omega)
      have g3 : decide (0 < o.script.length) = true := decide_eq_true (by omega)
      clear h2 h3
      go_enter Tryd.func90, Tryd.ntmps90
      go_wp2
      exact bodyPost_ret (v := .tuple #[.agg #[.int .i64 0, .slice none 0 0, .slice none 0 0, .slice none 0 0], .int .i64 21]) (by simp [results, Tryd.results90, go_sem]) rfl (OnePost.bad HE.out (below_grown HA.out))
  · have HE := Aside0.mk (show keepN a.nodes base o = (nodez, 21) from if_neg (fun hh => h2 hh.1))
    have g2 : decide (0 < o.sets.length) = true := decide_eq_true (by omega)
    clear h2
    go_enter Tryd.func90, Tryd.ntmps90
    go_wp2
    exact bodyPost_ret (v := .tuple #[.agg #[.int .i64 0, .slice none 0 0, .slice none 0 0, .slice none 0 0], .int .i64 21]) (by simp [results, Tryd.results90, go_sem]) rfl (OnePost.bad HE.out (below_grown HA.out))
end
end Go.Proofs.YtglfebpgdghlfaaDoor.L
end
section
namespace Go.Proofs.YtglfebpgdghlfaaDoor.L
open Go.RowKit Go.ChangeShapes Go.WideShapes Go.Proofs.YtglfebpgdghlfaaDoorW.PrintWords Go.Proofs.YtglfebpgdghlfaaDoorW.PrintLast Go.Proofs.YtglfebpgdghlfaaDoorW.PrintMore
attribute [local go_sem] max2_int min2_int max_two min_two max_three min_three max_four min_four
set_option maxRecDepth 100000 in
set_option maxHeartbeats 8000000 in
theorem fset_any (n : Node) (A1 : Option Addr) (c1 : Nat) (A2 : Option Addr) (c2 : Nat) (A3 : Option Addr) (c3 : Nat) (A4 : Option Addr) (c4 : Nat) (l : List SetV) (w : World) (h : NodeC w n A1 c1 A2 c2 A3 c3) (hs : Small n) (h4 : kSet.C w A4 l.length l) (hl : l.length ≤ 1000000) :
    Calls Tryd.prog 113 #[.agg #[.int .i64 n.kind, .slice A1 n.ints.length c1, .slice A2 n.texts.length c2, .slice A3 n.kids.length c3], .slice A4 l.length c4] w (NodePost (setR n l) w) := by
  have HN := Aside0.mk h
  have HSm := Aside0.mk hs
  have HL := Aside0.mk h4
  have HB := Aside0.mk (below_alloc (below_alloc (Below.refl w.heap.size w) (.cells #[.int .i64 n.kind, .slice A1 n.ints.length c1, .slice A2 n.texts.length c2, .slice A3 n.kids.length c3] 26)) (.cells #[.int .i64 0, .slice none 0 0, .slice none 0 0, .slice none 0 0] 26))
  have k0 := box_cell2 w _ rfl #[.int .i64 n.kind, .slice A1 n.ints.length c1, .slice A2 n.texts.length c2, .slice A3 n.kids.length c3] 26 (.cells #[.int .i64 0, .slice none 0 0, .slice none 0 0, .slice none 0 0] 26) 0 _ rfl
  have k1 := box_cell2 w _ rfl #[.int .i64 n.kind, .slice A1 n.ints.length c1, .slice A2 n.texts.length c2, .slice A3 n.kids.length c3] 26 (.cells #[.int .i64 0, .slice none 0 0, .slice none 0 0, .slice none 0 0] 26) 1 _ rfl
  have k2 := box_cell2 w _ rfl #[.int .i64 n.kind, .slice A1 n.ints.length c1, .slice A2 n.texts.length c2, .slice A3 n.kids.length c3] 26 (.cells #[.int .i64 0, .slice none 0 0, .slice none 0 0, .slice none 0 0] 26) 2 _ rfl
  have k3 := box_cell2 w _ rfl #[.int .i64 n.kind, .slice A1 n.ints.length c1, .slice A2 n.texts.length c2, .slice A3 n.kids.length c3] 26 (.cells #[.int .i64 0, .slice none 0 0, .slice none 0 0, .slice none 0 0] 26) 3 _ rfl
  have HRes := Aside0.mk (show ((w.alloc (.cells #[.int .i64 n.kind, .slice A1 n.ints.length c1, .slice A2 n.texts.length c2, .slice A3 n.kids.length c3] 26)).alloc (.cells #[.int .i64 0, .slice none 0 0, .slice none 0 0, .slice none 0 0] 26)).heap[w.heap.size + 1]? = some (.cells #[.int .i64 0, .slice none 0 0, .slice none 0 0, .slice none 0 0] 26 (0, 0)) from by
    have := heap_alloc_new (w.alloc (.cells #[.int .i64 n.kind, .slice A1 n.ints.length c1, .slice A2 n.texts.length c2, .slice A3 n.kids.length c3] 26)) (.cells #[.int .i64 0, .slice none 0 0, .slice none 0 0, .slice none 0 0] 26)
    simpa using this)
  have hun := Tryd.underlying26
  have hus := Tryd.underlying84
  clear h hs h4
  go_enter Tryd.func113, Tryd.ntmps113
  go_wp2_with fail
  refine (copy_any n A1 c1 A2 c2 A3 c3 _ (HN.out.below HB.out) HSm.out).mono ?_
  rintro e w6 ⟨v, rfl, ⟨v1, v2, v3, rfl, hM6⟩, hB6⟩
  have HO := Aside0.mk (OutRel.start (below_step HB.out hB6) (Nat.le_succ _) ((hB6.block _ (blk_lt HRes.out)).trans HRes.out) HB.out.size hM6)
  clear hB6 hM6 k0 k1 k2 k3
  obtain ⟨A5, c5, hv1⟩ := Kd.R_slice HO.out.r1
  subst hv1
  obtain ⟨A6, c6, hv2⟩ := Kd.R_slice HO.out.r2
  subst hv2
  obtain ⟨A7, c7, hv3⟩ := Kd.R_slice HO.out.r3
  subst hv3
  go_wp2
  generalize w6.alloc (.cells #[.int .i64 n.kind, .slice A5 n.ints.length c5, .slice A6 n.texts.length c6, .slice A7 n.kids.length c7] 26) = W7 at HO ⊢
  generalize w6.heap.size = g at HO ⊢
  go_loopw [13] (fun v13 W => ∃ k : Nat, k ≤ l.length ∧ v13 = .int .i64 k ∧ ∃ m, Aside0 (setAll n (l.take k) = some m ∧ m.kind = n.kind) ∧ Aside0 (OutRel m (.slice A5 n.ints.length c5) (.slice A6 n.texts.length c6) (.slice A7 n.kids.length c7) w (w.heap.size + 1) g W)) (fun v13 _ => l.length - (intOf v13).toNat)
  case atStart => exact ⟨0, by omega, rfl, n, ⟨rfl, rfl⟩, HO⟩
  case round =>
    clear HO
    obtain ⟨k, hk, rfl, m, HS, HO⟩ := hrel
    have q0 : wr.cell? ⟨g, 0, none⟩ = some (.int .i64 m.kind) := (blk_cell HO.out.box 0).trans rfl
    have q1 : wr.cell? ⟨g, 1, none⟩ = some (.slice A5 n.ints.length c5) := (blk_cell HO.out.box 1).trans rfl
    have q2 : wr.cell? ⟨g, 2, none⟩ = some (.slice A6 n.texts.length c6) := (blk_cell HO.out.box 2).trans rfl
    have q3 : wr.cell? ⟨g, 3, none⟩ = some (.slice A7 n.kids.length c7) := (blk_cell HO.out.box 3).trans rfl
    have hl1 := (Kd.R_reads' HO.out.r1).1
    have hl2 := (Kd.R_reads' HO.out.r2).1
    have HLn := Aside0.mk (And.intro hl1 hl2)
    have hwr := blk_lt HO.out.res
    have hgl := blk_lt HO.out.box
    clear hl1 hl2
    by_cases hlt : k < l.length
    · obtain ⟨ad, rfl, x0, x1, x2, x3⟩ := at_set (Kd.C_below HL.out HO.out.below) k hlt
      have HStep := Aside0.mk (setAll_step (n := n) hlt)
      have HBd := Aside0.mk (fun hb => setR_bad hlt HS.out.1 hb)
      generalize st l k = x at x0 x1 x2 x3 HStep HBd
      have e0 : wr.cell? ⟨w.heap.size + 1, 0, none⟩ = some (.int .i64 0) := (blk_cell HO.out.res 0).trans rfl
      have e0f := blk_frozen HO.out.res 0
      have e1 : (wr.setCell ⟨w.heap.size + 1, 0, none⟩ (.int .i64 0)).cell? ⟨w.heap.size + 1, 1, none⟩ = some (.slice none 0 0) := (blk_cell (blk_set HO.out.res 0 (.int .i64 0)) 1).trans rfl
      have e1f := blk_frozen (blk_set HO.out.res 0 (.int .i64 0)) 1
      have e2 : ((wr.setCell ⟨w.heap.size + 1, 0, none⟩ (.int .i64 0)).setCell ⟨w.heap.size + 1, 1, none⟩ (.slice none 0 0)).cell? ⟨w.heap.size + 1, 2, none⟩ = some (.slice none 0 0) := (blk_cell (blk_set (blk_set HO.out.res 0 (.int .i64 0)) 1 (.slice none 0 0)) 2).trans rfl
      have e2f := blk_frozen (blk_set (blk_set HO.out.res 0 (.int .i64 0)) 1 (.slice none 0 0)) 2
      have e3 : (((wr.setCell ⟨w.heap.size + 1, 0, none⟩ (.int .i64 0)).setCell ⟨w.heap.size + 1, 1, none⟩ (.slice none 0 0)).setCell ⟨w.heap.size + 1, 2, none⟩ (.slice none 0 0)).cell? ⟨w.heap.size + 1, 3, none⟩ = some (.slice none 0 0) := (blk_cell (blk_set (blk_set (blk_set HO.out.res 0 (.int .i64 0)) 1 (.slice none 0 0)) 2 (.slice none 0 0)) 3).trans rfl
      have e3f := blk_frozen (blk_set (blk_set (blk_set HO.out.res 0 (.int .i64 0)) 1 (.slice none 0 0)) 2 (.slice none 0 0)) 3
      have HZ := Aside0.mk (box4 HO.out.res (.int .i64 0) (.slice none 0 0) (.slice none 0 0) (.slice none 0 0))
      have HZB := Aside0.mk (below_set4 (i0 := 0) (i1 := 1) (i2 := 2) (i3 := 3) (u0 := .int .i64 0) (u1 := .slice none 0 0) (u2 := .slice none 0 0) (u3 := .slice none 0 0) HO.out.below (show w.heap.size ≤ w.heap.size + 1 by omega))
      cases ht : x.text with
      | true =>
        rw [ht] at x0
        by_cases hok : x.n = 0 ∧ 0 ≤ x.field ∧ x.field < (m.texts.length : Int)
        · obtain ⟨hn, hf0, hf1⟩ := hok
          obtain ⟨f, hf⟩ := Int.eq_ofNat_of_zero_le hf0
          have hfl : f < m.texts.length := by omega
          have HN1 := Aside0.mk (setOne_text ht hn hf hfl)
          have HL2 := HLn.out.2
          obtain ⟨g6, c6', hv, -⟩ := Kd.R_form HO.out.r2 (by omega)
          injection hv with hA _ hc
          subst hA hc
          obtain ⟨⟨y, s1⟩, s2, hs3⟩ := HO.out.setText hfl x.s
          rw [hn] at x2
          rw [hf] at x1
          have HS3 := Aside0.mk hs3
          have hg6 : g6 < wr.heap.size := World.block_lt_of_cell? wr _ s1
          have d1 : decide ((f : Int) < (n.texts.length : Int)) = true := decide_eq_true (by omega)
          clear HL2 hn hf hf0 hf1 hs3 e0 e0f e1 e1f e2 e2f e3 e3f
          go_wp2
          go_roundw
          case rel => exact ⟨k + 1, by omega, by go_num, ⟨m.kind, m.ints, m.texts.set f x.s, m.kids⟩, ⟨by rw [HStep.out, HS.out.1]; exact HN1.out, HS.out.2⟩, ⟨HS3.out.alloc _⟩⟩
          case measure => simp [intOf]; omega
        · have HBad := Aside0.mk (HBd.out (setOne_text_bad ht hok))
          have h3 : ¬ x.n = 0 ∨ (x.n = 0 ∧ ¬ 0 ≤ x.field) ∨ (x.n = 0 ∧ 0 ≤ x.field ∧ ¬ x.field < (m.texts.length : Int)) := by omega
          have HL2 := HLn.out.2
          rcases h3 with hn | ⟨hn, hf0⟩ | ⟨hn, hf0, hf1⟩
          · have d1 : (x.n == 0) = false := by simpa using hn
            clear hn hok ht HL2
            go_wp2
            have h4 := res4a HZ.out (.cells #[.bool true, .int .i64 x.field, .int .i64 x.n, .string x.s] 84)
            exact bodyPost_ret (v := .tuple #[.agg #[.int .i64 0, .slice none 0 0, .slice none 0 0, .slice none 0 0], .int .i64 21]) (by simp [results, Tryd.results113, go_sem, h4]) rfl
              ⟨_, _, _, by rw [HBad.out]; rfl, by rw [HBad.out]; exact nodez_M _ _, below_alloc HZB.out _⟩
          · rw [hn] at x2
            have d1 : decide (0 ≤ x.field) = false := decide_eq_false hf0
            clear hn hok ht hf0 HL2
            go_wp2
            have h4 := res4a HZ.out (.cells #[.bool true, .int .i64 x.field, .int .i64 0, .string x.s] 84)
            exact bodyPost_ret (v := .tuple #[.agg #[.int .i64 0, .slice none 0 0, .slice none 0 0, .slice none 0 0], .int .i64 21]) (by simp [results, Tryd.results113, go_sem, h4]) rfl
              ⟨_, _, _, by rw [HBad.out]; rfl, by rw [HBad.out]; exact nodez_M _ _, below_alloc HZB.out _⟩
          · rw [hn] at x2
            have d1 : decide (0 ≤ x.field) = true := decide_eq_true hf0
            have d2 : decide (x.field < (n.texts.length : Int)) = false := decide_eq_false (by omega)
            clear hn hok ht hf0 hf1 HL2
            go_wp2
            have h4 := res4a HZ.out (.cells #[.bool true, .int .i64 x.field, .int .i64 0, .string x.s] 84)
            exact bodyPost_ret (v := .tuple #[.agg #[.int .i64 0, .slice none 0 0, .slice none 0 0, .slice none 0 0], .int .i64 21]) (by simp [results, Tryd.results113, go_sem, h4]) rfl
              ⟨_, _, _, by rw [HBad.out]; rfl, by rw [HBad.out]; exact nodez_M _ _, below_alloc HZB.out _⟩
      | false =>
        rw [ht] at x0
        by_cases hok : x.s = ByteArray.empty ∧ 0 ≤ x.field ∧ x.field < (m.ints.length : Int)
        · obtain ⟨hn, hf0, hf1⟩ := hok
          obtain ⟨f, hf⟩ := Int.eq_ofNat_of_zero_le hf0
          have hfl : f < m.ints.length := by omega
          have HN1 := Aside0.mk (setOne_int ht hn hf hfl)
          have HL2 := HLn.out.1
          obtain ⟨g6, c6', hv, -⟩ := Kd.R_form HO.out.r1 (by omega)
          injection hv with hA _ hc
          subst hA hc
          obtain ⟨⟨y, s1⟩, s2, hs3⟩ := HO.out.setInt hfl x.n
          rw [hn] at x3
          rw [hf] at x1
          have HS3 := Aside0.mk hs3
          have hg6 : g6 < wr.heap.size := World.block_lt_of_cell? wr _ s1
          have d1 : decide ((f : Int) < (n.ints.length : Int)) = true := decide_eq_true (by omega)
          clear HL2 hn hf hf0 hf1 hs3 e0 e0f e1 e1f e2 e2f e3 e3f
          go_wp2
          go_roundw
          case rel => exact ⟨k + 1, by omega, by go_num, ⟨m.kind, m.ints.set f x.n, m.texts, m.kids⟩, ⟨by rw [HStep.out, HS.out.1]; exact HN1.out, HS.out.2⟩, ⟨HS3.out.alloc _⟩⟩
          case measure => simp [intOf]; omega
        · have HBad := Aside0.mk (HBd.out (setOne_int_bad ht hok))
          have HL2 := HLn.out.1
          have h3 : ¬ x.s = ByteArray.empty ∨ (x.s = ByteArray.empty ∧ ¬ 0 ≤ x.field) ∨ (x.s = ByteArray.empty ∧ 0 ≤ x.field ∧ ¬ x.field < (m.ints.length : Int)) := by
            by_cases h1 : x.s = ByteArray.empty
            · by_cases h2 : 0 ≤ x.field
              · exact .inr (.inr ⟨h1, h2, fun h => hok ⟨h1, h2, h⟩⟩)
              · exact .inr (.inl ⟨h1, h2⟩)
            · exact .inl h1
          rcases h3 with hn | ⟨hn, hf0⟩ | ⟨hn, hf0, hf1⟩
          · have d1 : ¬ x.s.toList = [] := fun h => hn (toList_nil.1 h)
            clear hn hok ht HL2
            go_wp2
            have h4 := res4a HZ.out (.cells #[.bool false, .int .i64 x.field, .int .i64 x.n, .string x.s] 84)
            exact bodyPost_ret (v := .tuple #[.agg #[.int .i64 0, .slice none 0 0, .slice none 0 0, .slice none 0 0], .int .i64 21]) (by simp [results, Tryd.results113, go_sem, h4]) rfl
              ⟨_, _, _, by rw [HBad.out]; rfl, by rw [HBad.out]; exact nodez_M _ _, below_alloc HZB.out _⟩
          · rw [hn] at x3
            have d1 : decide (0 ≤ x.field) = false := decide_eq_false hf0
            clear hn hok ht hf0 HL2
            go_wp2
            have h4 := res4a HZ.out (.cells #[.bool false, .int .i64 x.field, .int .i64 x.n, .string ByteArray.empty] 84)
            exact bodyPost_ret (v := .tuple #[.agg #[.int .i64 0, .slice none 0 0, .slice none 0 0, .slice none 0 0], .int .i64 21]) (by simp [results, Tryd.results113, go_sem, h4]) rfl
              ⟨_, _, _, by rw [HBad.out]; rfl, by rw [HBad.out]; exact nodez_M _ _, below_alloc HZB.out _⟩
          · rw [hn] at x3
            have d1 : decide (0 ≤ x.field) = true := decide_eq_true hf0
            have d2 : decide (x.field < (n.ints.length : Int)) = false := decide_eq_false (by omega)
            clear hn hok ht hf0 hf1 HL2
            go_wp2
            have h4 := res4a HZ.out (.cells #[.bool false, .int .i64 x.field, .int .i64 x.n, .string ByteArray.empty] 84)
            exact bodyPost_ret (v := .tuple #[.agg #[.int .i64 0, .slice none 0 0, .slice none 0 0, .slice none 0 0], .int .i64 21]) (by simp [results, Tryd.results113, go_sem, h4]) rfl
              ⟨_, _, _, by rw [HBad.out]; rfl, by rw [HBad.out]; exact nodez_M _ _, below_alloc HZB.out _⟩
    · obtain rfl : k = l.length := by omega
      have HFin := Aside0.mk (setR_all (l := l) (by have h := HS.out.1; rwa [List.take_length] at h))
      have HD := Aside0.mk HO.out.done
      have e0 : wr.cell? ⟨w.heap.size + 1, 0, none⟩ = some (.int .i64 0) := (blk_cell HO.out.res 0).trans rfl
      have e0f := blk_frozen HO.out.res 0
      have e1 : (wr.setCell ⟨w.heap.size + 1, 0, none⟩ (.int .i64 m.kind)).cell? ⟨w.heap.size + 1, 1, none⟩ = some (.slice none 0 0) := (blk_cell (blk_set HO.out.res 0 (.int .i64 m.kind)) 1).trans rfl
      have e1f := blk_frozen (blk_set HO.out.res 0 (.int .i64 m.kind)) 1
      have e2 : ((wr.setCell ⟨w.heap.size + 1, 0, none⟩ (.int .i64 m.kind)).setCell ⟨w.heap.size + 1, 1, none⟩ (.slice A5 n.ints.length c5)).cell? ⟨w.heap.size + 1, 2, none⟩ = some (.slice none 0 0) := (blk_cell (blk_set (blk_set HO.out.res 0 (.int .i64 m.kind)) 1 (.slice A5 n.ints.length c5)) 2).trans rfl
      have e2f := blk_frozen (blk_set (blk_set HO.out.res 0 (.int .i64 m.kind)) 1 (.slice A5 n.ints.length c5)) 2
      have e3 : (((wr.setCell ⟨w.heap.size + 1, 0, none⟩ (.int .i64 m.kind)).setCell ⟨w.heap.size + 1, 1, none⟩ (.slice A5 n.ints.length c5)).setCell ⟨w.heap.size + 1, 2, none⟩ (.slice A6 n.texts.length c6)).cell? ⟨w.heap.size + 1, 3, none⟩ = some (.slice none 0 0) := (blk_cell (blk_set (blk_set (blk_set HO.out.res 0 (.int .i64 m.kind)) 1 (.slice A5 n.ints.length c5)) 2 (.slice A6 n.texts.length c6)) 3).trans rfl
      have e3f := blk_frozen (blk_set (blk_set (blk_set HO.out.res 0 (.int .i64 m.kind)) 1 (.slice A5 n.ints.length c5)) 2 (.slice A6 n.texts.length c6)) 3
      go_wp2
      have h4 := res4 HD.out.1
      exact bodyPost_ret (v := .tuple #[.agg #[.int .i64 m.kind, .slice A5 n.ints.length c5, .slice A6 n.texts.length c6, .slice A7 n.kids.length c7], .int .i64 0]) (by simp [results, Tryd.results113, go_sem, h4]) rfl
        ⟨_, _, _, by rw [HFin.out], by rw [HFin.out]; exact HD.out.2.1, HD.out.2.2⟩
end Go.Proofs.YtglfebpgdghlfaaDoor.L
end
section
namespace Go.Proofs.YtglfebpgdghlfaaDoor.L
open Go.RowKit Go.ChangeShapes Go.WideShapes Go.Proofs.YtglfebpgdghlfaaDoorW.PrintWords Go.Proofs.YtglfebpgdghlfaaDoorW.PrintLast Go.Proofs.YtglfebpgdghlfaaDoorW.PrintMore
attribute [local go_sem] max2_int min2_int max_two min_two max_three min_three max_four min_four
theorem M_nodeC {W : World} {B : Nat} {m : Node} {A1 A2 A3 : Option Addr} {c1 c2 c3 : Nat} (h : kNode.M W B (fun _ => True) m [.int .i64 m.kind, .slice A1 m.ints.length c1, .slice A2 m.texts.length c2, .slice A3 m.kids.length c3]) : NodeC W m A1 c1 A2 c2 A3 c3 := by
  obtain ⟨x1, x2, x3, e, h1, h2, h3⟩ := kNode_openM h
  injection e with _ e
  injection e with e1 e
  injection e with e2 e
  injection e with e3 _
  subst e1 e2 e3
  exact ⟨(Kd.R_reads' h1).2.1, (Kd.R_reads' h2).2.1, (Kd.R_reads' h3).2.1, (Kd.R_reads' h1).2.2, (Kd.R_reads' h2).2.2, (Kd.R_reads' h3).2.2⟩
theorem blk_set4 {W : World} {q rb i0 i1 i2 i3 : Nat} {o : Obj} (h : W.heap[q]? = some o) (hne : q ≠ rb) (u0 u1 u2 u3 : Value) : ((((W.setCell ⟨rb, i0, none⟩ u0).setCell ⟨rb, i1, none⟩ u1).setCell ⟨rb, i2, none⟩ u2).setCell ⟨rb, i3, none⟩ u3).heap[q]? = some o := by
  rw [Below.heap_setCell _ ⟨rb, i3, none⟩ u3 q hne, Below.heap_setCell _ ⟨rb, i2, none⟩ u2 q hne, Below.heap_setCell _ ⟨rb, i1, none⟩ u1 q hne, Below.heap_setCell _ ⟨rb, i0, none⟩ u0 q hne]
  exact h
theorem blk_at {W : World} {q : Nat} {cs : Array Value} {T : TypeId} (h : W.heap[q]? = some (.cells cs T (0, 0))) (i : Nat) {v : Value} (hv : cs[i]? = some v) : W.cell? ⟨q, i, none⟩ = some v := (blk_cell h i).trans hv
theorem setR_some {n m : Node} {l : List SetV} (h : setAll n l = some m) : setR n l = (m, 0) := by unfold setR; rw [h]
theorem setR_no {n : Node} {l : List SetV} (h : setAll n l = none) : setR n l = (nodez, 21) := by unfold setR; rw [h]
structure EdRel (m : Node) (v1 v2 v3 : Value) (w W : World) (mb cnt : Nat) (f : Lit → Option Value) (g : Nat) (cs : Array Value) (W1 : World) : Prop where
  node : kNode.M W1 W.heap.size (fun _ => True) m [.int .i64 m.kind, v1, v2, v3]
  box : W1.heap[g]? = some (.cells #[.int .i64 m.kind, v1, v2, v3] 26 (0, 0))
  res : W1.heap[W.heap.size + 1]? = some (.cells zeroN 26 (0, 0))
  ob : W1.heap[W.heap.size]? = some (.cells cs 61 (0, 0))
  map : MapF Tryd.prog 3 W1 mb cnt f
  grown : W.grownBy W1 (some mb)
  ge : W.heap.size + 1 < g
section
variable {m : Node} {v1 v2 v3 : Value} {w W : World} {mb cnt : Nat} {f : Lit → Option Value} {g : Nat} {cs : Array Value} {W1 W2 : World}
theorem EdRel.later (h : EdRel m v1 v2 v3 w W mb cnt f g cs W1) (hb : Below W1.heap.size W1 W2) : EdRel m v1 v2 v3 w W mb cnt f g cs W2 :=
  ⟨M_below h.node hb, (hb.block _ (blk_lt h.box)).trans h.box, (hb.block _ (blk_lt h.res)).trans h.res, (hb.block _ (blk_lt h.ob)).trans h.ob, h.map.below hb, grown_then h.grown hb, h.ge⟩
theorem EdRel.put {m2 : Node} {x1 x2 x3 : Value} (h : EdRel m v1 v2 v3 w W mb cnt f g cs W1) (hm : mb < W.heap.size) (hM : kNode.M W1 W.heap.size (fun _ => True) m2 [.int .i64 m2.kind, x1, x2, x3]) :
    EdRel m2 x1 x2 x3 w W mb cnt f g cs ((((W1.setCell ⟨g, 0, none⟩ (.int .i64 m2.kind)).setCell ⟨g, 1, none⟩ x1).setCell ⟨g, 2, none⟩ x2).setCell ⟨g, 3, none⟩ x3) := by
  have hg := h.ge
  obtain ⟨y1, y2, y3, e, r1, r2, r3⟩ := kNode_openM hM
  injection e with _ e
  injection e with e1 e
  injection e with e2 e
  injection e with e3 _
  subst e1 e2 e3
  have hb0 := h.box
  have hb1 := blk_set hb0 0 (.int .i64 m2.kind)
  have hb2 := blk_set hb1 1 x1
  have hb3 := blk_set hb2 2 x2
  refine ⟨kNode_mkM ?_ ?_ ?_, box4 h.box _ _ _ _, blk_set4 h.res (by omega) _ _ _ _, blk_set4 h.ob (by omega) _ _ _ _, MapF.set4 h.map (by omega) _ _ _ _, grown_set4 h.grown (by omega) _ _ _ _, h.ge⟩
  · exact R_type (R_type (R_type (R_type r1 hb0 (by decide) _ _) hb1 (by decide) _ _) hb2 (by decide) _ _) hb3 (by decide) _ _
  · exact R_type (R_type (R_type (R_type r2 hb0 (by decide) _ _) hb1 (by decide) _ _) hb2 (by decide) _ _) hb3 (by decide) _ _
  · exact R_type (R_type (R_type (R_type r3 hb0 (by decide) _ _) hb1 (by decide) _ _) hb2 (by decide) _ _) hb3 (by decide) _ _
theorem EdRel.kid {x3 : Value} {l : List Int} (h : EdRel m v1 v2 v3 w W mb cnt f g cs W1) (hm : mb < W.heap.size) (hR : (Kd.int .i64).R 3 W1 W.heap.size (fun _ => True) x3 l) :
    EdRel ⟨m.kind, m.ints, m.texts, l⟩ v1 v2 x3 w W mb cnt f g cs (W1.setCell ⟨g, 3, none⟩ x3) := by
  have hg := h.ge
  obtain ⟨y1, y2, y3, e, r1, r2, r3⟩ := kNode_openM h.node
  injection e with _ e
  injection e with e1 e
  injection e with e2 e
  injection e with e3 _
  subst e1 e2 e3
  have hb3 := blk_set h.box 3 x3
  refine ⟨kNode_mkM (R_type r1 h.box (by decide) _ _) (R_type r2 h.box (by decide) _ _) (R_type hR h.box (by decide) _ _), by simpa using hb3, ?_, ?_, h.map.setCell (a := ⟨g, 3, none⟩) (by show mb ≠ g; omega) _, grown_set h.grown (by omega) _, h.ge⟩
  · exact (Below.heap_setCell W1 ⟨g, 3, none⟩ x3 _ (by show W.heap.size + 1 ≠ g; omega)).trans h.res
  · exact (Below.heap_setCell W1 ⟨g, 3, none⟩ x3 _ (by show W.heap.size ≠ g; omega)).trans h.ob
theorem EdRel.ret {m2 : Node} {x1 x2 x3 : Value} (h : EdRel m v1 v2 v3 w W mb cnt f g cs W1) (hm : mb < W.heap.size) (hM : kNode.M W1 W.heap.size (fun _ => True) m2 [.int .i64 m2.kind, x1, x2, x3]) :
    ((((W1.setCell ⟨W.heap.size + 1, 0, none⟩ (.int .i64 m2.kind)).setCell ⟨W.heap.size + 1, 1, none⟩ x1).setCell ⟨W.heap.size + 1, 2, none⟩ x2).setCell ⟨W.heap.size + 1, 3, none⟩ x3).heap[W.heap.size + 1]? = some (.cells #[.int .i64 m2.kind, x1, x2, x3] 26 (0, 0)) ∧
    kNode.M ((((W1.setCell ⟨W.heap.size + 1, 0, none⟩ (.int .i64 m2.kind)).setCell ⟨W.heap.size + 1, 1, none⟩ x1).setCell ⟨W.heap.size + 1, 2, none⟩ x2).setCell ⟨W.heap.size + 1, 3, none⟩ x3) W.heap.size (fun _ => True) m2 [.int .i64 m2.kind, x1, x2, x3] ∧
    W.grownBy ((((W1.setCell ⟨W.heap.size + 1, 0, none⟩ (.int .i64 m2.kind)).setCell ⟨W.heap.size + 1, 1, none⟩ x1).setCell ⟨W.heap.size + 1, 2, none⟩ x2).setCell ⟨W.heap.size + 1, 3, none⟩ x3) (some mb) ∧
    MapF Tryd.prog 3 ((((W1.setCell ⟨W.heap.size + 1, 0, none⟩ (.int .i64 m2.kind)).setCell ⟨W.heap.size + 1, 1, none⟩ x1).setCell ⟨W.heap.size + 1, 2, none⟩ x2).setCell ⟨W.heap.size + 1, 3, none⟩ x3) mb cnt f := by
  obtain ⟨h1, h2⟩ := node_landed hM h.res
  exact ⟨h1, h2, grown_set4 h.grown (Nat.le_succ _) _ _ _ _, MapF.set4 h.map (by omega) _ _ _ _⟩
theorem EdRel.retZ (h : EdRel m v1 v2 v3 w W mb cnt f g cs W1) (hm : mb < W.heap.size) :
    ((((W1.setCell ⟨W.heap.size + 1, 0, none⟩ (.int .i64 0)).setCell ⟨W.heap.size + 1, 1, none⟩ (.slice none 0 0)).setCell ⟨W.heap.size + 1, 2, none⟩ (.slice none 0 0)).setCell ⟨W.heap.size + 1, 3, none⟩ (.slice none 0 0)).heap[W.heap.size + 1]? = some (.cells #[.int .i64 0, .slice none 0 0, .slice none 0 0, .slice none 0 0] 26 (0, 0)) ∧
    W.grownBy ((((W1.setCell ⟨W.heap.size + 1, 0, none⟩ (.int .i64 0)).setCell ⟨W.heap.size + 1, 1, none⟩ (.slice none 0 0)).setCell ⟨W.heap.size + 1, 2, none⟩ (.slice none 0 0)).setCell ⟨W.heap.size + 1, 3, none⟩ (.slice none 0 0)) (some mb) :=
  let r := h.ret (m2 := nodez) hm (nodez_M _ _)
  ⟨r.1, r.2.2.1⟩
end
end Go.Proofs.YtglfebpgdghlfaaDoor.L
end
section
namespace Go.Proofs.YtglfebpgdghlfaaDoor.L
open Go.RowKit Go.ChangeShapes Go.WideShapes Go.Proofs.YtglfebpgdghlfaaDoorW.PrintWords Go.Proofs.YtglfebpgdghlfaaDoorW.PrintLast Go.Proofs.YtglfebpgdghlfaaDoorW.PrintMore
attribute [local go_sem] max2_int min2_int max_two min_two max_three min_three max_four min_four
theorem setOne_kids {n m : Node} {x : SetV} (h : setOne n x = some m) : m.kids = n.kids ∧ m.ints.length = n.ints.length ∧ m.texts.length = n.texts.length ∧ m.kind = n.kind := by
  unfold setOne at h
  split at h
  · split at h
    · injection h with h
      subst h
      exact ⟨rfl, rfl, List.length_set, rfl⟩
    · cases h
  · split at h
    · injection h with h
      subst h
      exact ⟨rfl, List.length_set, rfl, rfl⟩
    · cases h
theorem setAll_kids {l : List SetV} : ∀ {n m : Node}, setAll n l = some m → m.kids = n.kids ∧ m.ints.length = n.ints.length ∧ m.texts.length = n.texts.length ∧ m.kind = n.kind := by
  induction l with
  | nil => intro n m h; injection h with h; subst h; exact ⟨rfl, rfl, rfl, rfl⟩
  | cons x l ih =>
    intro n m h
    have h' : l.foldl setStep (setOne n x) = some m := h
    cases hx : setOne n x with
    | none =>
      rw [hx] at h'
      have hn : ∀ r : List SetV, r.foldl setStep none = none := fun r => by
        induction r with
        | nil => rfl
        | cons y r ih => exact ih
      rw [hn] at h'
      cases h'
    | some n1 =>
      rw [hx] at h'
      obtain ⟨h1, h2, h3, h4⟩ := ih (n := n1) h'
      obtain ⟨g1, g2, g3, g4⟩ := setOne_kids hx
      exact ⟨h1.trans g1, h2.trans g2, h3.trans g3, h4.trans g4⟩
section
variable {a : Scene} {A : Option Addr} {c b mb cnt : Nat} {base : List Int} {v : Value} {out : List Node} {w : World}
set_option maxRecDepth 100000 in
set_option maxHeartbeats 8000000 in
theorem edit_any (W : World) (h : BRel a A c b mb cnt (imgF base) v out w W) (hlen : out.length = base.length) (hc : kNode.C w A a.nodes.length a.nodes) (hS : ∀ i : Nat, i < a.nodes.length → Small (nd a.nodes i)) (hKl : ∀ i : Nat, i < a.nodes.length → (nd a.nodes i).kids.length ≤ 400000) (hP : Places a.nodes) (hn : a.nodes.length ≤ 1000000) (hcn : cnt ≤ 1000000)
    (o : Opn) (B1 : Option Addr) (d1 : Nat) (B2 : Option Addr) (d2 : Nat) (A1 : Option Addr) (c1 : Nat) (A2 : Option Addr) (c2 : Nat) (A3 : Option Addr) (c3 : Nat) (hO : OpnC w o B1 d1 B2 d2 A1 c1 A2 c2 A3 c3) (hls : o.sets.length ≤ 1000000) (hle : o.script.length ≤ 1000000) (hb0 : -9223372036854775808 ≤ o.base) (hb1 : o.base ≤ 9223372036854775807) (hk3 : ¬ o.kind = 3) :
    Calls Tryd.prog 91 #[.pointer (some ⟨b, 0, none⟩), .agg (opV o B1 d1 B2 d2 A1 c1 A2 c2 A3 c3)] W (OnePost a A c b mb cnt base v out w o (changeN a.nodes base o) W) := by
  have HB := Aside0.mk h
  have HO := Aside0.mk hO
  have HC := Aside0.mk hc
  have HSm := Aside0.mk hS
  have HKl := Aside0.mk hKl
  have HPl := Aside0.mk hP
  have HLen := Aside0.mk hlen
  have HLs := Aside0.mk (And.intro hls hle)
  have hA0 := below_alloc (below_alloc (Below.refl W.heap.size W) (.cells (opV o B1 d1 B2 d2 A1 c1 A2 c2 A3 c3) 61)) (.cells zeroN 26)
  have HA := Aside0.mk hA0
  have huo := Tryd.underlying61
  have hun := Tryd.underlying26
  have HRes := Aside0.mk (show ((W.alloc (.cells (opV o B1 d1 B2 d2 A1 c1 A2 c2 A3 c3) 61)).alloc (.cells zeroN 26)).heap[W.heap.size + 1]? = some (.cells zeroN 26 (0, 0)) from by
    have := heap_alloc_new (W.alloc (.cells (opV o B1 d1 B2 d2 A1 c1 A2 c2 A3 c3) 61)) (.cells zeroN 26)
    simpa using this)
  have HOb := Aside0.mk (show ((W.alloc (.cells (opV o B1 d1 B2 d2 A1 c1 A2 c2 A3 c3) 61)).alloc (.cells zeroN 26)).heap[W.heap.size]? = some (.cells (opV o B1 d1 B2 d2 A1 c1 A2 c2 A3 c3) 61 (0, 0)) from by
    refine ((below_alloc (Below.refl _ _) (.cells zeroN 26)).block _ (by simp)).trans ?_
    simpa using heap_alloc_new W (.cells (opV o B1 d1 B2 d2 A1 c1 A2 c2 A3 c3) 61))
  have HBase : Aside0 (baseOf o = o.base) := ⟨if_neg hk3⟩
  have HMb := Aside0.mk (MapF.lt h.map)
  clear h hO hA0 hc hS hP hlen hKl hls hle
  go_enter Tryd.func91, Tryd.ntmps91
  go_wp2_with fail
  refine (empty_any o.node A1 c1 A2 c2 A3 c3 _).mono ?_
  rintro e w5 ⟨rfl, hB5⟩
  have HRes5 := Aside0.mk ((hB5.block _ (blk_lt HRes.out)).trans HRes.out)
  have HOb5 := Aside0.mk ((hB5.block _ (blk_lt HOb.out)).trans HOb.out)
  have k1 : w5.cell? ⟨W.heap.size, 1, none⟩ = some (.int .i64 o.base) := blk_at HOb5.out 1 rfl
  have hrb5 : W.heap.size + 1 < w5.heap.size := blk_lt HRes5.out
  have HB5 := Aside0.mk (below_step HA.out hB5)
  clear hB5 HRes HA HOb
  by_cases hem : emptyN o.node = true
  · rw [hem]
    by_cases htk : takes a.nodes.length base o.base = true
    · have HE := Aside0.mk (show changeN a.nodes base o = editN (imgN base (nd a.nodes o.base.toNat)) o from if_pos ⟨hem, htk⟩)
      obtain ⟨ht0, ht1, htn⟩ := of_decide_eq_true htk
      obtain ⟨i, hi⟩ := Int.eq_ofNat_of_zero_le ht0
      rw [hi] at HE HBase k1 ht1 htn
      rw [Int.toNat_natCast] at HE
      have HTn := Aside0.mk htn
      clear hem htk ht0 hi htn hb0 hb1
      go_wp2_with fail
      refine (take_yes w5 (HB.out.later HB5.out) HLen.out HC.out HSm.out HPl.out hn hcn i (by omega) HTn.out).mono ?_
      rintro e w6 ⟨v1, v2, v3, rfl, hM6, hR6, hg6⟩
      have HMs := Aside0.mk (show Small (imgN base (nd a.nodes i)) ∧ (imgN base (nd a.nodes i)).kids.length ≤ 400000 from by
        have h1 := HSm.out i (by omega)
        have h2 := HKl.out i (by omega)
        exact ⟨⟨h1.1, h1.2.1, by show (List.map _ _).length ≤ _; rw [List.length_map]; exact h1.2.2⟩, by show (List.map _ _).length ≤ _; rw [List.length_map]; exact h2⟩)
      generalize imgN base (nd a.nodes i) = m at HE hM6 HMs ⊢
      obtain ⟨A5, c5, A6, c6, A7, c7, rfl, rfl, rfl⟩ := M_slices hM6
      have hne : ∀ {q : Nat} {cs : Array Value} {T : TypeId}, w5.heap[q]? = some (.cells cs T (0, 0)) → some q ≠ some mb := fun hq e => by
        injection e with e
        exact (HB.out.later HB5.out).map.not_cells (by rw [← e]; exact hq)
      have HR7 := Aside0.mk (show EdRel m (.slice A5 m.ints.length c5) (.slice A6 m.texts.length c6) (.slice A7 m.kids.length c7) w W mb (cnt + 1) (imgF (base ++ [(i : Int)])) w6.heap.size (opV o B1 d1 B2 d2 A1 c1 A2 c2 A3 c3) (w6.alloc (.cells #[.int .i64 m.kind, .slice A5 m.ints.length c5, .slice A6 m.texts.length c6, .slice A7 m.kids.length c7] 26)) from by
        have hb := below_alloc (Below.refl w6.heap.size w6) (.cells #[.int .i64 m.kind, .slice A5 m.ints.length c5, .slice A6 m.texts.length c6, .slice A7 m.kids.length c7] 26)
        have r6 := (hg6.block _ hrb5 (hne HRes5.out)).trans HRes5.out
        have o6 := (hg6.block _ (blk_lt HOb5.out) (hne HOb5.out)).trans HOb5.out
        exact ⟨M_below (M_lower hM6 HB5.out.size) hb, by simpa using heap_alloc_new w6 _, (hb.block _ (blk_lt r6)).trans r6, (hb.block _ (blk_lt o6)).trans o6, hR6.map.below hb, grown_then (grown_of_below HB5.out hg6) hb, blk_lt r6⟩)
      have k2 : (w6.alloc (.cells #[.int .i64 m.kind, .slice A5 m.ints.length c5, .slice A6 m.texts.length c6, .slice A7 m.kids.length c7] 26)).cell? ⟨W.heap.size, 2, none⟩ = some (.slice B1 o.sets.length d1) := blk_at HR7.out.ob 2 rfl
      clear hM6 hR6 hg6 k1 hne
      go_wp2_with fail
      generalize w6.alloc (.cells #[.int .i64 m.kind, .slice A5 m.ints.length c5, .slice A6 m.texts.length c6, .slice A7 m.kids.length c7] 26) = W7 at HR7 ⊢
      generalize w6.heap.size = g at HR7 ⊢
      clear k2
      have HBl7 := Aside0.mk (HB.out.below.grown HR7.out.grown HB.out.below.size (fun q hq => by injection hq with hq; have := HB.out.mge; omega))
      refine (fset_any m A5 c5 A6 c6 A7 c7 B1 d1 o.sets W7 (M_nodeC HR7.out.node) HMs.out.1 (Kd.C_below HO.out.s HBl7.out) HLs.out.1).mono ?_
      have hge := HR7.out.ge
      have hmb := HMb.out
      have hne2 : W.heap.size + 1 ≠ g := by omega
      cases hsa : setAll m o.sets with
      | none =>
        rw [setR_no hsa]
        have HE2 := Aside0.mk (show changeN a.nodes base o = (nodez, 21) from by rw [HE.out]; unfold editN; rw [hsa])
        generalize nodez = z
        rintro e w8 ⟨y1, y2, y3, rfl, hM8, hB8⟩
        dsimp only at hM8 ⊢
        obtain ⟨A8, c8, A9, c9, A10, c10, rfl, rfl, rfl⟩ := M_slices hM8
        have hR8' := HR7.out.later hB8
        have HR8 := Aside0.mk (hR8'.put hmb (M_lower hM8 HR7.out.grown.size))
        have HZ := Aside0.mk (HR8.out.retZ hmb)
        obtain ⟨f0, f0f, f1, f1f, f2, f2f, f3, f3f⟩ := slots4 hR8'.box (.int .i64 z.kind) (.slice A8 z.ints.length c8) (.slice A9 z.texts.length c9)
        obtain ⟨e0, e0f, e1, e1f, e2, e2f, e3, e3f⟩ := slots4 HR8.out.res (.int .i64 0) (.slice none 0 0) (.slice none 0 0)
        clear hsa hR8' hM8 hB8
        go_wp2
        have h4 := res4 HZ.out.1
        exact bodyPost_ret (v := .tuple #[.agg #[.int .i64 0, .slice none 0 0, .slice none 0 0, .slice none 0 0], .int .i64 21]) (by simp [results, Tryd.results91, go_sem, h4]) rfl (OnePost.bad HE2.out HZ.out.2)
      | some m2 =>
        rw [setR_some hsa]
        obtain ⟨hk2, -, -, -⟩ := setAll_kids hsa
        have HKl2 := Aside0.mk (show m2.kids.length ≤ 400000 from by rw [hk2]; exact HMs.out.2)
        have HE2 := Aside0.mk (show changeN a.nodes base o = if (app m2.kids o.script).2 = true then (⟨m2.kind, m2.ints, m2.texts, (app m2.kids o.script).1⟩, 0) else (nodez, 21) from by rw [HE.out]; unfold editN; rw [hsa])
        rintro e w8 ⟨y1, y2, y3, rfl, hM8, hB8⟩
        obtain ⟨A8, c8, A9, c9, A10, c10, rfl, rfl, rfl⟩ := M_slices hM8
        have hR8' := HR7.out.later hB8
        have HR8 := Aside0.mk (hR8'.put hmb (M_lower hM8 HR7.out.grown.size))
        obtain ⟨f0, f0f, f1, f1f, f2, f2f, f3, f3f⟩ := slots4 hR8'.box (.int .i64 m2.kind) (.slice A8 m2.ints.length c8) (.slice A9 m2.texts.length c9)
        have k2 : w8.cell? ⟨W.heap.size, 3, none⟩ = some (.slice B2 o.script.length d2) := blk_at hR8'.ob 3 rfl
        have k3 : ((((w8.setCell ⟨g, 0, none⟩ (.int .i64 m2.kind)).setCell ⟨g, 1, none⟩ (.slice A8 m2.ints.length c8)).setCell ⟨g, 2, none⟩ (.slice A9 m2.texts.length c9)).setCell ⟨g, 3, none⟩ (.slice A10 m2.kids.length c10)).cell? ⟨W.heap.size, 3, none⟩ = some (.slice B2 o.script.length d2) := blk_at HR8.out.ob 3 rfl
        have k4 : ((((w8.setCell ⟨g, 0, none⟩ (.int .i64 m2.kind)).setCell ⟨g, 1, none⟩ (.slice A8 m2.ints.length c8)).setCell ⟨g, 2, none⟩ (.slice A9 m2.texts.length c9)).setCell ⟨g, 3, none⟩ (.slice A10 m2.kids.length c10)).cell? ⟨g, 3, none⟩ = some (.slice A10 m2.kids.length c10) := blk_at HR8.out.box 3 rfl
        have hnew : W.heap.size ≠ g := by omega
        clear hsa hk2 hR8' hM8 hB8
        go_wp2_with fail
        clear f0 f0f f1 f1f f2 f2f f3 f3f k2 k3 k4
        generalize ((((w8.setCell ⟨g, 0, none⟩ (.int .i64 m2.kind)).setCell ⟨g, 1, none⟩ (.slice A8 m2.ints.length c8)).setCell ⟨g, 2, none⟩ (.slice A9 m2.texts.length c9)).setCell ⟨g, 3, none⟩ (.slice A10 m2.kids.length c10)) = W9 at HR8 ⊢
        have HBl9 := Aside0.mk (HB.out.below.grown HR8.out.grown HB.out.below.size (fun q hq => by injection hq with hq; have := HB.out.mge; omega))
        have hN9 := M_nodeC HR8.out.node
        refine (apply_any A10 c10 m2.kids B2 d2 o.script W9 hN9.k hN9.l3 (Kd.C_below HO.out.e HBl9.out) HKl2.out HLs.out.2).mono ?_
        rintro e w10 ⟨y, rfl, hR10, hB10⟩
        have HR10 := Aside0.mk (HR8.out.later hB10)
        have hK10 := Kd.R_lower hR10 HR8.out.grown.size
        generalize app m2.kids o.script = q at HE2 hK10 ⊢
        obtain ⟨ql, qb⟩ := q
        obtain ⟨A11, c11, hy⟩ := Kd.R_slice hK10
        subst hy
        have HR11 := Aside0.mk (HR10.out.kid hmb hK10)
        have f3 : w10.cell? ⟨g, 3, none⟩ = some (.slice A10 m2.kids.length c10) := blk_at HR10.out.box 3 rfl
        have f3f := blk_frozen HR10.out.box 3
        clear hN9 hR10 hB10 hK10
        cases qb with
        | true =>
          have HE3 := Aside0.mk (HE2.out.trans (if_pos rfl))
          have HZ := Aside0.mk (HR11.out.ret hmb HR11.out.node)
          obtain ⟨e0, e0f, e1, e1f, e2, e2f, e3, e3f⟩ := slots4 HR11.out.res (.int .i64 m2.kind) (.slice A8 m2.ints.length c8) (.slice A9 m2.texts.length c9)
          have b0 : (w10.setCell ⟨g, 3, none⟩ (.slice A11 ql.length c11)).cell? ⟨g, 0, none⟩ = some (.int .i64 m2.kind) := blk_at HR11.out.box 0 rfl
          have b1 : (w10.setCell ⟨g, 3, none⟩ (.slice A11 ql.length c11)).cell? ⟨g, 1, none⟩ = some (.slice A8 m2.ints.length c8) := blk_at HR11.out.box 1 rfl
          have b2 : (w10.setCell ⟨g, 3, none⟩ (.slice A11 ql.length c11)).cell? ⟨g, 2, none⟩ = some (.slice A9 m2.texts.length c9) := blk_at HR11.out.box 2 rfl
          have b3 : (w10.setCell ⟨g, 3, none⟩ (.slice A11 ql.length c11)).cell? ⟨g, 3, none⟩ = some (.slice A11 ql.length c11) := blk_at HR11.out.box 3 rfl
          go_wp2
          have h4 := res4 HZ.out.1
          refine bodyPost_ret (v := .tuple #[.agg #[.int .i64 m2.kind, .slice A8 m2.ints.length c8, .slice A9 m2.texts.length c9, .slice A11 ql.length c11], .int .i64 0]) (by simp [results, Tryd.results91, go_sem, h4]) rfl
            ⟨_, _, _, by rw [HE3.out], by rw [HE3.out]; exact HZ.out.2.1, fun _ => ⟨cnt + 1, Nat.le_refl _, ?_⟩, HZ.out.2.2.1⟩
          rw [HBase.out]
          exact HB.out.grow HZ.out.2.2.1 HZ.out.2.2.2
        | false =>
          have HE3 := Aside0.mk (HE2.out.trans (if_neg Bool.false_ne_true))
          have HZ := Aside0.mk (HR11.out.retZ hmb)
          obtain ⟨e0, e0f, e1, e1f, e2, e2f, e3, e3f⟩ := slots4 HR11.out.res (.int .i64 0) (.slice none 0 0) (.slice none 0 0)
          go_wp2
          have h4 := res4 HZ.out.1
          exact bodyPost_ret (v := .tuple #[.agg #[.int .i64 0, .slice none 0 0, .slice none 0 0, .slice none 0 0], .int .i64 21]) (by simp [results, Tryd.results91, go_sem, h4]) rfl (OnePost.bad HE3.out HZ.out.2)
    · have HE := Aside0.mk (show changeN a.nodes base o = (nodez, 21) from if_neg (fun hh => htk hh.2))
      have HTk := Aside0.mk (Bool.eq_false_iff.2 htk)
      clear hem htk
      go_wp2_with fail
      refine (take_no w5 (HB.out.later HB5.out) o.base hb0 hb1 HTk.out).mono ?_
      rintro e w6 ⟨rfl, hB6⟩
      have hres6 := (hB6.block _ hrb5).trans HRes5.out
      have HZ := Aside0.mk (box4 hres6 (.int .i64 0) (.slice none 0 0) (.slice none 0 0) (.slice none 0 0))
      have HB6 := Aside0.mk (below_alloc (below_set4 (i0 := 0) (i1 := 1) (i2 := 2) (i3 := 3) (u0 := .int .i64 0) (u1 := .slice none 0 0) (u2 := .slice none 0 0) (u3 := .slice none 0 0) (below_step HB5.out hB6) (Nat.le_succ W.heap.size)) (.cells zeroN 26))
      have hrb6 : W.heap.size + 1 < w6.heap.size := blk_lt hres6
      obtain ⟨e0, e0f, e1, e1f, e2, e2f, e3, e3f⟩ := slots4 hres6 (.int .i64 0) (.slice none 0 0) (.slice none 0 0)
      clear hres6 hB6 k1
      go_wp2
      have h4 := res4a HZ.out (.cells zeroN 26)
      exact bodyPost_ret (v := .tuple #[.agg #[.int .i64 0, .slice none 0 0, .slice none 0 0, .slice none 0 0], .int .i64 21]) (by simp [results, Tryd.results91, go_sem, h4]) rfl (OnePost.bad HE.out (below_grown HB6.out))
  · have HE := Aside0.mk (show changeN a.nodes base o = (nodez, 21) from if_neg (fun hh => hem hh.1))
    rw [Bool.eq_false_iff.2 hem]
    have HZ := Aside0.mk (box4 HRes5.out (.int .i64 0) (.slice none 0 0) (.slice none 0 0) (.slice none 0 0))
    have HB6 := Aside0.mk (below_set4 (i0 := 0) (i1 := 1) (i2 := 2) (i3 := 3) (u0 := .int .i64 0) (u1 := .slice none 0 0) (u2 := .slice none 0 0) (u3 := .slice none 0 0) HB5.out (Nat.le_succ W.heap.size))
    obtain ⟨e0, e0f, e1, e1f, e2, e2f, e3, e3f⟩ := slots4 HRes5.out (.int .i64 0) (.slice none 0 0) (.slice none 0 0)
    clear hem k1
    go_wp2
    have h4 := res4 HZ.out
    exact bodyPost_ret (v := .tuple #[.agg #[.int .i64 0, .slice none 0 0, .slice none 0 0, .slice none 0 0], .int .i64 21]) (by simp [results, Tryd.results91, go_sem, h4]) rfl (OnePost.bad HE.out (below_grown HB6.out))
end
end Go.Proofs.YtglfebpgdghlfaaDoor.L
end
section
namespace Go.Proofs.YtglfebpgdghlfaaDoor.L
open Go.RowKit Go.ChangeShapes Go.WideShapes Go.Proofs.YtglfebpgdghlfaaDoorW.PrintWords Go.Proofs.YtglfebpgdghlfaaDoorW.PrintLast Go.Proofs.YtglfebpgdghlfaaDoorW.PrintMore
attribute [local go_sem] max2_int min2_int max_two min_two max_three min_three max_four min_four
def OkN (b : Nat) (n : Node) : Prop := n.ints.length ≤ 1000000 ∧ n.texts.length ≤ 1000000 ∧ n.kids.length ≤ b ∧ ∀ x ∈ n.texts, x.size ≤ 1000000
theorem OkN.small {b : Nat} {n : Node} (h : OkN b n) (hb : b ≤ 1000000) : Small n := ⟨h.1, h.2.1, Nat.le_trans h.2.2.1 hb⟩
theorem OkN.texts {b : Nat} {n : Node} (h : OkN b n) : TextsSmall n := fun j hj => by
  have h1 : str n.texts j = n.texts[j] := by unfold str; rw [List.getD_eq_getElem?_getD, List.getElem?_eq_getElem hj]; rfl
  rw [h1]
  exact h.2.2.2 _ (List.getElem_mem hj)
structure OpOk (o : Opn) : Prop where
  node : OkN 5000 o.node
  sets : o.sets.length ≤ 1000000
  script : o.script.length ≤ 1000
  strs : ∀ x ∈ o.sets, x.s.size ≤ 1000000
  k0 : -9223372036854775808 ≤ o.kind
  k1 : o.kind ≤ 9223372036854775807
  b0 : -9223372036854775808 ≤ o.base
  b1 : o.base ≤ 9223372036854775807
theorem setOne_texts {n m : Node} {x : SetV} (h : setOne n x = some m) : ∀ y ∈ m.texts, y ∈ n.texts ∨ y = x.s := by
  unfold setOne at h
  split at h
  · split at h
    · injection h with h
      subst h
      intro y hy
      rcases List.mem_or_eq_of_mem_set hy with h | h
      · exact .inl h
      · exact .inr h
    · cases h
  · split at h
    · injection h with h
      subst h
      exact fun y hy => .inl hy
    · cases h
theorem setAll_texts {l : List SetV} : ∀ {n m : Node}, setAll n l = some m → ∀ y ∈ m.texts, y ∈ n.texts ∨ ∃ x ∈ l, y = x.s := by
  induction l with
  | nil => intro n m h; injection h with h; subst h; exact fun y hy => .inl hy
  | cons x l ih =>
    intro n m h
    have h' : l.foldl setStep (setOne n x) = some m := h
    cases hx : setOne n x with
    | none =>
      rw [hx] at h'
      have hn : ∀ r : List SetV, r.foldl setStep none = none := fun r => by
        induction r with
        | nil => rfl
        | cons y r ih => exact ih
      rw [hn] at h'
      cases h'
    | some n1 =>
      rw [hx] at h'
      intro y hy
      rcases ih (n := n1) h' y hy with h1 | ⟨z, hz, e⟩
      · rcases setOne_texts hx y h1 with h2 | h2
        · exact .inl h2
        · exact .inr ⟨x, by simp, h2⟩
      · exact .inr ⟨z, by simp [hz], e⟩
theorem runE_len {a : List Int} {l : List Ed} : ∀ k, k ≤ l.length → ∀ o r, runE a (l.take k) = some (o, r) → o.length + r.length ≤ a.length + k := fun k => by
  induction k with
  | zero => intro _ o r h; rw [List.take_zero] at h; injection h with h; injection h with h1 h2; subst h1 h2; simp
  | succ k ih =>
    intro hk o r h
    rw [runE_step (by omega)] at h
    cases hp : runE a (l.take k) with
    | none => rw [hp] at h; cases h
    | some q =>
      obtain ⟨o1, r1⟩ := q
      have h1 := ih (by omega) o1 r1 hp
      rw [hp] at h
      unfold stepE at h
      simp only [] at h
      split at h
      · injection h with h; injection h with h2 h3; subst h2 h3; simp; omega
      · split at h
        · rename_i hh
          injection h with h; injection h with h2 h3; subst h2 h3
          rw [List.length_append, List.length_drop]
          split
          · rw [List.length_take]; omega
          · simp; omega
        · cases h
theorem app_len (a : List Int) (l : List Ed) : (app a l).1.length ≤ a.length + l.length := by
  unfold app
  split
  · rename_i o h
    have := runE_len (a := a) (l := l) l.length (Nat.le_refl _) o [] (by rw [List.take_length]; exact h)
    simpa using this
  · simp
theorem oneN_ok {a : List Node} {base : List Int} {o : Opn} (ha : ∀ i : Nat, i < a.length → OkN 4000 (nd a i)) (ho : OpOk o) (h0 : (oneN a base o).2 = 0) : OkN 5000 (oneN a base o).1 := by
  have img_ok : ∀ p : Int, takes a.length base p = true → OkN 4000 (imgN base (nd a p.toNat)) := fun p hp => by
    obtain ⟨h1, h2, _⟩ := of_decide_eq_true hp
    have h3 := ha p.toNat (by omega)
    exact ⟨h3.1, h3.2.1, by show (List.map _ _).length ≤ _; rw [List.length_map]; exact h3.2.2.1, h3.2.2.2⟩
  have bad : ∀ {b : Nat}, OkN b nodez := fun {b} => ⟨by simp [nodez], by simp [nodez], by simp [nodez], fun x hx => by simp [nodez] at hx⟩
  unfold oneN
  split
  · unfold keepN
    split
    · rename_i h
      have h1 := img_ok _ h.2.2.2
      exact ⟨h1.1, h1.2.1, Nat.le_trans h1.2.2.1 (by omega), h1.2.2.2⟩
    · exact bad
  · split
    · unfold changeN
      split
      · rename_i h
        have h1 := img_ok _ h.2
        unfold editN
        split
        · exact bad
        · rename_i m hm
          obtain ⟨g1, g2, g3, g4⟩ := setAll_kids hm
          have gt := setAll_texts hm
          split
          · refine ⟨by show m.ints.length ≤ _; rw [g2]; exact h1.1, by show m.texts.length ≤ _; rw [g3]; exact h1.2.1, ?_, fun x hx => ?_⟩
            · have := app_len m.kids o.script
              rw [g1] at this
              have h2 := h1.2.2.1
              have h3 := ho.script
              show (app m.kids o.script).1.length ≤ 5000
              rw [g1]
              omega
            · rcases gt x hx with h2 | ⟨y, hy, e⟩
              · exact h1.2.2.2 x h2
              · rw [e]; exact ho.strs y hy
          · exact bad
      · exact bad
    · split
      · unfold freshN
        split
        · exact ho.node
        · exact bad
      · exact bad
theorem rows_ok {out : List Node} (h : ∀ i : Nat, i < out.length → OkN 5000 (nd out i)) (hn : out.length ≤ 60) : rows out ≤ 400000 := by
  have h1 : rows out ≤ out.length * (5000 + 1) := by
    unfold rows
    have key : ∀ l : List Nat, (∀ x ∈ l, wt out x ≤ 5001) → (l.map (wt out)).sum ≤ l.length * 5001 := fun l => by
      induction l with
      | nil => intro _; simp
      | cons x l ih =>
        intro hl
        have h2 := ih (fun y hy => hl y (by simp [hy]))
        have h3 := hl x (by simp)
        rw [List.map_cons, List.sum_cons, List.length_cons, Nat.succ_mul]
        omega
    have := key (List.range out.length) (fun x hx => by
      have := (h x (List.mem_range.1 hx)).2.2.1
      unfold wt
      omega)
    rwa [List.length_range] at this
  have h2 : out.length * 5001 ≤ 60 * 5001 := Nat.mul_le_mul hn (Nat.le_refl _)
  omega
theorem nd_snoc {out : List Node} {m : Node} {P : Node → Prop} (h : ∀ i : Nat, i < out.length → P (nd out i)) (hm : P m) : ∀ i : Nat, i < (out ++ [m]).length → P (nd (out ++ [m]) i) := fun i hi => by
  rw [List.length_append, List.length_singleton] at hi
  by_cases e : i < out.length
  · have : nd (out ++ [m]) i = nd out i := by unfold nd; rw [List.getD_eq_getElem?_getD, List.getD_eq_getElem?_getD, List.getElem?_append_left e]
    rw [this]; exact h i e
  · have e' : i = out.length := by omega
    have : nd (out ++ [m]) i = m := by unfold nd; rw [List.getD_eq_getElem?_getD, List.getElem?_append_right (by omega), e']; simp
    rw [this]; exact hm
end Go.Proofs.YtglfebpgdghlfaaDoor.L
end
section
namespace Go.Proofs.YtglfebpgdghlfaaDoor.L
open Go.RowKit Go.ChangeShapes Go.WideShapes Go.Proofs.YtglfebpgdghlfaaDoorW.PrintWords Go.Proofs.YtglfebpgdghlfaaDoorW.PrintLast Go.Proofs.YtglfebpgdghlfaaDoorW.PrintMore
attribute [local go_sem] max2_int min2_int max_two min_two max_three min_three max_four min_four
theorem NodePost.bad {r : Node × Int} {w w' : World} (hr : r = (nodez, 21)) (hB : Below w.heap.size w w') : NodePost r w (.returned (.tuple #[.agg #[.int .i64 0, .slice none 0 0, .slice none 0 0, .slice none 0 0], .int .i64 21])) w' := by
  subst hr
  exact ⟨_, _, _, rfl, nodez_M _ _, hB⟩
structure OneBx (w : World) (A : Option Addr) (c : Nat) (a : Scene) (cs : Array Value) (W : World) : Prop where
  below : Below w.heap.size w W
  sb : W.heap[w.heap.size]? = some (.cells #[.slice A a.nodes.length c, .int .i64 a.root] 39 (0, 0))
  ob : W.heap[w.heap.size + 1]? = some (.cells cs 61 (0, 0))
  res : W.heap[w.heap.size + 2]? = some (.cells zeroN 26 (0, 0))
  non : W.heap[w.heap.size + 3]? = some (.cells zeroN 26 (0, 0))
theorem OneBx.later {w : World} {A : Option Addr} {c : Nat} {a : Scene} {cs : Array Value} {W W1 : World} (h : OneBx w A c a cs W) (hb : Below W.heap.size W W1) : OneBx w A c a cs W1 :=
  ⟨below_step h.below hb, (hb.block _ (blk_lt h.sb)).trans h.sb, (hb.block _ (blk_lt h.ob)).trans h.ob, (hb.block _ (blk_lt h.res)).trans h.res, (hb.block _ (blk_lt h.non)).trans h.non⟩
theorem OneBx.far {w : World} {A : Option Addr} {c : Nat} {a : Scene} {cs : Array Value} {W : World} {g i : Nat} (h : OneBx w A c a cs W) (hg : w.heap.size + 3 < g) (u : Value) : OneBx w A c a cs (W.setCell ⟨g, i, none⟩ u) :=
  ⟨below_set h.below (by omega), (Below.heap_setCell W ⟨g, i, none⟩ u _ (by show w.heap.size ≠ g; omega)).trans h.sb, (Below.heap_setCell W ⟨g, i, none⟩ u _ (by show w.heap.size + 1 ≠ g; omega)).trans h.ob, (Below.heap_setCell W ⟨g, i, none⟩ u _ (by show w.heap.size + 2 ≠ g; omega)).trans h.res, (Below.heap_setCell W ⟨g, i, none⟩ u _ (by show w.heap.size + 3 ≠ g; omega)).trans h.non⟩
theorem OneBx.far4 {w : World} {A : Option Addr} {c : Nat} {a : Scene} {cs : Array Value} {W : World} {g i0 i1 i2 i3 : Nat} (h : OneBx w A c a cs W) (hg : w.heap.size + 3 < g) (u0 u1 u2 u3 : Value) : OneBx w A c a cs ((((W.setCell ⟨g, i0, none⟩ u0).setCell ⟨g, i1, none⟩ u1).setCell ⟨g, i2, none⟩ u2).setCell ⟨g, i3, none⟩ u3) :=
  (((h.far hg u0).far hg u1).far hg u2).far hg u3
theorem OutRel.m {m : Node} {v1 v2 v3 : Value} {w : World} {rb g : Nat} {W : World} (h : OutRel m v1 v2 v3 w rb g W) : kNode.M W w.heap.size (fun _ => True) m [.int .i64 m.kind, v1, v2, v3] := kNode_mkM h.r1 h.r2 h.r3
end Go.Proofs.YtglfebpgdghlfaaDoor.L
end
section
namespace Go.Proofs.YtglfebpgdghlfaaDoor.L
open Go.RowKit Go.ChangeShapes Go.WideShapes Go.Proofs.YtglfebpgdghlfaaDoorW.PrintWords Go.Proofs.YtglfebpgdghlfaaDoorW.PrintLast Go.Proofs.YtglfebpgdghlfaaDoorW.PrintMore
attribute [local go_sem] max2_int min2_int max_two min_two max_three min_three max_four min_four
open Go.Proofs.YtglfebpgdghlfaaDoor.PUpgradeUps
structure LedInv (ns : List Node) (K : List Int) (met : List Bool) (vs work : List Int) : Prop where
  len : met.length = ns.length
  tell : ∀ i : Nat, i < ns.length → rdOf false met (i : Int) = decide ((i : Int) ∈ vs)
  vpl : ∀ x ∈ vs, 0 ≤ x ∧ x < (ns.length : Int)
  wpl : ∀ x ∈ work, 0 ≤ x ∧ x < (ns.length : Int)
  vin : ∀ x ∈ vs, Rch ns K x
  win : ∀ x ∈ work, Rch ns K x
  k0 : ∀ k ∈ K, k ∈ vs ∨ k ∈ work
  clo : ∀ x ∈ vs, ∀ k ∈ kids ns x, k ∈ vs ∨ k ∈ work
theorem LedInv.done {ns : List Node} {K : List Int} {met : List Bool} {vs : List Int} (h : LedInv ns K met vs []) (x : Int) : Rch ns K x ↔ x ∈ vs := by
  refine ⟨fun hr => ?_, h.vin x⟩
  induction hr with
  | base hk => exact (h.k0 _ hk).resolve_right (by simp)
  | step _ hk ih => exact (h.clo _ ih _ hk).resolve_right (by simp)
theorem LedInv.skip {ns : List Node} {K : List Int} {met : List Bool} {vs work : List Int} {x : Int} (h : LedInv ns K met vs (x :: work)) (hx : x ∈ vs) : LedInv ns K met vs work :=
  ⟨h.len, h.tell, h.vpl, fun y hy => h.wpl y (by simp [hy]), h.vin, fun y hy => h.win y (by simp [hy]),
    fun k hk => (h.k0 k hk).elim .inl (fun hm => by
      rcases List.mem_cons.1 hm with rfl | hm
      · exact .inl hx
      · exact .inr hm),
    fun y hy k hk => (h.clo y hy k hk).elim .inl (fun hm => by
      rcases List.mem_cons.1 hm with rfl | hm
      · exact .inl hx
      · exact .inr hm)⟩
theorem LedInv.meet {ns : List Node} {K : List Int} {met : List Bool} {vs work : List Int} {x : Int} (hP : Places ns) (h : LedInv ns K met vs (x :: work)) (hx : ¬ x ∈ vs) : LedInv ns K (met.set x.toNat true) (x :: vs) (work ++ kids ns x) := by
  have hxp := h.wpl x (by simp)
  obtain ⟨q, rfl⟩ : ∃ q : Nat, x = (q : Int) := ⟨x.toNat, by omega⟩
  have hkp : ∀ k ∈ kids ns q, 0 ≤ k ∧ k < (ns.length : Int) := fun k hk => hP q (by omega) k hk
  refine ⟨by rw [List.length_set]; exact h.len, fun i hi => ?_, fun y hy => ?_, fun y hy => ?_, fun y hy => ?_, fun y hy => ?_, fun k hk => ?_, fun y hy k hk => ?_⟩
  · have ht := h.tell i hi
    unfold rdOf at ht ⊢
    rw [Int.toNat_natCast] at ht ⊢
    rw [Int.toNat_natCast, List.getD_eq_getElem?_getD, List.getElem?_set]
    rw [List.getD_eq_getElem?_getD] at ht
    by_cases e : q = i
    · subst e
      rw [if_pos rfl, if_pos (by rw [h.len]; exact hi)]
      simp
    · rw [if_neg e, ht]
      have : ((i : Int) ∈ (q : Int) :: vs) ↔ (i : Int) ∈ vs := by
        rw [List.mem_cons]
        exact ⟨fun h => h.resolve_left (fun e' => e (by omega)), .inr⟩
      exact decide_eq_decide.2 this.symm
  · rcases List.mem_cons.1 hy with rfl | hy
    · exact hxp
    · exact h.vpl y hy
  · rcases List.mem_append.1 hy with hy | hy
    · exact h.wpl y (by simp [hy])
    · exact hkp y hy
  · rcases List.mem_cons.1 hy with rfl | hy
    · exact h.win _ (by simp)
    · exact h.vin y hy
  · rcases List.mem_append.1 hy with hy | hy
    · exact h.win y (by simp [hy])
    · exact .step (h.win _ (List.mem_cons_self)) hy
  · rcases h.k0 k hk with hm | hm
    · exact .inl (by simp [hm])
    · rcases List.mem_cons.1 hm with rfl | hm
      · exact .inl (by simp)
      · exact .inr (by simp [hm])
  · rcases List.mem_cons.1 hy with rfl | hy
    · exact .inr (by simp [hk])
    · rcases h.clo y hy k hk with hm | hm
      · exact .inl (by simp [hm])
      · rcases List.mem_cons.1 hm with rfl | hm
        · exact .inl (by simp)
        · exact .inr (by simp [hm])
def Tells (ns : List Node) (K : List Int) (r : List Bool) : Prop := r.length = ns.length ∧ ∀ i : Nat, i < ns.length → (rdOf false r (i : Int) = true ↔ Rch ns K (i : Int))
theorem led_l0 {ns : List Node} (hP : Places ns) (K : List Int) (root : Int) (hM : rows ns ≤ 1000000) : ∀ (m : Nat) (met : List Bool) (vs work : List Int), LedInv ns K met vs work → left ns vs + work.length < m → work.length ≤ 3000000 →
    (work.length + left ns vs ≤ 3000000) → ∃ r, dioramaref09_Led.l0 m met work (ns.map toS) root = some r ∧ Tells ns K r
  | 0, _, _, _, _, h, _, _ => by omega
  | m + 1, met, vs, [], h, _, _, _ => by
    rw [dioramaref09_Led.l0, if_neg (by simp)]
    refine ⟨_, rfl, h.len, fun i hi => ?_⟩
    rw [h.tell i hi, decide_eq_true_iff]
    exact (h.done _).symm
  | m + 1, met, vs, x :: work, h, hl, hw, hs => by
    have hxp := h.wpl x (by simp)
    have hrd : rd (x :: work) 0 = x := rfl
    have hlen : (((x :: work).length : Nat) : Int) = (work.length : Int) + 1 := by simp
    rw [dioramaref09_Led.l0, if_pos (by rw [hlen]; omega), if_pos (by rw [hlen]; omega), if_pos (by rw [hlen]; omega), Option.bind_some, hrd, if_pos hxp.1, if_pos (by rw [h.len]; exact hxp.2)]
    rw [show (x :: work).drop (1 : Int).toNat = work from rfl]
    have hlen' : (x :: work).length = work.length + 1 := rfl
    obtain ⟨q, rfl⟩ : ∃ q : Nat, x = (q : Int) := ⟨x.toNat, by omega⟩
    have ht := h.tell q (by omega)
    by_cases hx : (q : Int) ∈ vs
    · rw [if_pos (by rw [ht]; exact decide_eq_true hx)]
      exact led_l0 hP K root hM m met vs work (h.skip hx) (by omega) (by omega) (by omega)
    · rw [if_neg (by rw [ht, decide_eq_false hx]; decide), Option.bind_some, if_pos (by simp; omega), Option.bind_some, if_pos (by rw [List.length_map]; exact hxp.2)]
      have hk := kids_to ns (q : Int)
      have hlc := left_cons (ns := ns) (vs := vs) (x := q) (by omega) hx
      have hwt : wt ns q = (kids ns (q : Int)).length + 1 := rfl
      rw [hk, if_pos (by simp; omega), List.nil_append]
      exact led_l0 hP K root hM m _ _ _ (h.meet hP hx) (by rw [List.length_append]; omega) (by rw [List.length_append]; omega) (by rw [List.length_append]; omega)
theorem wt_le {ns : List Node} {p : Nat} (hp : p < ns.length) : wt ns p ≤ rows ns := by
  have := left_cons (ns := ns) (vs := []) (x := p) hp (by simp)
  rw [left_nil] at this
  omega
theorem led_f {ns : List Node} (hP : Places ns) (root : Int) (hM : rows ns ≤ 1000000) (p : Nat) (hp : p < ns.length) (k : Nat) (hk : 2 * rows ns < k) :
    ∃ r, dioramaref09_Led.f k (ns.map toS) root (p : Int) = some r ∧ Tells ns (kids ns (p : Int)) r := by
  unfold dioramaref09_Led.f
  have hlr := len_rows ns
  have hl : (((ns.map toS).length : Nat) : Int) = (ns.length : Int) := by rw [List.length_map]
  have hwt : wt ns p = (kids ns (p : Int)).length + 1 := rfl
  have hle := wt_le hp
  rw [hl, if_pos (by omega), if_pos (by rw [Int.toNat_natCast]; omega), Option.bind_some, if_pos (by omega), if_pos (by omega), kids_to, if_pos (by simp; omega), List.nil_append, Int.toNat_natCast]
  refine led_l0 hP (kids ns (p : Int)) root hM k _ [] _ ⟨by simp, fun i hi => ?_, by simp, fun x hx => hP p hp x hx, by simp, fun x hx => .base hx, fun k hk => .inr hk, by simp⟩ ?_ (by omega) ?_
  · unfold rdOf
    rw [Int.toNat_natCast, List.getD_eq_getElem?_getD, List.getElem?_replicate, if_pos hi]
    simp
  · rw [left_nil]; omega
  · rw [left_nil]; omega
theorem rch_root {ns : List Node} {r x : Int} : Rch ns [r] x ↔ x = r ∨ Rch ns (kids ns r) x := by
  refine ⟨fun h => ?_, fun h => ?_⟩
  · induction h with
    | base hk => exact .inl (List.mem_singleton.1 hk)
    | step _ hk ih =>
      rcases ih with rfl | ih
      · exact .inr (.base hk)
      · exact .inr (.step ih hk)
  · rcases h with rfl | h
    · exact .base (by simp)
    · exact h.under
theorem chk_l1 (s : Scene) (led : List Bool) (hn : s.nodes.length ≤ 1000000) (hT : Tells s.nodes (kids s.nodes s.root) led) : ∀ (m i K : Nat), s.nodes.length ≤ i + m → i ≤ s.nodes.length → (∀ j : Nat, j < i → Rch s.nodes [s.root] (j : Int)) →
    dioramaref09_Check.l1 (K + 1 + m) led (i : Int) (s.nodes.map toS) s.root = some (if 0 ≤ looseAt s then (15, looseAt s) else (0, 0))
  | 0, i, K, h1, h2, h3 => by
    rw [show K + 1 + 0 = K + 1 by omega, dioramaref09_Check.l1, if_neg (by rw [List.length_map]; omega)]
    have : looseAt s = -1 := firstP_no _ 0 (fun j hj h => h (by rw [Nat.zero_add]; exact h3 j (by omega)))
    rw [this]; rfl
  | m + 1, i, K, h1, h2, h3 => by
    by_cases hi : i < s.nodes.length
    · rw [show K + 1 + (m + 1) = (K + 1 + m) + 1 by omega, dioramaref09_Check.l1, if_pos (by rw [List.length_map]; omega), wrap64_in ((i : Int) + 1) (by omega), show (i : Int) + 1 = ((i + 1 : Nat) : Int) from rfl]
      have next : Rch s.nodes [s.root] (i : Int) → dioramaref09_Check.l1 (K + 1 + m) led ((i + 1 : Nat) : Int) (s.nodes.map toS) s.root = some (if 0 ≤ looseAt s then (15, looseAt s) else (0, 0)) := fun hr =>
        chk_l1 s led hn hT m (i + 1) K (by omega) (by omega) (ext_lt (P := fun j : Nat => Rch s.nodes [s.root] (j : Int)) h3 hr)
      by_cases hr : (i : Int) = s.root
      · rw [if_pos hr]
        exact next (rch_root.2 (.inl hr))
      · rw [if_neg hr, if_pos (Int.natCast_nonneg i), if_pos (by rw [hT.1]; omega)]
        have ht := hT.2 i hi
        by_cases hl : rdOf false led (i : Int) = true
        · rw [if_pos hl]
          exact next (rch_root.2 (.inr (ht.1 hl)))
        · rw [if_neg hl]
          have : looseAt s = (i : Int) := by
            have := firstP_at (p := fun i => ¬ Rch s.nodes [s.root] (i : Int)) s.nodes.length 0 i hi (fun j hj h => h (by rw [Nat.zero_add]; exact h3 j hj)) (by rw [Nat.zero_add]; exact fun h => hl (ht.2 ((rch_root.1 h).resolve_left hr)))
            rw [Nat.zero_add] at this
            exact this
          rw [this, if_pos (Int.natCast_nonneg i)]
    · have := chk_l1 s led hn hT m i (K + 1) (by omega) h2 h3
      rw [show K + 1 + 1 + m = K + 1 + (m + 1) by omega] at this
      exact this
theorem chk_l0 (s : Scene) (hM : rows s.nodes ≤ 1000000) (hP : Places s.nodes) (h0 : 0 ≤ s.root) (h1 : s.root < s.nodes.length) : ∀ (m i K : Nat), s.nodes.length ≤ i + m → i ≤ s.nodes.length → (∀ j : Nat, j < i → ¬ Cyc s.nodes (j : Int)) →
    dioramaref09_Check.l0 (K + 2 * rows s.nodes + s.nodes.length + 3 + m) (i : Int) (s.nodes.map toS) s.root = some (if 0 ≤ cycAt s.nodes then (14, cycAt s.nodes) else if 0 ≤ looseAt s then (15, looseAt s) else (0, 0))
  | 0, i, K, k1, k2, k3 => by
    have hlr := len_rows s.nodes
    rw [show K + 2 * rows s.nodes + s.nodes.length + 3 + 0 = (K + 2 * rows s.nodes + s.nodes.length + 2) + 1 by omega, dioramaref09_Check.l0, if_neg (by rw [List.length_map]; omega)]
    obtain ⟨q, hq⟩ : ∃ q : Nat, s.root = (q : Int) := ⟨s.root.toNat, by omega⟩
    obtain ⟨r, hr, hT⟩ := led_f hP s.root hM q (by omega) (K + 2 * rows s.nodes + s.nodes.length + 2) (by omega)
    rw [← hq] at hr hT
    rw [hr, Option.bind_some]
    have hc : cycAt s.nodes = -1 := firstP_no _ 0 (fun j hj h => k3 j (by omega) (by rwa [Nat.zero_add] at h))
    rw [hc, if_neg (by decide)]
    have := chk_l1 s r (by omega) hT s.nodes.length 0 (K + 2 * rows s.nodes + 1) (by omega) (by omega) (fun j hj => by omega)
    rw [show K + 2 * rows s.nodes + 1 + 1 + s.nodes.length = K + 2 * rows s.nodes + s.nodes.length + 2 by omega] at this
    exact this
  | m + 1, i, K, k1, k2, k3 => by
    by_cases hi : i < s.nodes.length
    · have hlr := len_rows s.nodes
      rw [show K + 2 * rows s.nodes + s.nodes.length + 3 + (m + 1) = (K + 2 * rows s.nodes + s.nodes.length + 3 + m) + 1 by omega, dioramaref09_Check.l0, if_pos (by rw [List.length_map]; omega)]
      obtain ⟨r, hr, hT⟩ := led_f hP s.root hM i hi (K + 2 * rows s.nodes + s.nodes.length + 3 + m) (by omega)
      rw [hr, Option.bind_some, if_pos (Int.natCast_nonneg i), if_pos (by rw [hT.1]; omega), wrap64_in ((i : Int) + 1) (by omega), show (i : Int) + 1 = ((i + 1 : Nat) : Int) from rfl]
      have ht := hT.2 i hi
      by_cases hl : rdOf false r (i : Int) = true
      · rw [if_pos hl]
        have : cycAt s.nodes = (i : Int) := by
          have := firstP_at (p := fun i => Cyc s.nodes (i : Int)) s.nodes.length 0 i hi (fun j hj h => k3 j hj (by rwa [Nat.zero_add] at h)) (by rw [Nat.zero_add]; exact ht.1 hl)
          rw [Nat.zero_add] at this
          exact this
        rw [this, if_pos (Int.natCast_nonneg i)]
      · rw [if_neg hl]
        exact chk_l0 s hM hP h0 h1 m (i + 1) K (by omega) (by omega) (ext_lt (P := fun j : Nat => ¬ Cyc s.nodes (j : Int)) k3 (fun h => hl (ht.2 h)))
    · have := chk_l0 s hM hP h0 h1 m i (K + 1) (by omega) k2 k3
      rw [show K + 1 + 2 * rows s.nodes + s.nodes.length + 3 + m = K + 2 * rows s.nodes + s.nodes.length + 3 + (m + 1) by omega] at this
      exact this
theorem chk_f (s : Scene) (hM : rows s.nodes ≤ 1000000) : dioramaref09_Check.f (2 * rows s.nodes + 2 * s.nodes.length + 3) (s.nodes.map toS) s.root = some (gcheck s) := by
  unfold dioramaref09_Check.f dioramaref09_Place.f dioramaref09_Refs.f
  rw [Option.bind_some, List.length_map, Option.bind_some, map_of_to]
  by_cases h0 : s.root < 0 ∨ (s.nodes.length : Int) ≤ s.root
  · have : isPl s.nodes.length s.root = false := by unfold isPl; exact decide_eq_false (by omega)
    rw [this, if_neg (by decide), gcheck_root h0]
  · have : isPl s.nodes.length s.root = true := by unfold isPl; exact decide_eq_true (by omega)
    rw [this, if_pos rfl]
    by_cases h : 0 ≤ refsAt s.nodes
    · rw [if_pos h, gcheck_refs h0 h]
    · rw [if_neg h]
      have hP : Places s.nodes := Places.of_refs ((refsAt_lt _).resolve_right h)
      have := chk_l0 s hM hP (by omega) (by omega) s.nodes.length 0 0 (by omega) (by omega) (fun j hj => by omega)
      rw [show 0 + 2 * rows s.nodes + s.nodes.length + 3 + s.nodes.length = 2 * rows s.nodes + 2 * s.nodes.length + 3 by omega] at this
      refine this.trans ?_
      unfold gcheck
      rw [if_neg h0, if_neg h]
theorem rchk_any (A : Option Addr) (c : Nat) (s : Scene) (w : World) (h : kNode.C w A s.nodes.length s.nodes) (hc : s.nodes.length ≤ c) (hM : rows s.nodes ≤ 1000000) :
    Calls Tryd.prog 22 #[.agg #[.slice A s.nodes.length c, .int .i64 s.root]] w fun e w' => e = .returned (.tuple #[.int .i64 (gcheck s).1, .int .i64 (gcheck s).2]) ∧ Below w.heap.size w w' := by
  have hl : (s.nodes.map toS).length = s.nodes.length := List.length_map ..
  have := dioramaref09_Check.calls (2 * rows s.nodes + 2 * s.nodes.length + 3) A c (s.nodes.map toS) s.root (gcheck s).1 (gcheck s).2 w (by rw [hl]; exact C_to h) (by rw [hl]; exact hc) (chk_f s hM)
  rw [hl] at this
  exact this
end Go.Proofs.YtglfebpgdghlfaaDoor.L
end
section
namespace Go.Proofs.YtglfebpgdghlfaaDoor.L
open Go.RowKit Go.ChangeShapes Go.WideShapes Go.Proofs.YtglfebpgdghlfaaDoorW.PrintWords Go.Proofs.YtglfebpgdghlfaaDoorW.PrintLast Go.Proofs.YtglfebpgdghlfaaDoorW.PrintMore
attribute [local go_sem] max2_int min2_int max_two min_two max_three min_three max_four min_four
open Go.Proofs.YtglfebpgdghlfaaDoor.PUpgradeUps
structure Iso (ns ms : List Node) (f : Int → Int) : Prop where
  len : ns.length = ms.length
  pl : ∀ x, Pl ms x → Pl ns (f x)
  inj : ∀ x y, Pl ms x → Pl ms y → f x = f y → x = y
  nd : ∀ x, Pl ms x → nd ns (f x).toNat = ⟨(nd ms x.toNat).kind, (nd ms x.toNat).ints, (nd ms x.toNat).texts, (kids ms x).map f⟩
theorem Iso.kids {ns ms : List Node} {f : Int → Int} (h : Iso ns ms f) {x : Int} (hx : Pl ms x) : L.kids ns (f x) = (L.kids ms x).map f := by
  show (L.nd ns (f x).toNat).kids = _
  rw [h.nd x hx]
theorem Iso.mem {ns ms : List Node} {f : Int → Int} (h : Iso ns ms f) {x : Int} (hx : Pl ms x) {l : List Int} (hl : ∀ y ∈ l, Pl ms y) : f x ∈ l.map f ↔ x ∈ l := by
  refine ⟨fun hm => ?_, fun hm => List.mem_map_of_mem hm⟩
  obtain ⟨y, hy, e⟩ := List.mem_map.1 hm
  rw [h.inj x y hx (hl y hy) e.symm]; exact hy
theorem kids_pl {ms : List Node} (hP : Places ms) {x : Int} (hx : Pl ms x) : ∀ k ∈ kids ms x, Pl ms k := fun k hk => hP x.toNat (by have := hx.1; have := hx.2; omega) k hk
theorem Iso.meet {ns ms : List Node} {f : Int → Int} (h : Iso ns ms f) (hP : Places ms) : ∀ (m : Nat) (a : Int) (met : List Int), Pl ms a → (∀ x ∈ met, Pl ms x) →
    L.meet ns m (f a) (met.map f) = (L.meet ms m a met).map f ∧ ∀ x ∈ L.meet ms m a met, Pl ms x
  | 0, a, met, _, hm => ⟨rfl, hm⟩
  | m + 1, a, met, ha, hm => by
    unfold L.meet
    by_cases hin : a ∈ met
    · rw [if_pos hin, if_pos ((h.mem ha hm).2 hin)]
      exact ⟨rfl, hm⟩
    · rw [if_neg hin, if_neg (fun e => hin ((h.mem ha hm).1 e)), h.kids ha, List.foldl_map]
      have key : ∀ (l met : List Int), (∀ k ∈ l, Pl ms k) → (∀ x ∈ met, Pl ms x) →
          l.foldl (fun v k => L.meet ns m (f k) v) (met.map f) = (l.foldl (fun v k => L.meet ms m k v) met).map f ∧ ∀ x ∈ l.foldl (fun v k => L.meet ms m k v) met, Pl ms x := by
        intro l
        induction l with
        | nil => intro met _ hm; exact ⟨rfl, hm⟩
        | cons k l ih =>
          intro met hl hm
          obtain ⟨e1, e2⟩ := Iso.meet h hP m k met (hl k (by simp)) hm
          rw [List.foldl_cons, List.foldl_cons, e1]
          exact ih _ (fun y hy => hl y (by simp [hy])) e2
      obtain ⟨e1, e2⟩ := key (L.kids ms a) met (kids_pl hP ha) hm
      refine ⟨?_, fun x hx => ?_⟩
      · rw [List.map_append, ← e1]; rfl
      · rcases List.mem_append.1 hx with hx | hx
        · exact e2 x hx
        · rw [List.mem_singleton.1 hx]; exact ha
theorem Iso.rch {ns ms : List Node} {f : Int → Int} (h : Iso ns ms f) (hP : Places ms) {l : List Int} (hl : ∀ k ∈ l, Pl ms k) {x : Int} (hr : Rch ms l x) : Rch ns (l.map f) (f x) ∧ Pl ms x := by
  induction hr with
  | base hk => exact ⟨.base (List.mem_map_of_mem hk), hl _ hk⟩
  | step _ hk ih => exact ⟨.step ih.1 (by rw [h.kids ih.2]; exact List.mem_map_of_mem hk), kids_pl hP ih.2 _ hk⟩
theorem Iso.dag {ns ms : List Node} {f : Int → Int} (h : Iso ns ms f) (hP : Places ms) (hc : ∀ p : Nat, p < ns.length → ¬ Cyc ns p) : Dag ms := by
  refine ⟨hP, fun p hp hcy => ?_⟩
  have hx : Pl ms (p : Int) := ⟨by omega, by omega⟩
  have h1 := (h.rch hP (kids_pl hP hx) hcy).1
  rw [← h.kids hx] at h1
  have hpl := h.pl _ hx
  obtain ⟨q, hq⟩ : ∃ q : Nat, f (p : Int) = (q : Int) := ⟨(f p).toNat, by have := hpl.1; omega⟩
  rw [hq] at h1 hpl
  exact hc q (by have := hpl.2; omega) h1
theorem idxOf_map {f : Int → Int} {P : Int → Prop} (hf : ∀ x y, P x → P y → f x = f y → x = y) {k : Int} (hk : P k) : ∀ l : List Int, (∀ y ∈ l, P y) → (l.map f).idxOf (f k) = l.idxOf k
  | [], _ => rfl
  | y :: l, h => by
    rw [List.map_cons, List.idxOf_cons, List.idxOf_cons, idxOf_map hf hk l (fun z hz => h z (by simp [hz]))]
    by_cases e : y = k
    · rw [e]; simp
    · have : ¬ f y = f k := fun e' => e (hf y k (h y (by simp)) hk e')
      rw [beq_eq_false_iff_ne.2 e, beq_eq_false_iff_ne.2 this]
theorem Iso.ord {s t : Scene} {f : Int → Int} (h : Iso s.nodes t.nodes f) (hP : Places t.nodes) (hr : Pl t.nodes t.root) (he : s.root = f t.root) : L.ord s = (L.ord t).map f ∧ ∀ x ∈ L.ord t, Pl t.nodes x := by
  unfold L.ord M
  rw [he, h.len]
  exact h.meet hP _ _ [] hr (fun x hx => by simp at hx)
theorem Iso.canonL {s t : Scene} {f : Int → Int} (h : Iso s.nodes t.nodes f) (hP : Places t.nodes) (hr : Pl t.nodes t.root) (he : s.root = f t.root) : L.canonL s = L.canonL t := by
  obtain ⟨ho, hop⟩ := h.ord hP hr he
  unfold L.canonL
  rw [ho, List.map_map]
  refine List.map_congr_left (fun a ha => ?_)
  have hap := hop a ha
  show relab s (L.nd s.nodes (f a).toNat) = relab t (L.nd t.nodes a.toNat)
  unfold relab
  rw [h.nd a hap]
  show Node.mk _ _ _ _ = Node.mk _ _ _ _
  congr 1
  rw [List.map_map]
  refine List.map_congr_left (fun k hk => ?_)
  show ((idx s (f k) : Nat) : Int) = (idx t k : Int)
  unfold idx
  rw [ho, idxOf_map (P := Pl t.nodes) h.inj (kids_pl hP hap k hk) _ hop]
theorem Shut.len {ns : List Node} {m : List Int} (h : Shut ns m) : m.length ≤ ns.length := nodup_len h.nd h.pl
theorem shut_next {ns : List Node} {met : List Int} (hs : Shut ns met) (a : Int) : ∀ x ∈ met, ¬ Rch ns (kids ns x) a ∨ a ∈ met := fun x hx => by
  by_cases hr : Rch ns (kids ns x) a
  · right
    have : ∀ y, Rch ns (kids ns x) y → y ∈ met := fun y hy => by
      induction hy with
      | base hb => exact hs.kids x hx _ hb
      | step _ hb ih => exact hs.kids _ ih _ hb
    exact this a hr
  · exact .inl hr
theorem meet_l0 (ns : List Node) (root a : Int) (met : List Int) (hm : met.length ≤ 1000000) : ∀ (m i K : Nat), met.length ≤ i + m → i ≤ met.length → (∀ j : Nat, j < i → ¬ rd met (j : Int) = a) →
    (a ∈ met → dioramaref10_meet.l0 (K + 1 + m) a met (i : Int) (ns.map toS) root = some met) ∧
    (¬ a ∈ met → ∃ K', K ≤ K' ∧ dioramaref10_meet.l0 (K + 1 + m) a met (i : Int) (ns.map toS) root = dioramaref10_meet.l1 K' a met 0 (ns.map toS) root)
  | 0, i, K, h1, h2, h3 => by
    have hno : ¬ a ∈ met := fun hm => by
      obtain ⟨j, hj⟩ := List.getElem?_of_mem hm
      have hjl := (List.getElem?_eq_some_iff.1 hj).1
      refine h3 j (by omega) ?_
      unfold rd
      rw [Int.toNat_natCast, List.getD_eq_getElem?_getD, hj]; rfl
    refine ⟨fun h => absurd h hno, fun _ => ⟨K, Nat.le_refl _, ?_⟩⟩
    rw [show K + 1 + 0 = K + 1 by omega, dioramaref10_meet.l0, if_neg (by omega)]
  | m + 1, i, K, h1, h2, h3 => by
    by_cases hi : i < met.length
    · rw [show K + 1 + (m + 1) = (K + 1 + m) + 1 by omega, dioramaref10_meet.l0, if_pos (by omega), if_pos (Int.natCast_nonneg i)]
      by_cases he : rd met (i : Int) = a
      · rw [if_pos he]
        have hin : a ∈ met := by rw [← he]; exact rd_mem hi
        exact ⟨fun _ => rfl, fun h => absurd hin h⟩
      · rw [if_neg he, wrap64_in ((i : Int) + 1) (by omega), show (i : Int) + 1 = ((i + 1 : Nat) : Int) from rfl]
        exact meet_l0 ns root a met hm m (i + 1) K (by omega) (by omega) (ext_lt (P := fun j : Nat => ¬ rd met (j : Int) = a) h3 he)
    · obtain ⟨g1, g2⟩ := meet_l0 ns root a met hm m i (K + 1) (by omega) h2 h3
      rw [show K + 1 + 1 + m = K + 1 + (m + 1) by omega] at g1 g2
      exact ⟨g1, fun h => by obtain ⟨K', h1, h2⟩ := g2 h; exact ⟨K', by omega, h2⟩⟩
def meetT (ns : List Node) : Nat := ns.length + rows ns + 4
theorem meet_f {ns : List Node} (hd : Dag ns) (root : Int) (hM : rows ns ≤ 1000000) : ∀ (N : Nat) (a : Int) (met : List Int) (K : Nat), reachN ns a < N → Pl ns a → Shut ns met → N * meetT ns ≤ K →
    dioramaref10_meet.f K (ns.map toS) root a met = some (M ns a met)
  | 0, _, _, _, h, _, _, _ => by omega
  | N + 1, a, met, K, hN, ha, hs, hK => by
    have hT : (N + 1) * meetT ns = N * meetT ns + meetT ns := Nat.succ_mul _ _
    have hlen := hs.len
    have hlr := len_rows ns
    have hTd : meetT ns = ns.length + rows ns + 4 := rfl
    obtain ⟨K1, rfl⟩ : ∃ K1, K = (K1 + (kids ns a).length + 1) + 1 + met.length + 1 := ⟨K - met.length - 3 - (kids ns a).length, by
      have hw : (kids ns a).length + 1 ≤ rows ns := wt_le (ns := ns) (p := a.toNat) (by have := ha.1; have := ha.2; omega)
      omega⟩
    rw [dioramaref10_meet.f]
    obtain ⟨g1, g2⟩ := meet_l0 ns root a met (by omega) met.length 0 (K1 + (kids ns a).length + 1) (by omega) (by omega) (fun j hj => by omega)
    by_cases hin : a ∈ met
    · rw [M_in hd ha hin]
      exact g1 hin
    · obtain ⟨K', hK', e⟩ := g2 hin
      rw [M_out hd ha hin]
      refine Eq.trans e ?_
      have hw : (kids ns a).length + 1 ≤ rows ns := wt_le (ns := ns) (p := a.toNat) (by have := ha.1; have := ha.2; omega)
      have hK1 : N * meetT ns ≤ K1 := by omega
      -- the kids, one behind the other
      have key : ∀ (m j K2 : Nat) (v : List Int), (kids ns a).length = j + m → N * meetT ns ≤ K2 → Shut ns v → (∀ x ∈ v, x ∈ v) → v = ML ns ((kids ns a).take j) met →
          dioramaref10_meet.l1 (K2 + 1 + m) a v (j : Int) (ns.map toS) root = some (ML ns (kids ns a) met ++ [a]) := by
        intro m
        induction m with
        | zero =>
          intro j K2 v hj hK2 hv _ hve
          have hvl := hv.len
          rw [show K2 + 1 + 0 = K2 + 1 by omega, dioramaref10_meet.l1, if_pos ha.1, if_pos (by rw [List.length_map]; exact ha.2), kids_to, if_neg (by omega), Option.bind_some, if_pos (by simp; omega), Option.bind_some, if_pos (by simp; omega), List.nil_append]
          rw [hve, List.take_of_length_le (by omega)]
        | succ m ih =>
          intro j K2 v hj hK2 hv _ hve
          have hjl : j < (kids ns a).length := by omega
          rw [show K2 + 1 + (m + 1) = (K2 + 1 + m) + 1 by omega, dioramaref10_meet.l1, if_pos ha.1, if_pos (by rw [List.length_map]; exact ha.2), kids_to, if_pos (by omega), if_pos (Int.natCast_nonneg j)]
          have hk : rd (kids ns a) (j : Int) ∈ kids ns a := rd_mem hjl
          have hkp := hd.kid ha hk
          have hlow := hd.lower ha hk
          rw [meet_f hd root hM N (rd (kids ns a) (j : Int)) v (K2 + 1 + m) (by omega) hkp hv (by omega), Option.bind_some, wrap64_in ((j : Int) + 1) (by have := hs.len; omega), show (j : Int) + 1 = ((j + 1 : Nat) : Int) from rfl]
          have hmet := M_met hd _ (rd (kids ns a) (j : Int)) v (Nat.lt_succ_self _) hkp hv (shut_next hv _)
          refine ih (j + 1) K2 _ (by omega) hK2 hmet.shut (fun _ h => h) ?_
          rw [take_succ_rd hjl, hve]
          unfold ML
          rw [List.foldl_append]
          rfl
      obtain ⟨K2, rfl⟩ : ∃ K2, K' = K2 + 1 + (kids ns a).length := ⟨K' - 1 - (kids ns a).length, by omega⟩
      exact key (kids ns a).length 0 K2 met (by omega) (by omega) hs (fun _ h => h) (by rw [List.take_zero]; rfl)
theorem order_f {s : Scene} (hd : Dag s.nodes) (hr : Pl s.nodes s.root) (hM : rows s.nodes ≤ 1000000) : dioramaref10_Order.f ((s.nodes.length + 1) * meetT s.nodes) (s.nodes.map toS) s.root = some (ord s) := by
  unfold dioramaref10_Order.f
  rw [meet_f hd s.root hM (s.nodes.length + 1) s.root [] _ (Nat.lt_succ_of_le (reachN_le _ _)) hr (Shut.nil _) (Nat.le_refl _)]
  rfl
theorem ord_met' {s : Scene} (hd : Dag s.nodes) (hr : Pl s.nodes s.root) : Met s.nodes s.root [] (ord s) := M_met hd _ _ _ (Nat.lt_succ_self _) hr (Shut.nil _) (fun x hx => by simp at hx)
theorem refCan_eq {s : Scene} (hd : Dag s.nodes) (hr : Pl s.nodes s.root) : refCanL s.nodes (ord s) = canonL s := by
  have hm := ord_met' hd hr
  unfold refCanL canonL
  refine List.map_congr_left (fun a ha => ?_)
  unfold refN relab
  congr 1
  refine List.map_congr_left (fun k hk => ?_)
  have := hm.shut.kids a ha k hk
  unfold findI idx
  rw [if_pos this]
end Go.Proofs.YtglfebpgdghlfaaDoor.L
end
section
namespace Go.Proofs.YtglfebpgdghlfaaDoor.L
open Go.RowKit Go.ChangeShapes Go.WideShapes Go.Proofs.YtglfebpgdghlfaaDoorW.PrintWords Go.Proofs.YtglfebpgdghlfaaDoorW.PrintLast Go.Proofs.YtglfebpgdghlfaaDoorW.PrintMore
attribute [local go_sem] max2_int min2_int max_two min_two max_three min_three max_four min_four
open Go.Proofs.YtglfebpgdghlfaaDoor.PUpgradeUps
def isTr (n : Node) : Bool := decide (n.kind = 2)
def lows (ns : List Node) (n : Nat) : List Nat := (List.range n).filter (fun p => isTr (nd ns p))
def cnt (ns : List Node) (n : Nat) : Nat := (lows ns n).length
end Go.Proofs.YtglfebpgdghlfaaDoor.L
end
section
namespace Go.Proofs.YtglfebpgdghlfaaDoor.L
open Go.RowKit Go.ChangeShapes Go.WideShapes Go.Proofs.YtglfebpgdghlfaaDoorW.PrintWords Go.Proofs.YtglfebpgdghlfaaDoorW.PrintLast Go.Proofs.YtglfebpgdghlfaaDoorW.PrintMore
attribute [local go_sem] max2_int min2_int max_two min_two max_three min_three max_four min_four
def maxl (l : List Nat) : Nat := l.foldl max 0
theorem maxl_snoc (l : List Nat) (x : Nat) : maxl (l ++ [x]) = max (maxl l) x := by unfold maxl; rw [List.foldl_append]; rfl
def hgt (ns : List Node) : Nat → Int → Nat
  | 0, _ => 0
  | f + 1, a => maxl ((kids ns a).map (hgt ns f)) + 1
theorem hgt_fuel {ns : List Node} (h : Dag ns) : ∀ (f g : Nat) (a : Int), Pl ns a → reachN ns a < f → reachN ns a < g → hgt ns f a = hgt ns g a
  | 0, _, _, _, hf, _ => by omega
  | f + 1, 0, _, _, _, hg => by omega
  | f + 1, g + 1, a, ha, hf, hg => by
    unfold hgt
    congr 2
    exact List.map_congr_left (fun k hk => hgt_fuel h f g k (h.kid ha hk) (by have := h.lower ha hk; omega) (by have := h.lower ha hk; omega))
def H (ns : List Node) (a : Int) : Nat := hgt ns (ns.length + 1) a
theorem H_eq {ns : List Node} (h : Dag ns) {a : Int} (ha : Pl ns a) : H ns a = maxl ((kids ns a).map (H ns)) + 1 := by
  unfold H
  conv => lhs; unfold hgt
  congr 2
  refine List.map_congr_left (fun k hk => hgt_fuel h _ _ k (h.kid ha hk) ?_ ?_)
  · have := h.lower ha hk; have := reachN_le ns a; omega
  · have := reachN_le ns k; omega
structure DpInv (ns : List Node) (L : List Int) (i j : Nat) (deep : List Int) : Prop where
  len : deep.length = ns.length
  tell : ∀ p : Nat, p < ns.length → (p : Int) ∈ L.take i → rd deep (p : Int) = (H ns (p : Int) : Int)
  rest : ∀ p : Nat, p < ns.length → ¬ (p : Int) ∈ L.take i → rd deep (p : Int) = if rd L (i : Int) = (p : Int) ∧ i < L.length then (maxl (((kids ns (p : Int)).take j).map (H ns)) : Int) else 0
theorem rd_setN {l : List Int} {q p : Nat} {v : Int} (hq : q < l.length) : rd (l.set q v) (p : Int) = if p = q then v else rd l (p : Int) := by
  unfold rd
  rw [Int.toNat_natCast, List.getD_eq_getElem?_getD, List.getD_eq_getElem?_getD, List.getElem?_set]
  by_cases e : p = q
  · subst e; rw [if_pos rfl, if_pos rfl, if_pos hq]; rfl
  · rw [if_neg e, if_neg (fun h => e h.symm)]
theorem DpInv.start (ns : List Node) (L : List Int) : DpInv ns L 0 0 (List.replicate ns.length 0) := by
  have hz : ∀ p : Nat, rd (List.replicate ns.length 0) (p : Int) = 0 := fun p => by
    unfold rd
    rw [Int.toNat_natCast, List.getD_eq_getElem?_getD, List.getElem?_replicate]
    split <;> rfl
  refine ⟨by simp, fun p _ h => by simp at h, fun p _ _ => ?_⟩
  rw [hz]
  split
  · rw [List.take_zero]; rfl
  · rfl
theorem take_not {L : List Int} (hnd : L.Nodup) {i : Nat} (hi : i < L.length) : ¬ rd L (i : Int) ∈ L.take i := fun hm => by
  obtain ⟨m, hm', e⟩ := List.getElem_of_mem hm
  rw [List.length_take] at hm'
  rw [List.getElem_take, rd_eq hi] at e
  have := (List.getElem_inj hnd).1 e
  omega
theorem DpInv.kid {ns : List Node} {L : List Int} {i j q k : Nat} {deep : List Int} (hT : Topo ns L) (h : DpInv ns L i j deep) (hi : i < L.length) (hq : rd L (i : Int) = (q : Int)) (hqn : q < ns.length) (hj : j < (kids ns (q : Int)).length) (hk : rd (kids ns (q : Int)) (j : Int) = (k : Int)) (hkn : k < ns.length) :
    rd deep (q : Int) = (maxl (((kids ns (q : Int)).take j).map (H ns)) : Int) ∧ rd deep (k : Int) = (H ns (k : Int) : Int) ∧ DpInv ns L i (j + 1) (deep.set q ((max (maxl (((kids ns (q : Int)).take j).map (H ns))) (H ns (k : Int)) : Nat) : Int)) := by
  have hnq : ¬ (q : Int) ∈ L.take i := by rw [← hq]; exact take_not hT.nd hi
  have h1 := h.rest q hqn hnq
  rw [if_pos ⟨hq, hi⟩] at h1
  have hkm : (k : Int) ∈ L.take i := by
    refine hT.ahead i hi _ ?_
    rw [hq, ← hk]
    exact rd_mem hj
  refine ⟨h1, h.tell k hkn hkm, by rw [List.length_set]; exact h.len, fun p hp hm => ?_, fun p hp hm => ?_⟩
  · rw [rd_setN (by rw [h.len]; exact hqn), if_neg (fun e => hnq (by rw [← e]; exact hm))]
    exact h.tell p hp hm
  · rw [rd_setN (by rw [h.len]; exact hqn)]
    by_cases e : p = q
    · subst e
      rw [if_pos rfl, if_pos ⟨hq, hi⟩, take_succ_rd hj, List.map_append, hk]
      show _ = ((maxl (_ ++ [H ns (k : Int)]) : Nat) : Int)
      rw [maxl_snoc]
    · have h2 := h.rest p hp hm
      rw [if_neg (fun hh => e (by have := hh.1; rw [hq] at this; omega))] at h2
      rw [if_neg e, if_neg (fun hh => e (by have := hh.1; rw [hq] at this; omega))]
      exact h2
theorem DpInv.node {ns : List Node} {L : List Int} {i q : Nat} {deep : List Int} (hd : Dag ns) (hT : Topo ns L) (h : DpInv ns L i (kids ns (q : Int)).length deep) (hi : i < L.length) (hq : rd L (i : Int) = (q : Int)) (hqn : q < ns.length) :
    rd deep (q : Int) + 1 = (H ns (q : Int) : Int) ∧ DpInv ns L (i + 1) 0 (deep.set q (H ns (q : Int) : Int)) := by
  have hnq : ¬ (q : Int) ∈ L.take i := by rw [← hq]; exact take_not hT.nd hi
  have h1 := h.rest q hqn hnq
  rw [if_pos ⟨hq, hi⟩, List.take_length] at h1
  have hH := H_eq hd (a := (q : Int)) ⟨by omega, by omega⟩
  have htk : L.take (i + 1) = L.take i ++ [(q : Int)] := by rw [take_succ_rd hi, hq]
  refine ⟨by rw [h1, hH]; rfl, by rw [List.length_set]; exact h.len, fun p hp hm => ?_, fun p hp hm => ?_⟩
  · rw [rd_setN (by rw [h.len]; exact hqn)]
    by_cases e : p = q
    · subst e; rw [if_pos rfl]
    · rw [if_neg e]
      rw [htk] at hm
      rcases List.mem_append.1 hm with hm | hm
      · exact h.tell p hp hm
      · exact absurd (List.mem_singleton.1 hm) (fun e' => e (by omega))
  · rw [htk] at hm
    have e : ¬ p = q := fun e => hm (by rw [e]; simp)
    rw [rd_setN (by rw [h.len]; exact hqn), if_neg e, List.take_zero]
    have h2 := h.rest p hp (fun hh => hm (List.mem_append_left _ hh))
    rw [if_neg (fun hh => e (by have := hh.1; rw [hq] at this; omega))] at h2
    rw [h2]
    split <;> rfl
structure DpRel (s : Scene) (L : List Int) (w : World) (A : Option Addr) (c g cd : Nat) (Ao : Option Addr) (co i j : Nat) (deep : List Int) (W : World) : Prop where
  inv : DpInv s.nodes L i j deep
  row : (Kd.int .i64).R 3 W w.heap.size (fun _ => True) (.slice (some ⟨g, 0, none⟩) s.nodes.length cd) deep
  ord : (Kd.int .i64).R 3 W w.heap.size (fun k => k ≠ g) (.slice Ao L.length co) L
  box : W.heap[w.heap.size]? = some (.cells #[.slice A s.nodes.length c, .int .i64 s.root] 39 (0, 0))
  below : Below w.heap.size w W
theorem DpRel.drew {s : Scene} {L : List Int} {w : World} {A : Option Addr} {c g cd : Nat} {Ao : Option Addr} {co i j : Nat} {deep : List Int} {W : World} (h : DpRel s L w A c g cd Ao co i j deep W) : DpRel s L w A c g cd Ao co i j deep W.drew :=
  ⟨h.inv, Kd.R_drew h.row, Kd.R_drew h.ord, h.box, below_drew h.below⟩
theorem DpRel.put {s : Scene} {L : List Int} {w : World} {A : Option Addr} {c g cd : Nat} {Ao : Option Addr} {co i j i' j' q : Nat} {deep : List Int} {W : World} {v : Int} (h : DpRel s L w A c g cd Ao co i j deep W) (hq : q < s.nodes.length) (hi : DpInv s.nodes L i' j' (deep.set q v)) :
    DpRel s L w A c g cd Ao co i' j' (deep.set q v) (W.setCell ⟨g, q, none⟩ (.int .i64 v)) := by
  obtain ⟨s1, s2, s3⟩ := ints_store h.row q hq v
  exact ⟨hi, s1, Kd.R_far (p := ⟨g, q, none⟩) h.ord (fun k hk => hk) _, blk_grown h.box s2 (Kd.R_ne h.row h.box (by decide)), below_set h.below s3⟩
end Go.Proofs.YtglfebpgdghlfaaDoor.L
end
section
namespace Go.Proofs.YtglfebpgdghlfaaDoor.L
open Go.RowKit Go.ChangeShapes Go.WideShapes Go.Proofs.YtglfebpgdghlfaaDoorW.PrintWords Go.Proofs.YtglfebpgdghlfaaDoorW.PrintLast Go.Proofs.YtglfebpgdghlfaaDoorW.PrintMore
attribute [local go_sem] max2_int min2_int max_two min_two max_three min_three max_four min_four
theorem canon_iso {s : Scene} (h : Right s) : Iso (canonL s) s.nodes (fun x => (idx s x : Int)) := by
  have hlen : (canonL s).length = s.nodes.length := by
    have := ord_len h
    simp [canonL, this]
  refine ⟨hlen, fun x hx => ?_, fun x y hx hy he => ?_, fun x hx => ?_⟩
  · obtain ⟨q, rfl⟩ : ∃ q : Nat, x = (q : Int) := ⟨x.toNat, by have := hx.1; omega⟩
    have := (at_idx h (p := q) (by have := hx.2; omega)).1
    exact ⟨by omega, by omega⟩
  · obtain ⟨q, rfl⟩ : ∃ q : Nat, x = (q : Int) := ⟨x.toNat, by have := hx.1; omega⟩
    obtain ⟨r, rfl⟩ : ∃ r : Nat, y = (r : Int) := ⟨y.toNat, by have := hy.1; omega⟩
    have := idx_inj h (p := q) (q := r) (by have := hx.2; omega) (by have := hy.2; omega) (by
      have he' : (idx s (q : Int) : Int) = (idx s (r : Int) : Int) := he
      omega)
    rw [this]
  · obtain ⟨q, rfl⟩ : ∃ q : Nat, x = (q : Int) := ⟨x.toNat, by have := hx.1; omega⟩
    obtain ⟨h1, h2⟩ := at_idx h (p := q) (by have := hx.2; omega)
    show nd (canonL s) ((idx s (q : Int) : Int)).toNat = _
    rw [Int.toNat_natCast]
    have hl : idx s (q : Int) < (ord s).length := by rw [ord_len h]; exact h1
    unfold canonL
    unfold nd
    rw [List.getD_eq_getElem?_getD, List.getElem?_map, List.getElem?_eq_getElem hl]
    have h3 : (ord s)[idx s (q : Int)] = (q : Int) := (rd_eq hl).symm.trans h2
    rw [h3]
    rfl
theorem canon_root {s : Scene} (h : Right s) : (s.nodes.length : Int) - 1 = (idx s s.root : Int) := by
  have hpl : Pl s.nodes s.root := ⟨h.r0, h.r1⟩
  have ho : ord s = ML s.nodes (kids s.nodes s.root) [] ++ [s.root] := by
    show M s.nodes s.root [] = _
    exact M_out h.dag hpl (by simp)
  have hl := ord_len h
  have hnd := ord_nodup h
  rw [ho] at hl hnd
  rw [List.length_append, List.length_singleton] at hl
  have hni : ¬ s.root ∈ ML s.nodes (kids s.nodes s.root) [] := fun hm => by
    exact (List.nodup_append.1 hnd).2.2 s.root hm s.root (by simp) rfl
  unfold idx
  rw [ho, List.idxOf_append, if_neg hni]
  simp
  omega
theorem canon_right {s : Scene} (h : Right s) : Right ⟨canonL s, (s.nodes.length : Int) - 1⟩ := by
  have hi := canon_iso h
  have hlen : (canonL s).length = s.nodes.length := hi.len
  have hn : 0 < s.nodes.length := by have := h.r0; have := h.r1; omega
  have hsur : ∀ m : Nat, m < (canonL s).length → ∃ q : Nat, q < s.nodes.length ∧ (m : Int) = (idx s (q : Int) : Int) := fun m hm => by
    obtain ⟨q, hq, hqn⟩ := ord_at h (m := m) (by omega)
    refine ⟨q, hqn, ?_⟩
    have := idx_at h (m := m) (by omega)
    rw [hq] at this
    rw [this]
  refine ⟨by show 0 ≤ (s.nodes.length : Int) - 1; omega, by show (s.nodes.length : Int) - 1 < ((canonL s).length : Int); omega, fun m hm k hk => ?_, fun m hm hc => ?_, fun m hm => ?_⟩
  · obtain ⟨q, hq, e⟩ := hsur m hm
    have hkk : k ∈ kids (canonL s) (idx s (q : Int) : Int) := by rw [← e]; unfold kids; rw [Int.toNat_natCast]; exact hk
    rw [hi.kids ⟨by omega, by omega⟩] at hkk
    obtain ⟨x, hx, rfl⟩ := List.mem_map.1 hkk
    exact hi.pl x (kids_pl h.pl ⟨by omega, by omega⟩ x hx)
  · obtain ⟨q, hq, e⟩ := hsur m hm
    have hqp : Pl s.nodes (q : Int) := ⟨by omega, by omega⟩
    have back : ∀ (l : List Int), (∀ k ∈ l, Pl s.nodes k) → ∀ y, Rch (canonL s) (l.map (fun x => (idx s x : Int))) y → ∃ x, Pl s.nodes x ∧ y = (idx s x : Int) ∧ Rch s.nodes l x := fun l hl y hy => by
      induction hy with
      | base hk =>
        obtain ⟨x, hx, rfl⟩ := List.mem_map.1 hk
        exact ⟨x, hl x hx, rfl, .base hx⟩
      | step _ hk ih =>
        obtain ⟨x, hx, rfl, hrx⟩ := ih
        rw [hi.kids hx] at hk
        obtain ⟨z, hz, rfl⟩ := List.mem_map.1 hk
        exact ⟨z, kids_pl h.pl hx z hz, rfl, .step hrx hz⟩
    have hc' : Rch (canonL s) (kids (canonL s) (m : Int)) (m : Int) := hc
    rw [e, hi.kids hqp] at hc'
    obtain ⟨x, hx, ex, hrx⟩ := back _ (kids_pl h.pl hqp) _ hc'
    have := hi.inj _ _ hqp hx ex
    rw [← this] at hrx
    exact h.cyc q hq hrx
  · obtain ⟨q, hq, e⟩ := hsur m hm
    rw [e]
    have h1 := (hi.rch h.pl (l := [s.root]) (fun k hk => by rw [List.mem_singleton.1 hk]; exact ⟨h.r0, h.r1⟩) (h.all q hq)).1
    show Rch (canonL s) [(s.nodes.length : Int) - 1] _
    rw [canon_root h]
    exact h1
end Go.Proofs.YtglfebpgdghlfaaDoor.L
end
section
namespace Go.Proofs.YtglfebpgdghlfaaDoor.L
open Go.RowKit Go.ChangeShapes Go.WideShapes Go.Proofs.YtglfebpgdghlfaaDoorW.PrintWords Go.Proofs.YtglfebpgdghlfaaDoorW.PrintLast Go.Proofs.YtglfebpgdghlfaaDoorW.PrintMore
attribute [local go_sem] max2_int min2_int max_two min_two max_three min_three max_four min_four
theorem isC_right {s : Scene} (h : isC s = true) : Right s := by
  have h1 := (of_decide_eq_true h).2
  refine gcheck_right.1 (Classical.byContradiction fun hn => ?_)
  unfold nums at h1
  rw [if_neg hn] at h1
  simp at h1
theorem ord_iota {s : Scene} (h : Right s) : (ord s).map (fun x => (idx s x : Int)) = iota s.nodes.length := by
  have hl := ord_len h
  refine List.ext_getElem (by rw [List.length_map, hl, iota_len]) (fun m h1 h2 => ?_)
  rw [List.length_map] at h1
  rw [List.getElem_map]
  have h3 := idx_at h (m := m) (by omega)
  rw [rd_eq h1] at h3
  rw [h3]
  have h4 := iota_rd s.nodes.length m (by omega)
  rw [rd_eq h2] at h4
  exact h4.symm
theorem canon_ord {s : Scene} (h : Right s) : ord ⟨canonL s, (s.nodes.length : Int) - 1⟩ = iota s.nodes.length := by
  have hi := canon_iso h
  have := (hi.ord (s := ⟨canonL s, (s.nodes.length : Int) - 1⟩) h.pl ⟨h.r0, h.r1⟩ (canon_root h)).1
  rw [this]
  exact ord_iota h
theorem idxOf_iota (n p : Nat) (h : p < n) : (iota n).idxOf (p : Int) = p := by
  have hp : p < (iota n).length := by rw [iota_len]; exact h
  have hnd : (iota n).Nodup := by
    unfold iota
    refine List.pairwise_map.2 (List.Pairwise.imp ?_ List.nodup_range)
    intro a b hab e
    exact hab (by omega)
  have e : (iota n)[p] = (p : Int) := by have := iota_rd n p h; rwa [rd_eq hp] at this
  have := hnd.idxOf_getElem p hp
  rwa [e] at this
theorem canon_isC {s : Scene} (h : Right s) : isC ⟨canonL s, (s.nodes.length : Int) - 1⟩ = true := by
  have hr := canon_right h
  have hlen : (canonL s).length = s.nodes.length := (canon_iso h).len
  have hn : 0 < s.nodes.length := by have := h.r0; have := h.r1; omega
  have hnum : nums ⟨canonL s, (s.nodes.length : Int) - 1⟩ = iota s.nodes.length := by
    unfold nums
    rw [if_pos (gcheck_right.2 hr)]
    unfold numsL
    show (List.range (canonL s).length).map _ = _
    rw [hlen]
    unfold iota
    refine List.map_congr_left (fun p hp => ?_)
    unfold idx
    rw [canon_ord h, idxOf_iota _ _ (List.mem_range.1 hp)]
  refine decide_eq_true ?_
  rw [hnum, iota_len]
  exact ⟨rfl, hn⟩
theorem isC_idx {s : Scene} (h : Right s) (hc : isC s = true) {p : Nat} (hp : p < s.nodes.length) : idx s (p : Int) = p := by
  have h1 := (of_decide_eq_true hc).1
  have h2 : nums s = numsL s := by unfold nums; rw [if_pos (gcheck_right.2 h)]
  rw [h2, numsL_len] at h1
  have h3 := numsL_rd s p hp
  rw [h1, iota_rd _ _ hp] at h3
  omega
theorem isC_eq {s : Scene} (h : Right s) (hc : isC s = true) : s = ⟨canonL s, (s.nodes.length : Int) - 1⟩ := by
  have hlen : (canonL s).length = s.nodes.length := (canon_iso h).len
  have hroot : s.root = (s.nodes.length : Int) - 1 := by
    have h1 := canon_root h
    obtain ⟨r, hr⟩ : ∃ r : Nat, s.root = (r : Int) := ⟨s.root.toNat, by have := h.r0; omega⟩
    rw [hr] at h1
    rw [isC_idx h hc (p := r) (by have := h.r1; omega)] at h1
    omega
  have hnodes : s.nodes = canonL s := by
    refine List.ext_getElem hlen.symm (fun p h1 h2 => ?_)
    have h3 := (canon_iso h).nd (p : Int) ⟨by omega, by omega⟩
    rw [isC_idx h hc h1, Int.toNat_natCast] at h3
    unfold nd kids nd at h3
    rw [Int.toNat_natCast, getD_eq _ h2, getD_eq _ h1] at h3
    rw [h3]
    generalize hx : s.nodes[p] = x
    have hk : ∀ k ∈ x.kids, Pl s.nodes k := fun k hk => h.pl p h1 k (by unfold nd; rw [getD_eq _ h1, hx]; exact hk)
    have e : x.kids.map (fun x => (idx s x : Int)) = x.kids := by
      conv => rhs; rw [← List.map_id x.kids]
      refine List.map_congr_left (fun k hkk => ?_)
      have hkp := hk k hkk
      obtain ⟨q, rfl⟩ : ∃ q : Nat, k = (q : Int) := ⟨k.toNat, by have := hkp.1; omega⟩
      show ((idx s (q : Int) : Nat) : Int) = _
      rw [isC_idx h hc (by have := hkp.2; omega)]
      rfl
    cases x
    simp only at e ⊢
    rw [e]
  cases s
  simp only at hnodes hroot ⊢
  congr 1
theorem isC_iff {s : Scene} (h : Right s) : isC s = true ↔ (⟨canonL s, (s.nodes.length : Int) - 1⟩ : Scene) = s :=
  ⟨fun hc => (isC_eq h hc).symm, fun e => by have := canon_isC h; rwa [e] at this⟩
end Go.Proofs.YtglfebpgdghlfaaDoor.L
end
section
namespace Go.Proofs.YtglfebpgdghlfaaDoor.L
open Go.RowKit Go.ChangeShapes Go.WideShapes Go.Proofs.YtglfebpgdghlfaaDoorW.PrintWords Go.Proofs.YtglfebpgdghlfaaDoorW.PrintLast Go.Proofs.YtglfebpgdghlfaaDoorW.PrintMore
attribute [local go_sem] max2_int min2_int max_two min_two max_three min_three max_four min_four
theorem findS_no (l : List Spec) (k : Int) (h : ∀ i : Nat, 1 ≤ i → i < l.length → k ≠ (i : Int)) : findS l k = none := by
  unfold findS
  rw [if_pos]
  rcases Int.lt_or_le k 1 with h1 | h1
  · exact .inl h1
  · refine .inr ?_
    rcases Int.lt_or_le k l.length with h2 | h2
    · exact absurd (Int.toNat_of_nonneg (show 0 ≤ k by omega)).symm (h k.toNat (by omega) (by omega))
    · exact h2
set_option maxRecDepth 100000 in
set_option maxHeartbeats 4000000 in
theorem rspec_2 (k : Int) (w : World) : Calls Tryd.prog 40 #[.int .i64 2, .int .i64 k] w (SpecPost (Past w.heap.size) (findS newTab k) w) := by
  have HB := Aside0.mk (Below.refl w.heap.size w)
  have hu := Tryd.underlying66
  by_cases k1 : k = 1
  · subst k1
    have HE : Aside0 (findS newTab 1 = some ⟨[], 1, 0, -1⟩) := ⟨rfl⟩
    go_enter Tryd.func40, Tryd.ntmps40
    go_wp2
    rw [HE.out]
    exact bodyPost_ret (v := .tuple #[.agg #[.slice none 0 0, .int .i64 1, .int .i64 0, .int .i64 (-1)], .bool true]) (by simp [results, Tryd.results40, go_sem]) rfl ⟨none, 0, rfl, ⟨Nat.le_refl _, C_nil _ _⟩, Past.none _, by repeat (first | with_reducible exact HB.out | with_reducible apply below_alloc | with_reducible apply pw_below_drewN | with_reducible apply below_drew1 | (with_reducible refine below_set ?_ (by first | omega | (simp; omega))))⟩
  by_cases k2 : k = 2
  · subst k2
    have HE : Aside0 (findS newTab 2 = some ⟨[2, 2, 2], 0, 1, 1⟩) := ⟨rfl⟩
    go_enter Tryd.func40, Tryd.ntmps40
    go_wp2
    rw [HE.out]
    exact bodyPost_ret (v := .tuple #[.agg #[.slice (some ⟨w.heap.size + 2, 0, none⟩) 3 3, .int .i64 0, .int .i64 1, .int .i64 (1)], .bool true]) (by simp [results, Tryd.results40, go_sem]) rfl ⟨(some ⟨w.heap.size + 2, 0, none⟩), 3, rfl, ⟨Nat.le_refl _, C_ints _ 3 _ (by simp) [2, 2, 2] (by decide) rfl⟩, fun ad h => by cases h; simp, by repeat (first | with_reducible exact HB.out | with_reducible apply below_alloc | with_reducible apply pw_below_drewN | with_reducible apply below_drew1 | (with_reducible refine below_set ?_ (by first | omega | (simp; omega))))⟩
  by_cases k3 : k = 3
  · subst k3
    have HE : Aside0 (findS newTab 3 = some ⟨[3, 3, 3], 1, 0, 0⟩) := ⟨rfl⟩
    go_enter Tryd.func40, Tryd.ntmps40
    go_wp2
    rw [HE.out]
    exact bodyPost_ret (v := .tuple #[.agg #[.slice (some ⟨w.heap.size + 2, 0, none⟩) 3 3, .int .i64 1, .int .i64 0, .int .i64 (0)], .bool true]) (by simp [results, Tryd.results40, go_sem]) rfl ⟨(some ⟨w.heap.size + 2, 0, none⟩), 3, rfl, ⟨Nat.le_refl _, C_ints _ 3 _ (by simp) [3, 3, 3] (by decide) rfl⟩, fun ad h => by cases h; simp, by repeat (first | with_reducible exact HB.out | with_reducible apply below_alloc | with_reducible apply pw_below_drewN | with_reducible apply below_drew1 | (with_reducible refine below_set ?_ (by first | omega | (simp; omega))))⟩
  by_cases k4 : k = 4
  · subst k4
    have HE : Aside0 (findS newTab 4 = some ⟨[3], 1, 0, 0⟩) := ⟨rfl⟩
    go_enter Tryd.func40, Tryd.ntmps40
    go_wp2
    rw [HE.out]
    exact bodyPost_ret (v := .tuple #[.agg #[.slice (some ⟨w.heap.size + 2, 0, none⟩) 1 1, .int .i64 1, .int .i64 0, .int .i64 (0)], .bool true]) (by simp [results, Tryd.results40, go_sem]) rfl ⟨(some ⟨w.heap.size + 2, 0, none⟩), 1, rfl, ⟨Nat.le_refl _, C_ints _ 3 _ (by simp) [3] (by decide) rfl⟩, fun ad h => by cases h; simp, by repeat (first | with_reducible exact HB.out | with_reducible apply below_alloc | with_reducible apply pw_below_drewN | with_reducible apply below_drew1 | (with_reducible refine below_set ?_ (by first | omega | (simp; omega))))⟩
  by_cases k5 : k = 5
  · subst k5
    have HE : Aside0 (findS newTab 5 = some ⟨[3], 2, 0, 0⟩) := ⟨rfl⟩
    go_enter Tryd.func40, Tryd.ntmps40
    go_wp2
    rw [HE.out]
    exact bodyPost_ret (v := .tuple #[.agg #[.slice (some ⟨w.heap.size + 2, 0, none⟩) 1 1, .int .i64 2, .int .i64 0, .int .i64 (0)], .bool true]) (by simp [results, Tryd.results40, go_sem]) rfl ⟨(some ⟨w.heap.size + 2, 0, none⟩), 1, rfl, ⟨Nat.le_refl _, C_ints _ 3 _ (by simp) [3] (by decide) rfl⟩, fun ad h => by cases h; simp, by repeat (first | with_reducible exact HB.out | with_reducible apply below_alloc | with_reducible apply pw_below_drewN | with_reducible apply below_drew1 | (with_reducible refine below_set ?_ (by first | omega | (simp; omega))))⟩
  by_cases k6 : k = 6
  · subst k6
    have HE : Aside0 (findS newTab 6 = some ⟨[1], 0, 0, -1⟩) := ⟨rfl⟩
    go_enter Tryd.func40, Tryd.ntmps40
    go_wp2
    rw [HE.out]
    exact bodyPost_ret (v := .tuple #[.agg #[.slice (some ⟨w.heap.size + 2, 0, none⟩) 1 1, .int .i64 0, .int .i64 0, .int .i64 (-1)], .bool true]) (by simp [results, Tryd.results40, go_sem]) rfl ⟨(some ⟨w.heap.size + 2, 0, none⟩), 1, rfl, ⟨Nat.le_refl _, C_ints _ 3 _ (by simp) [1] (by decide) rfl⟩, fun ad h => by cases h; simp, by repeat (first | with_reducible exact HB.out | with_reducible apply below_alloc | with_reducible apply pw_below_drewN | with_reducible apply below_drew1 | (with_reducible refine below_set ?_ (by first | omega | (simp; omega))))⟩
  by_cases k7 : k = 7
  · subst k7
    have HE : Aside0 (findS newTab 7 = some ⟨[4, 4, 4, 5], 0, 0, 0⟩) := ⟨rfl⟩
    go_enter Tryd.func40, Tryd.ntmps40
    go_wp2
    rw [HE.out]
    exact bodyPost_ret (v := .tuple #[.agg #[.slice (some ⟨w.heap.size + 2, 0, none⟩) 4 4, .int .i64 0, .int .i64 0, .int .i64 (0)], .bool true]) (by simp [results, Tryd.results40, go_sem]) rfl ⟨(some ⟨w.heap.size + 2, 0, none⟩), 4, rfl, ⟨Nat.le_refl _, C_ints _ 3 _ (by simp) [4, 4, 4, 5] (by decide) rfl⟩, fun ad h => by cases h; simp, by repeat (first | with_reducible exact HB.out | with_reducible apply below_alloc | with_reducible apply pw_below_drewN | with_reducible apply below_drew1 | (with_reducible refine below_set ?_ (by first | omega | (simp; omega))))⟩
  by_cases k8 : k = 8
  · subst k8
    have HE : Aside0 (findS newTab 8 = some ⟨[2, 2, 2], 0, 1, 1⟩) := ⟨rfl⟩
    go_enter Tryd.func40, Tryd.ntmps40
    go_wp2
    rw [HE.out]
    exact bodyPost_ret (v := .tuple #[.agg #[.slice (some ⟨w.heap.size + 2, 0, none⟩) 3 3, .int .i64 0, .int .i64 1, .int .i64 (1)], .bool true]) (by simp [results, Tryd.results40, go_sem]) rfl ⟨(some ⟨w.heap.size + 2, 0, none⟩), 3, rfl, ⟨Nat.le_refl _, C_ints _ 3 _ (by simp) [2, 2, 2] (by decide) rfl⟩, fun ad h => by cases h; simp, by repeat (first | with_reducible exact HB.out | with_reducible apply below_alloc | with_reducible apply pw_below_drewN | with_reducible apply below_drew1 | (with_reducible refine below_set ?_ (by first | omega | (simp; omega))))⟩
  have HE : Aside0 (findS newTab k = none) := ⟨findS_no _ _ (fun i h1 h2 => by simp [newTab] at h2; omega)⟩
  go_enter Tryd.func40, Tryd.ntmps40
  go_wp2
  rw [HE.out]
  exact bodyPost_ret (v := .tuple #[.agg #[.slice none 0 0, .int .i64 0, .int .i64 0, .int .i64 0], .bool false]) (by simp [results, Tryd.results40, go_sem]) rfl ⟨none, 0, rfl, ⟨Nat.le_refl _, C_nil _ _⟩, Past.none _, by repeat (first | with_reducible exact HB.out | with_reducible apply below_alloc | with_reducible apply pw_below_drewN | with_reducible apply below_drew1 | (with_reducible refine below_set ?_ (by first | omega | (simp; omega))))⟩
end Go.Proofs.YtglfebpgdghlfaaDoor.L
end
section
namespace Go.Proofs.YtglfebpgdghlfaaDoor.L
open Go.RowKit Go.ChangeShapes Go.WideShapes Go.Proofs.YtglfebpgdghlfaaDoorW.PrintWords Go.Proofs.YtglfebpgdghlfaaDoorW.PrintLast Go.Proofs.YtglfebpgdghlfaaDoorW.PrintMore
attribute [local go_sem] max2_int min2_int max_two min_two max_three min_three max_four min_four
set_option maxRecDepth 100000 in
set_option maxHeartbeats 4000000 in
theorem rtyped_2 (A : Option Addr) (c : Nat) (s : Scene) (w : World) (h : kNode.C w A s.nodes.length s.nodes) (hS : ∀ i : Nat, i < s.nodes.length → Small (nd s.nodes i)) (hTS : ∀ i : Nat, i < s.nodes.length → TextsSmall (nd s.nodes i)) :
    Calls Tryd.prog 21 #[.agg #[.slice A s.nodes.length c, .int .i64 s.root], .int .i64 2] w fun e w' => e = .returned (.tuple #[.int .i64 (typedS newTab s.nodes).1, .int .i64 (typedS newTab s.nodes).2]) ∧ Below w.heap.size w w' := by
  have HR := Aside0.mk h
  have HS := Aside0.mk hS
  have HTS := Aside0.mk hTS
  have b0 := h.2.1
  have HB := Aside0.mk (below_alloc (Below.refl w.heap.size w) (.cells #[.slice A s.nodes.length c, .int .i64 s.root] 39))
  have k0 := box_cell w _ rfl #[.slice A s.nodes.length c, .int .i64 s.root] 39 0 (.slice A s.nodes.length c) rfl
  have HK := Aside0.mk k0
  have hu := Tryd.underlying39
  have hun := Tryd.underlying26
  have hus := Tryd.underlying66
  clear h hS hTS
  go_enter Tryd.func21, Tryd.ntmps21
  go_wp2
  clear k0
  go_loopw [6] (fun v6 W => ∃ i : Nat, i ≤ s.nodes.length ∧ v6 = .int .i64 i ∧ Aside0 (∀ j : Nat, j < i → nodeT newTab (nd s.nodes j) = 0) ∧ Aside0 (Below w.heap.size w W) ∧ Aside0 (W.cell? ⟨w.heap.size, 0, none⟩ = some (.slice A s.nodes.length c))) (fun v6 _ => s.nodes.length - (intOf v6).toNat)
  case atStart => exact ⟨0, by omega, rfl, ⟨fun j h => by omega⟩, HB, HK⟩
  case round =>
    clear HK HB
    obtain ⟨i, hi, rfl, HA, HW, HK⟩ := hrel
    have k0 := HK.out
    by_cases hlt : i < s.nodes.length
    · obtain ⟨adn, A1, c1, A2, c2, A3, c3, rfl, x0, x1, x2, x3, hN⟩ := at_node HR.out i hlt
      replace x0 := pw_cell_below HW.out x0
      replace x1 := pw_cell_below HW.out x1
      replace x2 := pw_cell_below HW.out x2
      replace x3 := pw_cell_below HW.out x3
      have HN := Aside0.mk hN
      clear hN
      go_wp2_with fail
      refine (rspec_2 (nd s.nodes i).kind _).mono ?_
      rintro e w6 ⟨A4, c4, rfl, hS6, -, hB6⟩
      have HB6 := Aside0.mk (below_step HW.out hB6)
      replace k0 := pw_cell_below hB6 k0
      replace x0 := pw_cell_below hB6 x0
      replace x1 := pw_cell_below hB6 x1
      replace x2 := pw_cell_below hB6 x2
      replace x3 := pw_cell_below hB6 x3
      cases hf : findS newTab (nd s.nodes i).kind with
      | none =>
        have HE := Aside0.mk (typedS_bad (tab := newTab) hlt HA.out (by unfold nodeT; rw [hf]; exact (by decide : ¬ (9 : Int) = 0)))
        have HE2 := Aside0.mk (show nodeT newTab (nd s.nodes i) = 9 from by unfold nodeT; rw [hf])
        clear hf hS6 hB6 x0 x1 x2 x3
        go_wp2
        go_ret2
        exact ⟨ret_pair (by rw [HE.out, HE2.out]), below_step HB6.out (below_alloc (Below.refl _ _) _)⟩
      | some sp =>
        have HE2 := Aside0.mk (show nodeT newTab (nd s.nodes i) = nodeErr (nd s.nodes i) sp from by unfold nodeT; rw [hf])
        rw [hf] at hS6
        have hbs := below_alloc (Below.refl w6.heap.size w6) (.cells #[.slice A4 sp.ints.length c4, .int .i64 sp.texts, .int .i64 sp.least, .int .i64 sp.most] 66)
        have q0 := box_cell w6 _ rfl #[.slice A4 sp.ints.length c4, .int .i64 sp.texts, .int .i64 sp.least, .int .i64 sp.most] 66 0 (.slice A4 sp.ints.length c4) rfl
        have q1 := box_cell w6 _ rfl #[.slice A4 sp.ints.length c4, .int .i64 sp.texts, .int .i64 sp.least, .int .i64 sp.most] 66 1 (.int .i64 sp.texts) rfl
        have q2 := box_cell w6 _ rfl #[.slice A4 sp.ints.length c4, .int .i64 sp.texts, .int .i64 sp.least, .int .i64 sp.most] 66 2 (.int .i64 sp.least) rfl
        have q3 := box_cell w6 _ rfl #[.slice A4 sp.ints.length c4, .int .i64 sp.texts, .int .i64 sp.least, .int .i64 sp.most] 66 3 (.int .i64 sp.most) rfl
        have HS6 := Aside0.mk (SpecC.below hS6 hbs)
        have HB7 := Aside0.mk (below_step HB6.out hbs)
        replace k0 := pw_cell_below hbs k0
        replace x0 := pw_cell_below hbs x0
        replace x1 := pw_cell_below hbs x1
        replace x2 := pw_cell_below hbs x2
        replace x3 := pw_cell_below hbs x3
        clear hf hS6 hB6 hbs
        go_wp2
        go_region_held3 (fun W => W.cell? ⟨w.heap.size, 0, none⟩ = some (.slice (some adn) s.nodes.length c) ∧ W.cell? (adn.add (i * 4)) = some (.int .i64 (nd s.nodes i).kind) ∧ W.cell? ⟨(adn.add (i * 4)).block, (adn.add (i * 4)).off + 1, none⟩ = some (.slice A1 (nd s.nodes i).ints.length c1) ∧ W.cell? ⟨(adn.add (i * 4)).block, (adn.add (i * 4)).off + 2, none⟩ = some (.slice A2 (nd s.nodes i).texts.length c2) ∧ W.cell? ⟨(adn.add (i * 4)).block, (adn.add (i * 4)).off + 3, none⟩ = some (.slice A3 (nd s.nodes i).kids.length c3) ∧
            W.cell? ⟨w6.heap.size, 0, none⟩ = some (.slice A4 sp.ints.length c4) ∧ W.cell? ⟨w6.heap.size, 1, none⟩ = some (.int .i64 sp.texts) ∧ W.cell? ⟨w6.heap.size, 2, none⟩ = some (.int .i64 sp.least) ∧ W.cell? ⟨w6.heap.size, 3, none⟩ = some (.int .i64 sp.most))
          (first
            | (go_split_ands
               (repeat' apply And.intro)
               all_goals first
                 | with_reducible assumption
                 | with_reducible exact pw_cell_below hB (by assumption)
                 | (simp [*]; done)))
          (first
            | (go_at_call 41; refine (rcheck_any (nd s.nodes i) A1 c1 A2 c2 A3 c3 sp A4 c4 _ (HN.out.below (below_drew HB7.out)) (SpecC.below HS6.out (below_drew (Below.refl _ _))) (HTS.out i hlt) (HS.out i hlt)).mono ?_; rintro e w8 ⟨rfl, hB8⟩; have hB := hB8))
        have HB8 := Aside0.mk (below_step (below_drew HB7.out) hB)
        have HK8 := Aside0.mk (pw_cell_below hB (show (w6.alloc _).drew.cell? _ = _ from k0))
        clear hB x0 x1 x2 x3 q0 q1 q2 q3 k0
        by_cases hz : nodeErr (nd s.nodes i) sp = 0
        · have HA2 := Aside0.mk (ext_lt HA.out (HE2.out.trans hz))
          rw [hz]
          clear hz
          go_wp2
          go_roundw
          case rel => exact ⟨i + 1, by omega, by go_num, HA2, HB8, HK8⟩
          case measure => simp [intOf]; omega
        · have HE := Aside0.mk (typedS_bad (tab := newTab) hlt HA.out (by rw [HE2.out]; exact hz))
          have dz : (nodeErr (nd s.nodes i) sp != 0) = true := by simpa using hz
          clear hz
          go_wp2
          go_ret2
          exact ⟨ret_pair (by rw [HE.out, HE2.out]), HB8.out⟩
    · obtain rfl : i = s.nodes.length := by omega
      have HE := Aside0.mk (typedS_ok (tab := newTab) HA.out)
      go_wp2
      go_ret2
      exact ⟨ret_pair HE.out, HW.out⟩
end Go.Proofs.YtglfebpgdghlfaaDoor.L
end
section
namespace Go.Proofs.YtglfebpgdghlfaaDoor.L
open Go.RowKit Go.ChangeShapes Go.WideShapes Go.Proofs.YtglfebpgdghlfaaDoorW.PrintWords Go.Proofs.YtglfebpgdghlfaaDoorW.PrintLast Go.Proofs.YtglfebpgdghlfaaDoorW.PrintMore
attribute [local go_sem] max2_int min2_int max_two min_two max_three min_three max_four min_four
noncomputable def rightB (s : Scene) : Bool := (gcheck s).1 == 0
set_option maxRecDepth 100000 in
theorem rright_any (A : Option Addr) (c : Nat) (s : Scene) (w : World) (h : kNode.C w A s.nodes.length s.nodes) (hc : s.nodes.length ≤ c) (hM : rows s.nodes ≤ 1000000) :
    Calls Tryd.prog 50 #[.agg #[.slice A s.nodes.length c, .int .i64 s.root]] w fun e w' => e = .returned (.bool (rightB s)) ∧ Below w.heap.size w w' := by
  have HR := Aside0.mk h
  have HB := Aside0.mk (below_alloc (Below.refl w.heap.size w) (.cells #[.slice A s.nodes.length c, .int .i64 s.root] 39))
  have k0 := box_cell w _ rfl #[.slice A s.nodes.length c, .int .i64 s.root] 39 0 (.slice A s.nodes.length c) rfl
  have k1 := box_cell w _ rfl #[.slice A s.nodes.length c, .int .i64 s.root] 39 1 (.int .i64 s.root) rfl
  have hu := Tryd.underlying39
  have HE := Aside0.mk (show rightB s = ((gcheck s).1 == 0) from rfl)
  clear h
  go_enter Tryd.func50, Tryd.ntmps50
  go_wp2_with fail
  refine (rchk_any A c s _ (Kd.C_below HR.out HB.out) hc hM).mono ?_
  rintro e w1 ⟨rfl, hB1⟩
  have HB1 := Aside0.mk (below_step HB.out hB1)
  clear hB1 k0 k1
  generalize (gcheck s).1 = g at HE ⊢
  generalize (gcheck s).2 = g2
  go_wp2
  go_ret
  exact ⟨ret_bool HE.out.symm, HB1.out⟩
noncomputable def whole2 (s : Scene) : Bool := (typedS newTab s.nodes).1 == 0 && rightB s
set_option maxRecDepth 100000 in
set_option maxHeartbeats 1000000 in
theorem rwhole_2 (A : Option Addr) (c : Nat) (s : Scene) (w : World) (h : kNode.C w A s.nodes.length s.nodes) (hc : s.nodes.length ≤ c) (hS : ∀ i : Nat, i < s.nodes.length → Small (nd s.nodes i)) (hTS : ∀ i : Nat, i < s.nodes.length → TextsSmall (nd s.nodes i)) (hM : rows s.nodes ≤ 1000000) :
    Calls Tryd.prog 25 #[.agg #[.slice A s.nodes.length c, .int .i64 s.root], .int .i64 2] w fun e w' => e = .returned (.bool (whole2 s)) ∧ Below w.heap.size w w' := by
  have HR := Aside0.mk h
  have HB := Aside0.mk (below_alloc (Below.refl w.heap.size w) (.cells #[.slice A s.nodes.length c, .int .i64 s.root] 39))
  have k0 := box_cell w _ rfl #[.slice A s.nodes.length c, .int .i64 s.root] 39 0 (.slice A s.nodes.length c) rfl
  have k1 := box_cell w _ rfl #[.slice A s.nodes.length c, .int .i64 s.root] 39 1 (.int .i64 s.root) rfl
  have hu := Tryd.underlying39
  clear h
  go_enter Tryd.func25, Tryd.ntmps25
  go_wp2_with fail
  refine (rtyped_2 A c s _ (Kd.C_below HR.out HB.out) hS hTS).mono ?_
  rintro e w1 ⟨rfl, hB1⟩
  replace k0 := pw_cell_below hB1 k0
  replace k1 := pw_cell_below hB1 k1
  have HB1 := Aside0.mk (below_step HB.out hB1)
  clear hB1
  by_cases hty : (typedS newTab s.nodes).1 = 0
  · have HE : Aside0 (whole2 s = rightB s) := ⟨by unfold whole2; rw [hty]; rfl⟩
    rw [hty]
    clear hty
    go_wp2_with fail
    refine (rright_any A c s _ (Kd.C_below HR.out HB1.out) hc hM).mono ?_
    rintro e w2 ⟨rfl, hB2⟩
    have HB2 := Aside0.mk (below_step HB1.out hB2)
    clear hB2 k0 k1
    go_wp2
    go_ret
    exact ⟨ret_bool HE.out.symm, HB2.out⟩
  · have HE : Aside0 (whole2 s = false) := ⟨by unfold whole2; rw [beq_eq_false_iff_ne.2 hty]; rfl⟩
    have d1 : ((typedS newTab s.nodes).1 == 0) = false := beq_eq_false_iff_ne.2 hty
    clear hty k0 k1
    go_wp2
    go_ret
    exact ⟨ret_bool HE.out.symm, HB1.out⟩
end Go.Proofs.YtglfebpgdghlfaaDoor.L
end
