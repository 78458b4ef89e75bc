/- Part 6 of the texts that YtglfebpgdghlfaaDoorRowUK rests on, joined by a program: what its functions come to. Conditions: those that each theorem states. -/
import Derived.Test.YtglfebpgdghlfaaDoorQpe
import Derived.Lib.MapLaws
set_option linter.unusedVariables false
set_option linter.unusedSimpArgs false
section
-- PRINTED BY print.sh 35421559b90ae4d0a3588c463048766b98c2df88dd9212a6774a882060cdf62d: not written by this session
namespace Go.Proofs.YtglfebpgdghlfaaDoor.PUpgradeUps
open Go.RowKit Go.Proofs.YtglfebpgdghlfaaDoorW.PrintWords Go.Proofs.YtglfebpgdghlfaaDoorW.PrintLast Go.Proofs.YtglfebpgdghlfaaDoorW.PrintMore
attribute [local go_sem] max2_int min2_int max_two min_two max_three min_three max_four min_four   -- for this text's walks alone
set_option linter.unusedVariables false
set_option linter.unusedSimpArgs false
mutual
def dioramaref09_Check.l0 : Nat → Int → List (S26) → Int → Option (Int × Int)
 | 0, _, _, _ => none
 | k + 1, x5, x354000, x354001 => if x5 < (x354000.length : Int) then ((dioramaref09_Led.f k x354000 x354001 x5).bind fun t356 => (if 0 ≤ x5 then (if x5 < (t356.length : Int) then (if rdOf false t356 x5 = true then (some (14, x5)) else (dioramaref09_Check.l0 k (wrap64 (x5 + 1)) x354000 x354001)) else (none)) else (none))) else ((dioramaref09_Led.f k x354000 x354001 x354001).bind fun t360 => (dioramaref09_Check.l1 k t360 0 x354000 x354001))
def dioramaref09_Check.l1 : Nat → List Bool → Int → List (S26) → Int → Option (Int × Int)
 | 0, _, _, _, _ => none
 | k + 1, x6, x7, x354000, x354001 => if x7 < (x354000.length : Int) then (if x7 = x354001 then (dioramaref09_Check.l1 k x6 (wrap64 (x7 + 1)) x354000 x354001) else (if 0 ≤ x7 then (if x7 < (x6.length : Int) then (if rdOf false x6 x7 = true then (dioramaref09_Check.l1 k x6 (wrap64 (x7 + 1)) x354000 x354001) else (some (15, x7))) else (none)) else (none))) else (some (0, 0))
end
def dioramaref09_Check.f (k : Nat) (l0_0 : List (S26)) (a0_1 : Int) : Option (Int × Int) := (dioramaref09_Place.f l0_0 a0_1 a0_1).bind fun t354 => (if t354 = true then ((dioramaref09_Refs.f k l0_0 a0_1).bind fun t355 => (if t355 ≥ 0 then (some (13, t355)) else (dioramaref09_Check.l0 k 0 l0_0 a0_1))) else (some (13, (-1))))
set_option maxHeartbeats 8000000 in
set_option maxRecDepth 100000 in
theorem dioramaref09_Check.calls (k : Nat) (A0_0 : Option Addr) (c0_0 : Nat) (l0_0 : List (S26)) (a0_1 : Int) (r1 : Int) (r2 : Int) (w : World) (hr0_0 : Kd.C k26 w A0_0 l0_0.length l0_0) (hc0_0 : l0_0.length ≤ c0_0) (h : dioramaref09_Check.f k l0_0 a0_1 = some (r1, r2)) :
  Calls Tryd.prog 22 #[.agg #[.slice A0_0 l0_0.length c0_0, .int .i64 a0_1]] w fun e w' => e = .returned (.tuple #[.int .i64 r1, .int .i64 r2]) ∧ Below w.heap.size w w' := by
 have hu39 := Tryd.underlying39
 have HR0_0 := Aside0.mk hr0_0
 have HC0_0 := Aside0.mk hc0_0
 clear hr0_0 hc0_0
 have HB := Aside0.mk (Below.refl w.heap.size w)
 have H : ((dioramaref09_Place.f l0_0 a0_1 a0_1).bind fun t354 => (if t354 = true then ((dioramaref09_Refs.f k l0_0 a0_1).bind fun t355 => (if t355 ≥ 0 then (some (13, t355)) else (dioramaref09_Check.l0 k 0 l0_0 a0_1))) else (some (13, (-1))))) = some (r1, r2) := h
 clear h
 replace H := Option.bind_eq_some_iff.mp H
 obtain ⟨t354, A20, H⟩ := H
 replace H : (if t354 = true then ((dioramaref09_Refs.f k l0_0 a0_1).bind fun t355 => (if t355 ≥ 0 then (some (13, t355)) else (dioramaref09_Check.l0 k 0 l0_0 a0_1))) else (some (13, (-1)))) = some (r1, r2) := H
 have A2 := Aside0.mk A20
 clear A20
 by_cases c3 : t354 = true
 ·subst c3
  have H1 : ((dioramaref09_Refs.f k l0_0 a0_1).bind fun t355 => (if t355 ≥ 0 then (some (13, t355)) else (dioramaref09_Check.l0 k 0 l0_0 a0_1))) = some (r1, r2) := by rw [if_pos rfl] at H; exact H
  clear H
  have H := H1
  clear H1
  replace H := Option.bind_eq_some_iff.mp H
  obtain ⟨t355, A40, H⟩ := H
  replace H : (if t355 ≥ 0 then (some (13, t355)) else (dioramaref09_Check.l0 k 0 l0_0 a0_1)) = some (r1, r2) := H
  have A4 := Aside0.mk A40
  clear A40
  by_cases c5 : t355 ≥ 0
  ·rw [if_pos c5] at H
   have c5b0 : decide (0 ≤ t355) = true := decide_eq_true c5
   clear c5
   simp only [Option.some.injEq, Prod.mk.injEq] at H
   obtain ⟨rfl, rfl⟩ := H
   go_enter Tryd.func22, Tryd.ntmps22
   go_wp2_with (first | ((with_reducible refine gate_dst (N := 1) rfl ?_); refine box_event ?hg (N := 1) ?hd (cs := #[.slice A0_0 l0_0.length c0_0, .int .i64 a0_1]) (t := 39) ?hr ?_; (case hd => rfl); (case hg => rfl); (case hr => first | (go_simp; done) | (go_simp; rfl)); intro gb353 hg w6 hbox hb; have n0_ := Aside0.mk (below_step (by repeat (first | (with_reducible first | exact HB.out | apply below_alloc | apply pw_below_drewN | apply below_drew1) | exact HB.out)) hb); have n1_ := Aside0.mk (hbox); have n2_ := Aside0.mk ((by rw [hg]; exact (below_size (by repeat (first | (with_reducible first | exact HB.out | apply below_alloc | apply pw_below_drewN | apply below_drew1) | exact HB.out))) : w.heap.size ≤ gb353)); have n3_ := Aside0.mk ((by rw [hg]; exact (below_size (by repeat (first | (with_reducible first | exact HB.out | apply below_alloc | apply pw_below_drewN | apply below_drew1) | exact HB.out))) : w.heap.size ≤ gb353)); clear HB; have HB := n0_; have BK353 := n1_; have GW353 := n2_; have GE353 := n3_; clear n0_ n1_ n2_ n3_; clear hb hbox hg; have hcz7_0 : w6.cell? ⟨gb353, 0, none⟩ = some (.slice A0_0 l0_0.length c0_0) := (blk_cell BK353.out 0).trans rfl; have hcz7_1 : w6.cell? ⟨gb353, 1, none⟩ = some (.int .i64 a0_1) := (blk_cell BK353.out 1).trans rfl; have hfz7_0 := blk_frozen BK353.out 0; have hfz7_1 := blk_frozen BK353.out 1) | ((with_reducible refine gate_callee (f := 47) rfl ?_); refine goesL_ (some 11) rfl rfl Tryd.func47 (by kernel_rfl) rfl #[.agg #[.slice A0_0 l0_0.length c0_0, .int .i64 a0_1], .int .i64 a0_1] rfl (by (try simp only [List.map_toArray, List.map_cons, List.map_nil]); first | done | rfl | (simp only [List.length_drop, List.length_take]; rfl)) ?_; (with_reducible refine (dioramaref09_Place.calls _ _ l0_0 a0_1 a0_1 true _ ?side1 ?side2 A2.out).mono ?_); (case side1 => repeat (first | exact (Kd.C_below HR0_0.out HB.out) | (with_reducible refine Kd.C_alloc ?_ _) | (with_reducible refine Kd.C_drewN ?_ _) | (with_reducible refine Kd.C_drew ?_))); (case side2 => exact HC0_0.out); rintro e w8 ⟨rfl, hb⟩; refine ⟨_, rfl, ?_⟩; have n0_ := Aside0.mk (blk_below (g := gb353) (o := .cells #[.slice A0_0 l0_0.length c0_0, .int .i64 a0_1] 39 (0, 0)) (by (with_reducible repeat (first | refine blk_drewN ?_ _ | refine blk_drew ?_ | refine blk_alloc ?_ _)); exact BK353.out) hb); have n1_ := Aside0.mk (below_step (by repeat (first | (with_reducible first | exact HB.out | apply below_alloc | apply pw_below_drewN | apply below_drew1 | refine below_set ?_ GE353.out) | exact HB.out)) hb); clear BK353; clear HB; have BK353 := n0_; have HB := n1_; clear n0_ n1_; (try clear hb); (try clear hb2); (try clear hk); (try clear hi); have hcz9_0 : w8.cell? ⟨gb353, 0, none⟩ = some (.slice A0_0 l0_0.length c0_0) := (blk_cell BK353.out 0).trans rfl; have hcz9_1 : w8.cell? ⟨gb353, 1, none⟩ = some (.int .i64 a0_1) := (blk_cell BK353.out 1).trans rfl; have hfz9_0 := blk_frozen BK353.out 0; have hfz9_1 := blk_frozen BK353.out 1) | ((with_reducible refine gate_callee (f := 48) rfl ?_); refine goesL_ (some 14) rfl rfl Tryd.func48 (by kernel_rfl) rfl #[.agg #[.slice A0_0 l0_0.length c0_0, .int .i64 a0_1]] rfl (by (try simp only [List.map_toArray, List.map_cons, List.map_nil]); first | done | rfl | (simp only [List.length_drop, List.length_take]; rfl)) ?_; (with_reducible refine (dioramaref09_Refs.calls k _ _ l0_0 a0_1 t355 _ ?side1 ?side2 A4.out).mono ?_); (case side1 => repeat (first | exact (Kd.C_below HR0_0.out HB.out) | (with_reducible refine Kd.C_alloc ?_ _) | (with_reducible refine Kd.C_drewN ?_ _) | (with_reducible refine Kd.C_drew ?_))); (case side2 => exact HC0_0.out); rintro e w10 ⟨rfl, hb⟩; refine ⟨_, rfl, ?_⟩; have n0_ := Aside0.mk (blk_below (g := gb353) (o := .cells #[.slice A0_0 l0_0.length c0_0, .int .i64 a0_1] 39 (0, 0)) (by (with_reducible repeat (first | refine blk_drewN ?_ _ | refine blk_drew ?_ | refine blk_alloc ?_ _)); exact BK353.out) hb); have n1_ := Aside0.mk (below_step (by repeat (first | (with_reducible first | exact HB.out | apply below_alloc | apply pw_below_drewN | apply below_drew1 | refine below_set ?_ GE353.out) | exact HB.out)) hb); clear BK353; clear HB; have BK353 := n0_; have HB := n1_; clear n0_ n1_; (try clear hb); (try clear hb2); (try clear hk); (try clear hi)))
   go_ret2
   exact ⟨by first | rfl | (simp [errW_none, errW_some] <;> rfl) | (simp [*, errW_none, errW_some] <;> rfl), by repeat (first | (with_reducible first | exact HB.out | apply below_alloc | apply pw_below_drewN | apply below_drew1 | refine below_set ?_ GE353.out) | exact HB.out)⟩
  ·rw [if_neg c5] at H
   have c5b0 : decide (0 ≤ t355) = false := decide_eq_false c5
   clear c5
   have H' := Aside0.mk H
   clear H
   go_enter Tryd.func22, Tryd.ntmps22
   go_wp2_with (first | ((with_reducible refine gate_dst (N := 1) rfl ?_); refine box_event ?hg (N := 1) ?hd (cs := #[.slice A0_0 l0_0.length c0_0, .int .i64 a0_1]) (t := 39) ?hr ?_; (case hd => rfl); (case hg => rfl); (case hr => first | (go_simp; done) | (go_simp; rfl)); intro gb353 hg w11 hbox hb; have n0_ := Aside0.mk (below_step (by repeat (first | (with_reducible first | exact HB.out | apply below_alloc | apply pw_below_drewN | apply below_drew1) | exact HB.out)) hb); have n1_ := Aside0.mk (hbox); have n2_ := Aside0.mk ((by rw [hg]; exact (below_size (by repeat (first | (with_reducible first | exact HB.out | apply below_alloc | apply pw_below_drewN | apply below_drew1) | exact HB.out))) : w.heap.size ≤ gb353)); have n3_ := Aside0.mk ((by rw [hg]; exact (below_size (by repeat (first | (with_reducible first | exact HB.out | apply below_alloc | apply pw_below_drewN | apply below_drew1) | exact HB.out))) : w.heap.size ≤ gb353)); clear HB; have HB := n0_; have BK353 := n1_; have GW353 := n2_; have GE353 := n3_; clear n0_ n1_ n2_ n3_; clear hb hbox hg; have hcz12_0 : w11.cell? ⟨gb353, 0, none⟩ = some (.slice A0_0 l0_0.length c0_0) := (blk_cell BK353.out 0).trans rfl; have hcz12_1 : w11.cell? ⟨gb353, 1, none⟩ = some (.int .i64 a0_1) := (blk_cell BK353.out 1).trans rfl; have hfz12_0 := blk_frozen BK353.out 0; have hfz12_1 := blk_frozen BK353.out 1) | ((with_reducible refine gate_callee (f := 47) rfl ?_); refine goesL_ (some 11) rfl rfl Tryd.func47 (by kernel_rfl) rfl #[.agg #[.slice A0_0 l0_0.length c0_0, .int .i64 a0_1], .int .i64 a0_1] rfl (by (try simp only [List.map_toArray, List.map_cons, List.map_nil]); first | done | rfl | (simp only [List.length_drop, List.length_take]; rfl)) ?_; (with_reducible refine (dioramaref09_Place.calls _ _ l0_0 a0_1 a0_1 true _ ?side1 ?side2 A2.out).mono ?_); (case side1 => repeat (first | exact (Kd.C_below HR0_0.out HB.out) | (with_reducible refine Kd.C_alloc ?_ _) | (with_reducible refine Kd.C_drewN ?_ _) | (with_reducible refine Kd.C_drew ?_))); (case side2 => exact HC0_0.out); rintro e w13 ⟨rfl, hb⟩; refine ⟨_, rfl, ?_⟩; have n0_ := Aside0.mk (blk_below (g := gb353) (o := .cells #[.slice A0_0 l0_0.length c0_0, .int .i64 a0_1] 39 (0, 0)) (by (with_reducible repeat (first | refine blk_drewN ?_ _ | refine blk_drew ?_ | refine blk_alloc ?_ _)); exact BK353.out) hb); have n1_ := Aside0.mk (below_step (by repeat (first | (with_reducible first | exact HB.out | apply below_alloc | apply pw_below_drewN | apply below_drew1 | refine below_set ?_ GE353.out) | exact HB.out)) hb); clear BK353; clear HB; have BK353 := n0_; have HB := n1_; clear n0_ n1_; (try clear hb); (try clear hb2); (try clear hk); (try clear hi); have hcz14_0 : w13.cell? ⟨gb353, 0, none⟩ = some (.slice A0_0 l0_0.length c0_0) := (blk_cell BK353.out 0).trans rfl; have hcz14_1 : w13.cell? ⟨gb353, 1, none⟩ = some (.int .i64 a0_1) := (blk_cell BK353.out 1).trans rfl; have hfz14_0 := blk_frozen BK353.out 0; have hfz14_1 := blk_frozen BK353.out 1) | ((with_reducible refine gate_callee (f := 48) rfl ?_); refine goesL_ (some 14) rfl rfl Tryd.func48 (by kernel_rfl) rfl #[.agg #[.slice A0_0 l0_0.length c0_0, .int .i64 a0_1]] rfl (by (try simp only [List.map_toArray, List.map_cons, List.map_nil]); first | done | rfl | (simp only [List.length_drop, List.length_take]; rfl)) ?_; (with_reducible refine (dioramaref09_Refs.calls k _ _ l0_0 a0_1 t355 _ ?side1 ?side2 A4.out).mono ?_); (case side1 => repeat (first | exact (Kd.C_below HR0_0.out HB.out) | (with_reducible refine Kd.C_alloc ?_ _) | (with_reducible refine Kd.C_drewN ?_ _) | (with_reducible refine Kd.C_drew ?_))); (case side2 => exact HC0_0.out); rintro e w15 ⟨rfl, hb⟩; refine ⟨_, rfl, ?_⟩; have n0_ := Aside0.mk (blk_below (g := gb353) (o := .cells #[.slice A0_0 l0_0.length c0_0, .int .i64 a0_1] 39 (0, 0)) (by (with_reducible repeat (first | refine blk_drewN ?_ _ | refine blk_drew ?_ | refine blk_alloc ?_ _)); exact BK353.out) hb); have n1_ := Aside0.mk (below_step (by repeat (first | (with_reducible first | exact HB.out | apply below_alloc | apply pw_below_drewN | apply below_drew1 | refine below_set ?_ GE353.out) | exact HB.out)) hb); clear BK353; clear HB; have BK353 := n0_; have HB := n1_; clear n0_ n1_; (try clear hb); (try clear hb2); (try clear hk); (try clear hi)))
   go_loopg [5] k (fun kq v5 w' => ∃ (x5_1 : Int), v5 = .int .i64 x5_1 ∧ Aside0 (dioramaref09_Check.l0 kq x5_1 l0_0 a0_1 = some (r1, r2)) ∧ Aside0 (kq ≤ k) ∧ Aside0 (w'.heap[gb353]? = some (.cells #[(.slice A0_0 l0_0.length c0_0), .int .i64 a0_1] 39 (0, 0))) ∧ Aside0 (Below w.heap.size w w'))
   case atStart => exact ⟨(0), (by first | rfl | (simp; done) | (simp [*]; done)), H', ⟨Nat.le_refl _⟩, ⟨by (with_reducible repeat (first | refine blk_drewN ?_ _ | refine blk_drew ?_ | refine blk_alloc ?_ _)); exact BK353.out⟩, ⟨by repeat (first | (with_reducible first | exact HB.out | apply below_alloc | apply pw_below_drewN | apply below_drew1 | refine below_set ?_ GE353.out) | exact HB.out)⟩⟩
   case round =>
    clear H'
    try clear c2
    try clear p2
    try clear c3
    try clear c4
    try clear c5
    try clear c5b0
    try clear hcz12_0
    try clear hcz12_1
    try clear hcz14_0
    try clear hcz14_1
    try clear hcz7_0
    try clear hcz7_1
    try clear hcz9_0
    try clear hcz9_1
    try clear hfz12_0
    try clear hfz12_1
    try clear hfz14_0
    try clear hfz14_1
    try clear hfz7_0
    try clear hfz7_1
    try clear hfz9_0
    try clear hfz9_1
    obtain ⟨x5_1, rfl, HA, HK1, BK353, HB⟩ := hrel
    cases gk with
    | zero => exact absurd HA.out (by simp [dioramaref09_Check.l0])
    | succ k1 =>
     have H := HA.out
     clear HA
     simp only [dioramaref09_Check.l0] at H
     by_cases c16 : x5_1 < (l0_0.length : Int)
     ·rw [if_pos c16] at H
      have c16b0 : decide (x5_1 < (l0_0.length : Int)) = true := decide_eq_true c16
      clear c16
      replace H := Option.bind_eq_some_iff.mp H
      obtain ⟨t356, A170, H⟩ := H
      replace H : (if 0 ≤ x5_1 then (if x5_1 < (t356.length : Int) then (if rdOf false t356 x5_1 = true then (some (14, x5_1)) else (dioramaref09_Check.l0 k1 (wrap64 (x5_1 + 1)) l0_0 a0_1)) else (none)) else (none)) = some (r1, r2) := H
      have A17 := Aside0.mk A170
      clear A170
      by_cases c18 : 0 ≤ x5_1
      ·rw [if_pos c18] at H
       have c18b0 : decide (0 ≤ x5_1) = true := decide_eq_true c18
       clear c18
       by_cases c19 : x5_1 < (t356.length : Int)
       ·rw [if_pos c19] at H
        have c19b0 : decide (x5_1 < (t356.length : Int)) = true := decide_eq_true c19
        clear c19
        obtain ⟨bq20, hbq20⟩ : ∃ b_ : Bool, b_ = (rdOf false t356 x5_1) := ⟨_, rfl⟩
        replace H : (if bq20 = true then (some (14, x5_1)) else (dioramaref09_Check.l0 k1 (wrap64 (x5_1 + 1)) l0_0 a0_1)) = some (r1, r2) := by rw [← hbq20] at H; exact H
        have Nbq20 := Aside0.mk hbq20
        clear hbq20
        by_cases c21 : bq20 = true
        ·subst c21
         have H1 : (some (14, x5_1)) = some (r1, r2) := by rw [if_pos rfl] at H; exact H
         clear H
         have H := H1
         clear H1
         simp only [Option.some.injEq, Prod.mk.injEq] at H
         obtain ⟨rfl, rfl⟩ := H
         have hcz22_0 : wr.cell? ⟨gb353, 0, none⟩ = some (.slice A0_0 l0_0.length c0_0) := (blk_cell BK353.out 0).trans rfl
         have hcz22_1 : wr.cell? ⟨gb353, 1, none⟩ = some (.int .i64 a0_1) := (blk_cell BK353.out 1).trans rfl
         have hfz22_0 := blk_frozen BK353.out 0
         have hfz22_1 := blk_frozen BK353.out 1
         go_wp2_with (first | ((with_reducible refine gate_callee (f := 49) rfl ?_); refine goesL_ (some 27) rfl rfl Tryd.func49 (by kernel_rfl) rfl #[.agg #[.slice A0_0 l0_0.length c0_0, .int .i64 a0_1], .int .i64 x5_1] rfl (by (try simp only [List.map_toArray, List.map_cons, List.map_nil]); first | done | rfl | (simp only [List.length_drop, List.length_take]; rfl)) ?_; (with_reducible refine (dioramaref09_Led.calls k1 _ _ l0_0 a0_1 x5_1 t356 _ ?side1 ?side2 A17.out).mono ?_); (case side1 => repeat (first | exact (Kd.C_below HR0_0.out HB.out) | (with_reducible refine Kd.C_alloc ?_ _) | (with_reducible refine Kd.C_drewN ?_ _) | (with_reducible refine Kd.C_drew ?_))); (case side2 => exact HC0_0.out); rintro e w23 ⟨v357, rfl, ho0, hb⟩; refine ⟨_, rfl, ?_⟩; have n0_ := Aside0.mk (Kd.R_lower ho0 (below_size (by repeat (first | (with_reducible first | exact HB.out | apply below_alloc | apply pw_below_drewN | apply below_drew1 | refine below_set ?_ GE353.out) | exact HB.out)))); have n1_ := Aside0.mk (blk_below (g := gb353) (o := .cells #[.slice A0_0 l0_0.length c0_0, .int .i64 a0_1] 39 (0, 0)) (by (with_reducible repeat (first | refine blk_drewN ?_ _ | refine blk_drew ?_ | refine blk_alloc ?_ _)); exact BK353.out) hb); have n2_ := Aside0.mk (below_step (by repeat (first | (with_reducible first | exact HB.out | apply below_alloc | apply pw_below_drewN | apply below_drew1 | refine below_set ?_ GE353.out) | exact HB.out)) hb); clear BK353; clear HB; have HO358 := n0_; have BK353 := n1_; have HB := n2_; clear n0_ n1_ n2_; (try clear hb); (try clear hb2); (try clear hk); (try clear hi); (try clear ho0); obtain ⟨Ao24, co24, eo24⟩ := Kd.R_slice HO358.out; subst eo24; have p359 : 0 ≤ (x5_1 : Int) := of_decide_eq_true (by first | (with_reducible assumption) | assumption); have q359 : x5_1 < (t356.length : Int) := of_decide_eq_true (by first | (with_reducible assumption) | assumption); obtain ⟨ad359, e359, hx359_0⟩ := Kd.at_bool (Kd.R_reads' HO358.out).2.2 x5_1 p359 q359; (try rw [← Nbq20.out] at hx359_0); cases e359; replace p359 := eq_true p359; replace q359 := eq_true q359))
         go_ret2
         exact ⟨by first | rfl | (simp [errW_none, errW_some] <;> rfl) | (simp [*, errW_none, errW_some] <;> rfl), by repeat (first | (with_reducible first | exact HB.out | apply below_alloc | apply pw_below_drewN | apply below_drew1 | refine below_set ?_ GE353.out) | exact HB.out)⟩
        ·replace c21 := Bool.eq_false_iff.mpr c21
         subst c21
         have H1 : (dioramaref09_Check.l0 k1 (wrap64 (x5_1 + 1)) l0_0 a0_1) = some (r1, r2) := by rw [if_neg (show ¬ (false = true) by decide)] at H; exact H
         clear H
         have H := H1
         clear H1
         have H' := Aside0.mk H
         clear H
         have hcz25_0 : wr.cell? ⟨gb353, 0, none⟩ = some (.slice A0_0 l0_0.length c0_0) := (blk_cell BK353.out 0).trans rfl
         have hcz25_1 : wr.cell? ⟨gb353, 1, none⟩ = some (.int .i64 a0_1) := (blk_cell BK353.out 1).trans rfl
         have hfz25_0 := blk_frozen BK353.out 0
         have hfz25_1 := blk_frozen BK353.out 1
         go_wp2_with (first | ((with_reducible refine gate_callee (f := 49) rfl ?_); refine goesL_ (some 27) rfl rfl Tryd.func49 (by kernel_rfl) rfl #[.agg #[.slice A0_0 l0_0.length c0_0, .int .i64 a0_1], .int .i64 x5_1] rfl (by (try simp only [List.map_toArray, List.map_cons, List.map_nil]); first | done | rfl | (simp only [List.length_drop, List.length_take]; rfl)) ?_; (with_reducible refine (dioramaref09_Led.calls k1 _ _ l0_0 a0_1 x5_1 t356 _ ?side1 ?side2 A17.out).mono ?_); (case side1 => repeat (first | exact (Kd.C_below HR0_0.out HB.out) | (with_reducible refine Kd.C_alloc ?_ _) | (with_reducible refine Kd.C_drewN ?_ _) | (with_reducible refine Kd.C_drew ?_))); (case side2 => exact HC0_0.out); rintro e w26 ⟨v357, rfl, ho0, hb⟩; refine ⟨_, rfl, ?_⟩; have n0_ := Aside0.mk (Kd.R_lower ho0 (below_size (by repeat (first | (with_reducible first | exact HB.out | apply below_alloc | apply pw_below_drewN | apply below_drew1 | refine below_set ?_ GE353.out) | exact HB.out)))); have n1_ := Aside0.mk (blk_below (g := gb353) (o := .cells #[.slice A0_0 l0_0.length c0_0, .int .i64 a0_1] 39 (0, 0)) (by (with_reducible repeat (first | refine blk_drewN ?_ _ | refine blk_drew ?_ | refine blk_alloc ?_ _)); exact BK353.out) hb); have n2_ := Aside0.mk (below_step (by repeat (first | (with_reducible first | exact HB.out | apply below_alloc | apply pw_below_drewN | apply below_drew1 | refine below_set ?_ GE353.out) | exact HB.out)) hb); clear BK353; clear HB; have HO358 := n0_; have BK353 := n1_; have HB := n2_; clear n0_ n1_ n2_; (try clear hb); (try clear hb2); (try clear hk); (try clear hi); (try clear ho0); obtain ⟨Ao27, co27, eo27⟩ := Kd.R_slice HO358.out; subst eo27; have p359 : 0 ≤ (x5_1 : Int) := of_decide_eq_true (by first | (with_reducible assumption) | assumption); have q359 : x5_1 < (t356.length : Int) := of_decide_eq_true (by first | (with_reducible assumption) | assumption); obtain ⟨ad359, e359, hx359_0⟩ := Kd.at_bool (Kd.R_reads' HO358.out).2.2 x5_1 p359 q359; (try rw [← Nbq20.out] at hx359_0); cases e359; replace p359 := eq_true p359; replace q359 := eq_true q359))
         go_roundg k1
         case measure => have := HK1.out; omega
         case rel => exact ⟨(wrap64 (x5_1 + 1)), (by first | rfl | (simp; done) | (simp [*]; done)), H', ⟨by have := HK1.out; omega⟩, ⟨by (with_reducible repeat (first | refine blk_drewN ?_ _ | refine blk_drew ?_ | refine blk_alloc ?_ _)); exact BK353.out⟩, ⟨by repeat (first | (with_reducible first | exact HB.out | apply below_alloc | apply pw_below_drewN | apply below_drew1 | refine below_set ?_ GE353.out) | exact HB.out)⟩⟩
       ·rw [if_neg c19] at H
        exact absurd H (by simp)
      ·rw [if_neg c18] at H
       exact absurd H (by simp)
     ·rw [if_neg c16] at H
      have c16b0 : decide (x5_1 < (l0_0.length : Int)) = false := decide_eq_false c16
      clear c16
      replace H := Option.bind_eq_some_iff.mp H
      obtain ⟨t360, A280, H⟩ := H
      replace H : (dioramaref09_Check.l1 k1 t360 0 l0_0 a0_1) = some (r1, r2) := H
      have A28 := Aside0.mk A280
      clear A280
      have H' := Aside0.mk H
      clear H
      have hcz29_0 : wr.cell? ⟨gb353, 0, none⟩ = some (.slice A0_0 l0_0.length c0_0) := (blk_cell BK353.out 0).trans rfl
      have hcz29_1 : wr.cell? ⟨gb353, 1, none⟩ = some (.int .i64 a0_1) := (blk_cell BK353.out 1).trans rfl
      have hfz29_0 := blk_frozen BK353.out 0
      have hfz29_1 := blk_frozen BK353.out 1
      go_wp2_with (first | ((with_reducible refine gate_callee (f := 49) rfl ?_); refine goesL_ (some 35) rfl rfl Tryd.func49 (by kernel_rfl) rfl #[.agg #[.slice A0_0 l0_0.length c0_0, .int .i64 a0_1], .int .i64 a0_1] rfl (by (try simp only [List.map_toArray, List.map_cons, List.map_nil]); first | done | rfl | (simp only [List.length_drop, List.length_take]; rfl)) ?_; (with_reducible refine (dioramaref09_Led.calls k1 _ _ l0_0 a0_1 a0_1 t360 _ ?side1 ?side2 A28.out).mono ?_); (case side1 => repeat (first | exact (Kd.C_below HR0_0.out HB.out) | (with_reducible refine Kd.C_alloc ?_ _) | (with_reducible refine Kd.C_drewN ?_ _) | (with_reducible refine Kd.C_drew ?_))); (case side2 => exact HC0_0.out); rintro e w30 ⟨v361, rfl, ho0, hb⟩; refine ⟨_, rfl, ?_⟩; have n0_ := Aside0.mk (Kd.R_lower ho0 (below_size (by repeat (first | (with_reducible first | exact HB.out | apply below_alloc | apply pw_below_drewN | apply below_drew1 | refine below_set ?_ GE353.out) | exact HB.out)))); have n1_ := Aside0.mk (blk_below (g := gb353) (o := .cells #[.slice A0_0 l0_0.length c0_0, .int .i64 a0_1] 39 (0, 0)) (by (with_reducible repeat (first | refine blk_drewN ?_ _ | refine blk_drew ?_ | refine blk_alloc ?_ _)); exact BK353.out) hb); have n2_ := Aside0.mk (below_step (by repeat (first | (with_reducible first | exact HB.out | apply below_alloc | apply pw_below_drewN | apply below_drew1 | refine below_set ?_ GE353.out) | exact HB.out)) hb); clear BK353; clear HB; have HO362 := n0_; have BK353 := n1_; have HB := n2_; clear n0_ n1_ n2_; (try clear hb); (try clear hb2); (try clear hk); (try clear hi); (try clear ho0)))
      go_loopg [7] k1 (fun kq v7 w' => ∃ (x7_2 : Int), v7 = .int .i64 x7_2 ∧ Aside0 (dioramaref09_Check.l1 kq t360 x7_2 l0_0 a0_1 = some (r1, r2)) ∧ Aside0 (kq ≤ k1) ∧ Aside0 (Kd.R Kd.bool 4 w' w.heap.size (fun _ => True) v361 t360) ∧ Aside0 (w'.heap[gb353]? = some (.cells #[(.slice A0_0 l0_0.length c0_0), .int .i64 a0_1] 39 (0, 0))) ∧ Aside0 (Below w.heap.size w w'))
      case atStart => exact ⟨(0), (by first | rfl | (simp; done) | (simp [*]; done)), H', ⟨Nat.le_refl _⟩, ⟨by (with_reducible repeat (first | apply Kd.R_alloc | apply Kd.R_drewN | apply Kd.R_drew)); exact HO362.out⟩, ⟨by (with_reducible repeat (first | refine blk_drewN ?_ _ | refine blk_drew ?_ | refine blk_alloc ?_ _)); exact BK353.out⟩, ⟨by repeat (first | (with_reducible first | exact HB.out | apply below_alloc | apply pw_below_drewN | apply below_drew1 | refine below_set ?_ GE353.out) | exact HB.out)⟩⟩
      case round =>
       clear H'
       try clear c1
       try clear c2
       try clear p2
       try clear q2
       try clear c3
       try clear p3
       try clear q3
       try clear hx3
       try clear c4
       try clear c5
       try clear c5b0
       try clear p6
       try clear c16
       try clear c16b0
       try clear c18
       try clear c18b0
       try clear c19
       try clear c19b0
       try clear q20
       try clear c21
       try clear c22
       try clear hcz12_0
       try clear hcz12_1
       try clear hcz14_0
       try clear hcz14_1
       try clear hcz22_0
       try clear hcz22_1
       try clear hcz25_0
       try clear hcz25_1
       try clear hcz29_0
       try clear hcz29_1
       try clear hcz7_0
       try clear hcz7_1
       try clear hcz9_0
       try clear hcz9_1
       try clear hfz12_0
       try clear hfz12_1
       try clear hfz14_0
       try clear hfz14_1
       try clear hfz22_0
       try clear hfz22_1
       try clear hfz25_0
       try clear hfz25_1
       try clear hfz29_0
       try clear hfz29_1
       try clear hfz7_0
       try clear hfz7_1
       try clear hfz9_0
       try clear hfz9_1
       try clear hx359_0
       try clear p2
       try clear p359
       try clear q359
       obtain ⟨x7_2, rfl, HA, HK2, HO_6, BK353, HB⟩ := hrel
       cases gk with
       | zero => exact absurd HA.out (by simp [dioramaref09_Check.l1])
       | succ k2 =>
        have H := HA.out
        clear HA
        simp only [dioramaref09_Check.l1] at H
        by_cases c31 : x7_2 < (l0_0.length : Int)
        ·rw [if_pos c31] at H
         have c31b0 : decide (x7_2 < (l0_0.length : Int)) = true := decide_eq_true c31
         clear c31
         by_cases c32 : x7_2 = a0_1
         ·rw [if_pos c32] at H
          have c32b0 : (x7_2 == a0_1) = true := beq_iff_eq.mpr c32
          have c32b1 : (x7_2 != a0_1) = false := bne_eq_false_iff_eq.mpr c32
          clear c32
          have H' := Aside0.mk H
          clear H
          have hcz33_0 : wr.cell? ⟨gb353, 0, none⟩ = some (.slice A0_0 l0_0.length c0_0) := (blk_cell BK353.out 0).trans rfl
          have hcz33_1 : wr.cell? ⟨gb353, 1, none⟩ = some (.int .i64 a0_1) := (blk_cell BK353.out 1).trans rfl
          have hfz33_0 := blk_frozen BK353.out 0
          have hfz33_1 := blk_frozen BK353.out 1
          go_wp2
          go_roundg k2
          case measure => have := HK1.out; have := HK2.out; omega
          case rel => exact ⟨(wrap64 (x7_2 + 1)), (by first | rfl | (simp; done) | (simp [*]; done)), H', ⟨by have := HK1.out; have := HK2.out; omega⟩, ⟨by (with_reducible repeat (first | apply Kd.R_alloc | apply Kd.R_drewN | apply Kd.R_drew)); exact HO_6.out⟩, ⟨by (with_reducible repeat (first | refine blk_drewN ?_ _ | refine blk_drew ?_ | refine blk_alloc ?_ _)); exact BK353.out⟩, ⟨by repeat (first | (with_reducible first | exact HB.out | apply below_alloc | apply pw_below_drewN | apply below_drew1 | refine below_set ?_ GE353.out) | exact HB.out)⟩⟩
         ·rw [if_neg c32] at H
          have c32b0 : (x7_2 == a0_1) = false := beq_eq_false_iff_ne.mpr c32
          have c32b1 : (x7_2 != a0_1) = true := bne_iff_ne.mpr c32
          by_cases c34 : 0 ≤ x7_2
          ·rw [if_pos c34] at H
           have c34b0 : decide (0 ≤ x7_2) = true := decide_eq_true c34
           clear c34
           by_cases c35 : x7_2 < (t360.length : Int)
           ·rw [if_pos c35] at H
            have c35b0 : decide (x7_2 < (t360.length : Int)) = true := decide_eq_true c35
            clear c35
            obtain ⟨bq36, hbq36⟩ : ∃ b_ : Bool, b_ = (rdOf false t360 x7_2) := ⟨_, rfl⟩
            replace H : (if bq36 = true then (dioramaref09_Check.l1 k2 t360 (wrap64 (x7_2 + 1)) l0_0 a0_1) else (some (15, x7_2))) = some (r1, r2) := by rw [← hbq36] at H; exact H
            have Nbq36 := Aside0.mk hbq36
            clear hbq36
            by_cases c37 : bq36 = true
            ·subst c37
             have H1 : (dioramaref09_Check.l1 k2 t360 (wrap64 (x7_2 + 1)) l0_0 a0_1) = some (r1, r2) := by rw [if_pos rfl] at H; exact H
             clear H
             have H := H1
             clear H1
             have H' := Aside0.mk H
             clear H
             have hcz38_0 : wr.cell? ⟨gb353, 0, none⟩ = some (.slice A0_0 l0_0.length c0_0) := (blk_cell BK353.out 0).trans rfl
             have hcz38_1 : wr.cell? ⟨gb353, 1, none⟩ = some (.int .i64 a0_1) := (blk_cell BK353.out 1).trans rfl
             have hfz38_0 := blk_frozen BK353.out 0
             have hfz38_1 := blk_frozen BK353.out 1
             obtain ⟨Ao39, co39, eo39⟩ := Kd.R_slice HO_6.out
             subst eo39
             have p363 : 0 ≤ (x7_2 : Int) := of_decide_eq_true (by first | (with_reducible assumption) | assumption)
             have q363 : x7_2 < (t360.length : Int) := of_decide_eq_true (by first | (with_reducible assumption) | assumption)
             obtain ⟨ad363, e363, hx363_0⟩ := Kd.at_bool (Kd.R_reads' HO_6.out).2.2 x7_2 p363 q363
             (try rw [← Nbq36.out] at hx363_0)
             cases e363
             replace p363 := eq_true p363
             replace q363 := eq_true q363
             go_wp2
             go_roundg k2
             case measure => have := HK1.out; have := HK2.out; omega
             case rel => exact ⟨(wrap64 (x7_2 + 1)), (by first | rfl | (simp; done) | (simp [*]; done)), H', ⟨by have := HK1.out; have := HK2.out; omega⟩, ⟨by (with_reducible repeat (first | apply Kd.R_alloc | apply Kd.R_drewN | apply Kd.R_drew)); exact HO_6.out⟩, ⟨by (with_reducible repeat (first | refine blk_drewN ?_ _ | refine blk_drew ?_ | refine blk_alloc ?_ _)); exact BK353.out⟩, ⟨by repeat (first | (with_reducible first | exact HB.out | apply below_alloc | apply pw_below_drewN | apply below_drew1 | refine below_set ?_ GE353.out) | exact HB.out)⟩⟩
            ·replace c37 := Bool.eq_false_iff.mpr c37
             subst c37
             have H1 : (some (15, x7_2)) = some (r1, r2) := by rw [if_neg (show ¬ (false = true) by decide)] at H; exact H
             clear H
             have H := H1
             clear H1
             simp only [Option.some.injEq, Prod.mk.injEq] at H
             obtain ⟨rfl, rfl⟩ := H
             have hcz40_0 : wr.cell? ⟨gb353, 0, none⟩ = some (.slice A0_0 l0_0.length c0_0) := (blk_cell BK353.out 0).trans rfl
             have hcz40_1 : wr.cell? ⟨gb353, 1, none⟩ = some (.int .i64 a0_1) := (blk_cell BK353.out 1).trans rfl
             have hfz40_0 := blk_frozen BK353.out 0
             have hfz40_1 := blk_frozen BK353.out 1
             obtain ⟨Ao41, co41, eo41⟩ := Kd.R_slice HO_6.out
             subst eo41
             have p363 : 0 ≤ (x7_2 : Int) := of_decide_eq_true (by first | (with_reducible assumption) | assumption)
             have q363 : x7_2 < (t360.length : Int) := of_decide_eq_true (by first | (with_reducible assumption) | assumption)
             obtain ⟨ad363, e363, hx363_0⟩ := Kd.at_bool (Kd.R_reads' HO_6.out).2.2 x7_2 p363 q363
             (try rw [← Nbq36.out] at hx363_0)
             cases e363
             replace p363 := eq_true p363
             replace q363 := eq_true q363
             go_wp2
             go_ret2
             exact ⟨by first | rfl | (simp [errW_none, errW_some] <;> rfl) | (simp [*, errW_none, errW_some] <;> rfl), by repeat (first | (with_reducible first | exact HB.out | apply below_alloc | apply pw_below_drewN | apply below_drew1 | refine below_set ?_ GE353.out) | exact HB.out)⟩
           ·rw [if_neg c35] at H
            exact absurd H (by simp)
          ·rw [if_neg c34] at H
           exact absurd H (by simp)
        ·rw [if_neg c31] at H
         have c31b0 : decide (x7_2 < (l0_0.length : Int)) = false := decide_eq_false c31
         clear c31
         simp only [Option.some.injEq, Prod.mk.injEq] at H
         obtain ⟨rfl, rfl⟩ := H
         have hcz42_0 : wr.cell? ⟨gb353, 0, none⟩ = some (.slice A0_0 l0_0.length c0_0) := (blk_cell BK353.out 0).trans rfl
         have hcz42_1 : wr.cell? ⟨gb353, 1, none⟩ = some (.int .i64 a0_1) := (blk_cell BK353.out 1).trans rfl
         have hfz42_0 := blk_frozen BK353.out 0
         have hfz42_1 := blk_frozen BK353.out 1
         go_wp2
         go_ret2
         exact ⟨by first | rfl | (simp [errW_none, errW_some] <;> rfl) | (simp [*, errW_none, errW_some] <;> rfl), by repeat (first | (with_reducible first | exact HB.out | apply below_alloc | apply pw_below_drewN | apply below_drew1 | refine below_set ?_ GE353.out) | exact HB.out)⟩
 ·replace c3 := Bool.eq_false_iff.mpr c3
  subst c3
  have H1 : (some (13, (-1))) = some (r1, r2) := by rw [if_neg (show ¬ (false = true) by decide)] at H; exact H
  clear H
  have H := H1
  clear H1
  simp only [Option.some.injEq, Prod.mk.injEq] at H
  obtain ⟨rfl, rfl⟩ := H
  go_enter Tryd.func22, Tryd.ntmps22
  go_wp2_with (first | ((with_reducible refine gate_dst (N := 1) rfl ?_); refine box_event ?hg (N := 1) ?hd (cs := #[.slice A0_0 l0_0.length c0_0, .int .i64 a0_1]) (t := 39) ?hr ?_; (case hd => rfl); (case hg => rfl); (case hr => first | (go_simp; done) | (go_simp; rfl)); intro gb353 hg w43 hbox hb; have n0_ := Aside0.mk (below_step (by repeat (first | (with_reducible first | exact HB.out | apply below_alloc | apply pw_below_drewN | apply below_drew1) | exact HB.out)) hb); have n1_ := Aside0.mk (hbox); have n2_ := Aside0.mk ((by rw [hg]; exact (below_size (by repeat (first | (with_reducible first | exact HB.out | apply below_alloc | apply pw_below_drewN | apply below_drew1) | exact HB.out))) : w.heap.size ≤ gb353)); have n3_ := Aside0.mk ((by rw [hg]; exact (below_size (by repeat (first | (with_reducible first | exact HB.out | apply below_alloc | apply pw_below_drewN | apply below_drew1) | exact HB.out))) : w.heap.size ≤ gb353)); clear HB; have HB := n0_; have BK353 := n1_; have GW353 := n2_; have GE353 := n3_; clear n0_ n1_ n2_ n3_; clear hb hbox hg; have hcz44_0 : w43.cell? ⟨gb353, 0, none⟩ = some (.slice A0_0 l0_0.length c0_0) := (blk_cell BK353.out 0).trans rfl; have hcz44_1 : w43.cell? ⟨gb353, 1, none⟩ = some (.int .i64 a0_1) := (blk_cell BK353.out 1).trans rfl; have hfz44_0 := blk_frozen BK353.out 0; have hfz44_1 := blk_frozen BK353.out 1) | ((with_reducible refine gate_callee (f := 47) rfl ?_); refine goesL_ (some 11) rfl rfl Tryd.func47 (by kernel_rfl) rfl #[.agg #[.slice A0_0 l0_0.length c0_0, .int .i64 a0_1], .int .i64 a0_1] rfl (by (try simp only [List.map_toArray, List.map_cons, List.map_nil]); first | done | rfl | (simp only [List.length_drop, List.length_take]; rfl)) ?_; (with_reducible refine (dioramaref09_Place.calls _ _ l0_0 a0_1 a0_1 false _ ?side1 ?side2 A2.out).mono ?_); (case side1 => repeat (first | exact (Kd.C_below HR0_0.out HB.out) | (with_reducible refine Kd.C_alloc ?_ _) | (with_reducible refine Kd.C_drewN ?_ _) | (with_reducible refine Kd.C_drew ?_))); (case side2 => exact HC0_0.out); rintro e w45 ⟨rfl, hb⟩; refine ⟨_, rfl, ?_⟩; have n0_ := Aside0.mk (blk_below (g := gb353) (o := .cells #[.slice A0_0 l0_0.length c0_0, .int .i64 a0_1] 39 (0, 0)) (by (with_reducible repeat (first | refine blk_drewN ?_ _ | refine blk_drew ?_ | refine blk_alloc ?_ _)); exact BK353.out) hb); have n1_ := Aside0.mk (below_step (by repeat (first | (with_reducible first | exact HB.out | apply below_alloc | apply pw_below_drewN | apply below_drew1 | refine below_set ?_ GE353.out) | exact HB.out)) hb); clear BK353; clear HB; have BK353 := n0_; have HB := n1_; clear n0_ n1_; (try clear hb); (try clear hb2); (try clear hk); (try clear hi)))
  go_ret2
  exact ⟨by first | rfl | (simp [errW_none, errW_some] <;> rfl) | (simp [*, errW_none, errW_some] <;> rfl), by repeat (first | (with_reducible first | exact HB.out | apply below_alloc | apply pw_below_drewN | apply below_drew1 | refine below_set ?_ GE353.out) | exact HB.out)⟩

mutual
def dioramaref10_meet.l0 : Nat → Int → List Int → Int → List (S26) → Int → Option (List Int)
 | 0, _, _, _, _, _ => none
 | k + 1, x1, x2, x7, x438000, x438001 => if x7 < (x2.length : Int) then (if 0 ≤ x7 then (if (rd x2 x7) = x1 then (some x2) else (dioramaref10_meet.l0 k x1 x2 (wrap64 (x7 + 1)) x438000 x438001)) else (none)) else (dioramaref10_meet.l1 k x1 x2 0 x438000 x438001)
def dioramaref10_meet.l1 : Nat → Int → List Int → Int → List (S26) → Int → Option (List Int)
 | 0, _, _, _, _, _ => none
 | k + 1, x1, x2, x8, x438000, x438001 => if 0 ≤ x1 then (if x1 < (x438000.length : Int) then (if x8 < (((rd_T26 x438000 x1).f3).length : Int) then (if 0 ≤ x8 then ((dioramaref10_meet.f k x438000 x438001 (rd ((rd_T26 x438000 x1).f3) x8) x2).bind fun t442 => (dioramaref10_meet.l1 k x1 t442 (wrap64 (x8 + 1)) x438000 x438001)) else (none)) else ((some (([] : List Int) : List Int)).bind fun y445 => (if y445.length + x2.length < 17592186044416 then ((some (y445 ++ x2 : List Int)).bind fun y448 => (if y448.length < 17592186044416 then (some (y448 ++ [x1])) else (none))) else (none)))) else (none)) else (none)
def dioramaref10_meet.f : Nat → List (S26) → Int → Int → List Int → Option (List Int)
 | 0, _, _, _, _ => none
 | k + 1, l0_0, a0_1, a1, l2 => dioramaref10_meet.l0 k a1 l2 0 l0_0 a0_1
end
def dioramaref10_meet.T9 : Bool × List (List Nat × List Nat) := (true, [([], []), ([], []), ([1], [1]), ([], []), ([2, 3], [2, 3]), ([4], [4]), ([5], [5]), ([], []), ([6, 7], [6, 7]), ([8], [8]), ([], []), ([0, 9, 10], [0, 9, 10]), ([11, 11, 0, 1, 2, 3, 4, 5, 6, 7, 8, 9, 10, 11], [10, 11])])
def dioramaref10_meet.B9 : List Nat := [0, 0, 2, 0, 14, 30, 62, 0, 254, 510, 0, 2047, 4095]
theorem dioramaref10_meet.tab9 : rtab .any (opsOf Tryd.f98 9) = dioramaref10_meet.T9 := by kernel_rfl
theorem dioramaref10_meet.bits9 : waitsOk dioramaref10_meet.T9.2 dioramaref10_meet.B9 = true := by kernel_rfl
set_option maxHeartbeats 8000000 in
set_option maxRecDepth 100000 in
theorem dioramaref10_meet.calls (k : Nat) : ∀ (A0_0 : Option Addr) (c0_0 : Nat) (l0_0 : List (S26)) (a0_1 : Int) (a1 : Int) (P2_ : Nat → Prop) (A2 : Option Addr) (c2 : Nat) (l2 : List Int) (r : List Int) (w : World) (hr0_0 : Kd.C k26 w A0_0 l0_0.length l0_0) (hc0_0 : l0_0.length ≤ c0_0) (hs2 : Kd.V (Kd.int .i64) 3 w w.heap.size (fun k_ => P2_ k_) (.slice A2 l2.length c2) l2) (h : dioramaref10_meet.f k l0_0 a0_1 a1 l2 = some r),
  Calls Tryd.prog 98 #[.agg #[.slice A0_0 l0_0.length c0_0, .int .i64 a0_1], .int .i64 a1, .slice A2 l2.length c2] w fun e w' => ∃ v0_ : Value, e = .returned (v0_) ∧ Kd.V (Kd.int .i64) 3 w' w.heap.size (fun k_ => (P2_ k_ ∨ w.heap.size ≤ k_)) v0_ r ∧ Below w.heap.size w w' := by
 induction k using Nat.strongRecOn with
 | _ k ih =>
 intro A0_0 c0_0 l0_0 a0_1 a1 P2_ A2 c2 l2 r w hr0_0 hc0_0 hs2 h
 cases k with
 | zero => exact absurd h (by simp [dioramaref10_meet.f])
 | succ k =>
 simp only [dioramaref10_meet.f] at h
 have hu39 := Tryd.underlying39
 have HR0_0 := Aside0.mk hr0_0
 have HC0_0 := Aside0.mk hc0_0
 clear hr0_0 hc0_0
 have HO2 := Aside0.mk (show Kd.V (Kd.int .i64) 3 w w.heap.size (fun k_ => (P2_ k_ ∨ w.heap.size ≤ k_)) (.slice A2 l2.length c2) l2 from Kd.V_mono hs2 (fun k_ hk => .inl hk))
 have HB := Aside0.mk (Below.refl w.heap.size w)
 have H : (dioramaref10_meet.l0 k a1 l2 0 l0_0 a0_1) = some r := h
 clear h
 have H' := Aside0.mk H
 clear H
 go_enter Tryd.func98, Tryd.ntmps98
 go_wp2_with (first | ((with_reducible refine gate_dst (N := 3) rfl ?_); refine box_event ?hg (N := 3) ?hd (cs := #[.slice A0_0 l0_0.length c0_0, .int .i64 a0_1]) (t := 39) ?hr ?_; (case hd => rfl); (case hg => rfl); (case hr => first | (go_simp; done) | (go_simp; rfl)); intro gb437 hg w4 hbox hb; have n0_ := Aside0.mk (Kd.V_below (Kd.V_elderB (by (with_reducible repeat (first | apply Kd.V_alloc | apply Kd.V_drewN | apply Kd.V_drew)); exact HO2.out) gb437 (Nat.le_of_eq hg.symm)) hb); have n1_ := Aside0.mk (below_step (by repeat (first | (with_reducible first | exact HB.out | apply below_alloc | apply pw_below_drewN | apply below_drew1) | exact HB.out)) hb); have n2_ := Aside0.mk (hbox); have n3_ := Aside0.mk ((by rw [hg]; exact (below_size (by repeat (first | (with_reducible first | exact HB.out | apply below_alloc | apply pw_below_drewN | apply below_drew1) | exact HB.out))) : w.heap.size ≤ gb437)); have n4_ := Aside0.mk ((by rw [hg]; exact (below_size (by repeat (first | (with_reducible first | exact HB.out | apply below_alloc | apply pw_below_drewN | apply below_drew1) | exact HB.out))) : w.heap.size ≤ gb437)); clear HO2; clear HB; have HO2 := n0_; have HB := n1_; have BK437 := n2_; have GW437 := n3_; have GE437 := n4_; clear n0_ n1_ n2_ n3_ n4_; clear hb hbox hg))
 go_loopg [7] k (fun kq v7 w' => ∃ (x7_1 : Int), v7 = .int .i64 x7_1 ∧ Aside0 (dioramaref10_meet.l0 kq a1 l2 x7_1 l0_0 a0_1 = some r) ∧ Aside0 (kq ≤ k) ∧ Aside0 (Kd.V (Kd.int .i64) 3 w' w.heap.size (fun k_ => (P2_ k_ ∨ w.heap.size ≤ k_) ∧ k_ ≠ gb437) (.slice A2 l2.length c2) l2) ∧ Aside0 (w'.heap[gb437]? = some (.cells #[(.slice A0_0 l0_0.length c0_0), .int .i64 a0_1] 39 (0, 0))) ∧ Aside0 (Below w.heap.size w w'))
 case atStart => exact ⟨(0), (by first | rfl | (simp; done) | (simp [*]; done)), H', ⟨Nat.le_refl _⟩, ⟨by (with_reducible repeat (first | apply Kd.V_alloc | apply Kd.V_drewN | apply Kd.V_drew)); exact HO2.out⟩, ⟨by (with_reducible repeat (first | refine blk_drewN ?_ _ | refine blk_drew ?_ | refine blk_alloc ?_ _)); exact BK437.out⟩, ⟨by repeat (first | (with_reducible first | exact HB.out | apply below_alloc | apply pw_below_drewN | apply below_drew1 | refine below_set ?_ GE437.out) | exact HB.out)⟩⟩
 case round =>
  clear H'
  try clear c2
  try clear p2
  obtain ⟨x7_1, rfl, HA, HK1, HO_2, BK437, HB⟩ := hrel
  cases gk with
  | zero => exact absurd HA.out (by simp [dioramaref10_meet.l0])
  | succ k1 =>
   have H := HA.out
   clear HA
   simp only [dioramaref10_meet.l0] at H
   by_cases c5 : x7_1 < (l2.length : Int)
   ·rw [if_pos c5] at H
    have c5b0 : decide (x7_1 < (l2.length : Int)) = true := decide_eq_true c5
    clear c5
    by_cases c6 : 0 ≤ x7_1
    ·rw [if_pos c6] at H
     have c6b0 : decide (0 ≤ x7_1) = true := decide_eq_true c6
     clear c6
     by_cases c7 : (rd l2 x7_1) = a1
     ·rw [if_pos c7] at H
      have c7b0 : ((rd l2 x7_1) == a1) = true := beq_iff_eq.mpr c7
      have c7b1 : ((rd l2 x7_1) != a1) = false := bne_eq_false_iff_eq.mpr c7
      clear c7
      obtain rfl := Option.some.inj H
      have p438 : 0 ≤ (x7_1 : Int) := of_decide_eq_true (by first | (with_reducible assumption) | assumption)
      have q438 : x7_1 < (l2.length : Int) := of_decide_eq_true (by first | (with_reducible assumption) | assumption)
      obtain ⟨ad438, e438, hx438_0⟩ := Kd.at_int (Kd.V_reads' HO_2.out).2.2 x7_1 p438 q438
      cases e438
      replace p438 := eq_true p438
      replace q438 := eq_true q438
      go_wp2
      go_ret
      exact ⟨_, by first | rfl | (simp [errW_none, errW_some] <;> rfl) | (simp [*, errW_none, errW_some] <;> rfl), by (with_reducible repeat (first | apply Kd.V_alloc | apply Kd.V_drewN | apply Kd.V_drew)); exact Kd.V_mono HO_2.out (fun _ hk => hk.1), by repeat (first | (with_reducible first | exact HB.out | apply below_alloc | apply pw_below_drewN | apply below_drew1 | refine below_set ?_ GE437.out) | exact HB.out)⟩
     ·rw [if_neg c7] at H
      have c7b0 : ((rd l2 x7_1) == a1) = false := beq_eq_false_iff_ne.mpr c7
      have c7b1 : ((rd l2 x7_1) != a1) = true := bne_iff_ne.mpr c7
      have H' := Aside0.mk H
      clear H
      have p438 : 0 ≤ (x7_1 : Int) := of_decide_eq_true (by first | (with_reducible assumption) | assumption)
      have q438 : x7_1 < (l2.length : Int) := of_decide_eq_true (by first | (with_reducible assumption) | assumption)
      obtain ⟨ad438, e438, hx438_0⟩ := Kd.at_int (Kd.V_reads' HO_2.out).2.2 x7_1 p438 q438
      cases e438
      replace p438 := eq_true p438
      replace q438 := eq_true q438
      go_wp2
      go_roundg k1
      case measure => have := HK1.out; omega
      case rel => exact ⟨(wrap64 (x7_1 + 1)), (by first | rfl | (simp; done) | (simp [*]; done)), H', ⟨by have := HK1.out; omega⟩, ⟨by (with_reducible repeat (first | apply Kd.V_alloc | apply Kd.V_drewN | apply Kd.V_drew)); exact HO_2.out⟩, ⟨by (with_reducible repeat (first | refine blk_drewN ?_ _ | refine blk_drew ?_ | refine blk_alloc ?_ _)); exact BK437.out⟩, ⟨by repeat (first | (with_reducible first | exact HB.out | apply below_alloc | apply pw_below_drewN | apply below_drew1 | refine below_set ?_ GE437.out) | exact HB.out)⟩⟩
    ·rw [if_neg c6] at H
     exact absurd H (by simp)
   ·rw [if_neg c5] at H
    have c5b0 : decide (x7_1 < (l2.length : Int)) = false := decide_eq_false c5
    clear c5
    have H' := Aside0.mk H
    clear H
    go_wp2
    go_loopg [2, 8] k1 (fun kq v2 v8 w' => ∃ (x2_2 : List Int) (x8_2 : Int), v8 = .int .i64 x8_2 ∧ Aside0 (dioramaref10_meet.l1 kq a1 x2_2 x8_2 l0_0 a0_1 = some r) ∧ Aside0 (kq ≤ k1) ∧ Aside0 (Kd.V (Kd.int .i64) 3 w' w.heap.size (fun k_ => (P2_ k_ ∨ w.heap.size ≤ k_) ∧ k_ ≠ gb437) v2 x2_2) ∧ Aside0 (w'.heap[gb437]? = some (.cells #[(.slice A0_0 l0_0.length c0_0), .int .i64 a0_1] 39 (0, 0))) ∧ Aside0 (Below w.heap.size w w'))
    case atStart => exact ⟨(l2), (0), (by first | rfl | (simp; done) | (simp [*]; done)), H', ⟨Nat.le_refl _⟩, ⟨by (with_reducible repeat (first | apply Kd.V_alloc | apply Kd.V_drewN | apply Kd.V_drew)); exact HO_2.out⟩, ⟨by (with_reducible repeat (first | refine blk_drewN ?_ _ | refine blk_drew ?_ | refine blk_alloc ?_ _)); exact BK437.out⟩, ⟨by repeat (first | (with_reducible first | exact HB.out | apply below_alloc | apply pw_below_drewN | apply below_drew1 | refine below_set ?_ GE437.out) | exact HB.out)⟩⟩
    case round =>
     clear H'
     try clear c2
     try clear p2
     try clear p4
     try clear q4
     try clear hx4
     try clear c5
     try clear c5b0
     try clear c6
     try clear c6b0
     try clear p6
     try clear c7
     try clear c7b0
     try clear c7b1
     try clear hx438_0
     try clear p2
     try clear p438
     try clear q438
     obtain ⟨x2_2, x8_2, rfl, HA, HK2, HO_2, BK437, HB⟩ := hrel
     cases gk with
     | zero => exact absurd HA.out (by simp [dioramaref10_meet.l1])
     | succ k2 =>
      have H := HA.out
      clear HA
      simp only [dioramaref10_meet.l1] at H
      by_cases c8 : 0 ≤ a1
      ·rw [if_pos c8] at H
       have c8b0 : decide (0 ≤ a1) = true := decide_eq_true c8
       clear c8
       by_cases c9 : a1 < (l0_0.length : Int)
       ·rw [if_pos c9] at H
        have c9b0 : decide (a1 < (l0_0.length : Int)) = true := decide_eq_true c9
        clear c9
        by_cases c10 : x8_2 < (((rd_T26 l0_0 a1).f3).length : Int)
        ·rw [if_pos c10] at H
         have c10b0 : decide (x8_2 < (((rd_T26 l0_0 a1).f3).length : Int)) = true := decide_eq_true c10
         clear c10
         by_cases c11 : 0 ≤ x8_2
         ·rw [if_pos c11] at H
          have c11b0 : decide (0 ≤ x8_2) = true := decide_eq_true c11
          clear c11
          replace H := Option.bind_eq_some_iff.mp H
          obtain ⟨t442, A120, H⟩ := H
          replace H : (dioramaref10_meet.l1 k2 a1 t442 (wrap64 (x8_2 + 1)) l0_0 a0_1) = some r := H
          have A12 := Aside0.mk A120
          clear A120
          have H' := Aside0.mk H
          clear H
          have hcz13_0 : wr.cell? ⟨gb437, 0, none⟩ = some (.slice A0_0 l0_0.length c0_0) := (blk_cell BK437.out 0).trans rfl
          have hcz13_1 : wr.cell? ⟨gb437, 1, none⟩ = some (.int .i64 a0_1) := (blk_cell BK437.out 1).trans rfl
          have hfz13_0 := blk_frozen BK437.out 0
          have hfz13_1 := blk_frozen BK437.out 1
          have p439 : 0 ≤ (a1 : Int) := of_decide_eq_true (by first | (with_reducible assumption) | assumption)
          have q439 : a1 < (l0_0.length : Int) := of_decide_eq_true (by first | (with_reducible assumption) | assumption)
          obtain ⟨ad439, A439_1, c439_1, A439_2, c439_2, A439_3, c439_3, e439, hx439_0, hx439_1, hx439_2, hx439_3, hl439_1, hi439_1, hl439_2, hi439_2, hl439_3, hi439_3⟩ := at_T26 HR0_0.out a1 p439 q439
          cases e439
          replace hx439_0 := (HB.out.cell (World.block_lt_of_cell? w _ hx439_0)).trans hx439_0
          replace hx439_1 := (HB.out.cell (World.block_lt_of_cell? w _ hx439_1)).trans hx439_1
          replace hx439_2 := (HB.out.cell (World.block_lt_of_cell? w _ hx439_2)).trans hx439_2
          replace hx439_3 := (HB.out.cell (World.block_lt_of_cell? w _ hx439_3)).trans hx439_3
          have HR439_1 := Aside0.mk hi439_1
          have HC439_1 := Aside0.mk hl439_1
          clear hi439_1 hl439_1
          have HR439_2 := Aside0.mk hi439_2
          have HC439_2 := Aside0.mk hl439_2
          clear hi439_2 hl439_2
          have HR439_3 := Aside0.mk hi439_3
          have HC439_3 := Aside0.mk hl439_3
          clear hi439_3 hl439_3
          replace p439 := eq_true p439
          replace q439 := eq_true q439
          try go_wp2
          have n0_ := Aside0.mk (Kd.V_drew HO_2.out)
          have n1_ := Aside0.mk (blk_drew BK437.out)
          have n2_ := Aside0.mk (below_drew1 HB.out)
          clear HO_2
          clear BK437
          clear HB
          have HO_2 := n0_
          have BK437 := n1_
          have HB := n2_
          clear n0_ n1_ n2_
          have p440 : 0 ≤ (a1 : Int) := of_decide_eq_true (by first | (with_reducible assumption) | assumption)
          have q440 : a1 < (l0_0.length : Int) := of_decide_eq_true (by first | (with_reducible assumption) | assumption)
          obtain ⟨ad440, A440_1, c440_1, A440_2, c440_2, A440_3, c440_3, e440, hx440_0, hx440_1, hx440_2, hx440_3, hl440_1, hi440_1, hl440_2, hi440_2, hl440_3, hi440_3⟩ := at_T26 HR0_0.out a1 p440 q440
          have hw440_3 := hx440_3
          have hw440_2 := hx440_2
          have hw440_1 := hx440_1
          have hw440_0 := hx440_0
          obtain rfl : ad439 = ad440 := (by injection e440)
          replace hx440_0 := (HB.out.cell (World.block_lt_of_cell? w _ hx440_0)).trans hx440_0
          replace hx440_1 := (HB.out.cell (World.block_lt_of_cell? w _ hx440_1)).trans hx440_1
          replace hx440_2 := (HB.out.cell (World.block_lt_of_cell? w _ hx440_2)).trans hx440_2
          replace hx440_3 := (HB.out.cell (World.block_lt_of_cell? w _ hx440_3)).trans hx440_3
          have HR440_1 := Aside0.mk hi440_1
          have HC440_1 := Aside0.mk hl440_1
          clear hi440_1 hl440_1
          have HR440_2 := Aside0.mk hi440_2
          have HC440_2 := Aside0.mk hl440_2
          clear hi440_2 hl440_2
          have HR440_3 := Aside0.mk hi440_3
          have HC440_3 := Aside0.mk hl440_3
          clear hi440_3 hl440_3
          replace p440 := eq_true p440
          replace q440 := eq_true q440
          have p441 : 0 ≤ (x8_2 : Int) := of_decide_eq_true (by first | (with_reducible assumption) | assumption)
          have q441 : x8_2 < (((rd_T26 l0_0 a1).f3).length : Int) := of_decide_eq_true (by first | (with_reducible assumption) | assumption)
          obtain ⟨ad441, e441, hx441_0⟩ := Kd.at_int HR440_3.out x8_2 p441 q441
          have hw441_0 := hx441_0
          cases e441
          replace hx441_0 := (HB.out.cell (World.block_lt_of_cell? w _ hx441_0)).trans hx441_0
          replace p441 := eq_true p441
          replace q441 := eq_true q441
          obtain ⟨Ao15, co15, eo15⟩ := Kd.V_slice HO_2.out
          (first | subst eo15 | (injection eo15 with f1_ f2_ f3_; have f4_ := f1_.symm; have f5_ := f3_.symm; clear f1_ f2_ f3_; subst f4_; subst f5_))
          refine start_ (n := 13) (S := fun w' => w'.cell? ⟨gb437, 0, none⟩ = some (.slice (some ad439) l0_0.length c0_0) ∧ w'.cell? ⟨gb437, 1, none⟩ = some (.int .i64 a0_1) ∧ w'.cell? (ad439.add ((a1).toNat * 4)) = some (.int .i64 ((rd_T26 l0_0 a1).f0)) ∧ w'.cell? ⟨(ad439.add ((a1).toNat * 4)).block, (ad439.add ((a1).toNat * 4)).off + 1, none⟩ = some (.slice A440_1 ((rd_T26 l0_0 a1).f1).length c440_1) ∧ w'.cell? ⟨(ad439.add ((a1).toNat * 4)).block, (ad439.add ((a1).toNat * 4)).off + 2, none⟩ = some (.slice A440_2 ((rd_T26 l0_0 a1).f2).length c440_2) ∧ w'.cell? ⟨(ad439.add ((a1).toNat * 4)).block, (ad439.add ((a1).toNat * 4)).off + 3, none⟩ = some (.slice (some ad441) ((rd_T26 l0_0 a1).f3).length c440_3) ∧ w'.cell? (ad441.add (x8_2).toNat) = some (.int .i64 (rd ((rd_T26 l0_0 a1).f3) x8_2))) (ds := []) #[false, false, false, false, false, false, false, false, false, false, false, false, false] (by kernel_rfl) rfl rfl ⟨(blk_cell BK437.out 0).trans rfl, (blk_cell BK437.out 1).trans rfl, ((HB.out.cell (World.block_lt_of_cell? w _ hw440_0)).trans hw440_0), ((HB.out.cell (World.block_lt_of_cell? w _ hw440_1)).trans hw440_1), ((HB.out.cell (World.block_lt_of_cell? w _ hw440_2)).trans hw440_2), ((HB.out.cell (World.block_lt_of_cell? w _ hw440_3)).trans hw440_3), ((HB.out.cell (World.block_lt_of_cell? w _ hw441_0)).trans hw441_0)⟩ (fun hHeld => ?_); refine with_tabW dioramaref10_meet.tab9 dioramaref10_meet.bits9 (fun HT_ HW_ => ?_)
          generalize wr.drew = w14 at HO_2 BK437 HB HR440_1 HR440_2 HR440_3 hx440_0 hx440_1 hx440_2 hx440_3 hx441_0 hHeld ⊢
          refine pure_ (i := 1) (N := some 34) (v := ?_) (a' := ?_) #[false, true, false, false, false, false, false, false, false, false, false, false, false] rfl rfl (any_of HT_.out (by kernel_rfl)) (fun _ _ _ h => h) (Or.inl ⟨by rfl, ?_⟩) ?_ ?_
          rotate_left
          ·intro w'
           go_simp
           with_reducible rfl
          rotate_left
          ·simp only [Act.put, List.setIfInBounds_toArray, List.set_cons_zero, List.set_cons_succ, i64_w, i32_w]
           rfl
          refine pure_ (i := 3) (N := some 36) (v := ?_) (a' := ?_) #[false, true, false, true, false, false, false, false, false, false, false, false, false] rfl rfl (any_of HT_.out (by kernel_rfl)) (fun _ _ _ h => h) (Or.inl ⟨by rfl, ?_⟩) ?_ ?_
          rotate_left
          ·intro w'
           go_simp
           with_reducible rfl
          rotate_left
          ·simp only [Act.put, List.setIfInBounds_toArray, List.set_cons_zero, List.set_cons_succ, i64_w, i32_w]
           rfl
          refine pure_ (i := 7) (N := some 40) (v := ?_) (a' := ?_) #[false, true, false, true, false, false, false, true, false, false, false, false, false] rfl rfl (any_of HT_.out (by kernel_rfl)) (fun _ _ _ h => h) (Or.inl ⟨by rfl, ?_⟩) ?_ ?_
          rotate_left
          ·intro w'
           go_simp
           with_reducible rfl
          rotate_left
          ·simp only [Act.put, List.setIfInBounds_toArray, List.set_cons_zero, List.set_cons_succ, i64_w, i32_w]
           rfl
          refine pure_ (i := 10) (N := some 43) (v := ?_) (a' := ?_) #[false, true, false, true, false, false, false, true, false, false, true, false, false] rfl rfl (any_of HT_.out (by kernel_rfl)) (fun _ _ _ h => h) (Or.inl ⟨by rfl, ?_⟩) ?_ ?_
          rotate_left
          ·intro w'
           go_simp
           with_reducible rfl
          rotate_left
          ·simp only [Act.put, List.setIfInBounds_toArray, List.set_cons_zero, List.set_cons_succ, i64_w, i32_w]
           rfl
          refine take_ (i := 0) (N := some 33) (v := ?_) (a' := ?_) #[true, true, false, true, false, false, false, true, false, false, true, false, false] rfl rfl (take_ofW HT_.out HW_.out (by kernel_rfl)) (fun _ _ _ h => h) (Or.inl ⟨by rfl, ?_⟩) hHeld ?_ ?_
          rotate_left
          ·rintro w' ⟨s0, s1, s2, s3, s4, s5, s6⟩
           go_simp
           with_reducible rfl
          rotate_left
          ·simp only [Act.put, List.setIfInBounds_toArray, List.set_cons_zero, List.set_cons_succ, i64_w, i32_w]
           rfl
          refine take_ (i := 2) (N := some 35) (v := ?_) (a' := ?_) #[true, true, true, true, false, false, false, true, false, false, true, false, false] rfl rfl (take_ofW HT_.out HW_.out (by kernel_rfl)) (fun _ _ _ h => h) (Or.inl ⟨by rfl, ?_⟩) hHeld ?_ ?_
          rotate_left
          ·rintro w' ⟨s0, s1, s2, s3, s4, s5, s6⟩
           go_simp
           with_reducible rfl
          rotate_left
          ·simp only [Act.put, List.setIfInBounds_toArray, List.set_cons_zero, List.set_cons_succ, i64_w, i32_w]
           rfl
          refine pure_ (i := 4) (N := some 37) (v := ?_) (a' := ?_) #[true, true, true, true, true, false, false, true, false, false, true, false, false] rfl rfl (any_of HT_.out (by kernel_rfl)) (fun _ _ _ h => h) (Or.inl ⟨by rfl, ?_⟩) ?_ ?_
          rotate_left
          ·intro w'
           go_simp
           with_reducible rfl
          rotate_left
          ·simp only [Act.put, List.setIfInBounds_toArray, List.set_cons_zero, List.set_cons_succ, i64_w, i32_w]
           rfl
          refine pure_ (i := 5) (N := some 38) (v := ?_) (a' := ?_) #[true, true, true, true, true, true, false, true, false, false, true, false, false] rfl rfl (any_of HT_.out (by kernel_rfl)) (fun _ _ _ h => h) (Or.inl ⟨by rfl, ?_⟩) ?_ ?_
          rotate_left
          ·intro w'
           go_simp
           with_reducible rfl
          rotate_left
          ·simp only [Act.put, List.setIfInBounds_toArray, List.set_cons_zero, List.set_cons_succ, i64_w, i32_w]
           rfl
          refine take_ (i := 6) (N := some 39) (v := ?_) (a' := ?_) #[true, true, true, true, true, true, true, true, false, false, true, false, false] rfl rfl (take_ofW HT_.out HW_.out (by kernel_rfl)) (fun _ _ _ h => h) (Or.inl ⟨by rfl, ?_⟩) hHeld ?_ ?_
          rotate_left
          ·rintro w' ⟨s0, s1, s2, s3, s4, s5, s6⟩
           go_simp
           with_reducible rfl
          rotate_left
          ·simp only [Act.put, List.setIfInBounds_toArray, List.set_cons_zero, List.set_cons_succ, i64_w, i32_w]
           rfl
          refine pure_ (i := 8) (N := some 41) (v := ?_) (a' := ?_) #[true, true, true, true, true, true, true, true, true, false, true, false, false] rfl rfl (any_of HT_.out (by kernel_rfl)) (fun _ _ _ h => h) (Or.inl ⟨by rfl, ?_⟩) ?_ ?_
          rotate_left
          ·intro w'
           go_simp
           with_reducible rfl
          rotate_left
          ·simp only [Act.put, List.setIfInBounds_toArray, List.set_cons_zero, List.set_cons_succ, i64_w, i32_w]
           rfl
          refine take_ (i := 9) (N := some 42) (v := ?_) (a' := ?_) #[true, true, true, true, true, true, true, true, true, true, true, false, false] rfl rfl (take_ofW HT_.out HW_.out (by kernel_rfl)) (fun _ _ _ h => h) (Or.inl ⟨by rfl, ?_⟩) hHeld ?_ ?_
          rotate_left
          ·rintro w' ⟨s0, s1, s2, s3, s4, s5, s6⟩
           go_simp
           with_reducible rfl
          rotate_left
          ·simp only [Act.put, List.setIfInBounds_toArray, List.set_cons_zero, List.set_cons_succ, i64_w, i32_w]
           rfl
          refine one_ (i := 11) (N := some 44) #[true, true, true, true, true, true, true, true, true, true, true, true, false] rfl rfl (one_of HT_.out (by kernel_rfl)) (by decide) (fun K hK => ?_)
          refine goes_ Tryd.func98 (by kernel_rfl) rfl #[.agg #[.slice (some ad439) l0_0.length c0_0, .int .i64 a0_1], .int .i64 (rd ((rd_T26 l0_0 a1).f3) x8_2), .slice Ao15 x2_2.length co15] (by rfl) rfl rfl (by (try simp only [List.map_toArray, List.map_cons, List.map_nil]); first | done | rfl | (simp only [List.length_drop, List.length_take]; rfl)) ?_
          with_reducible refine (ih k2 (by have := HK1.out; have := HK2.out; omega) _ _ l0_0 a0_1 (rd ((rd_T26 l0_0 a1).f3) x8_2) (fun k_ => ((P2_ k_ ∨ w.heap.size ≤ k_) ∧ k_ ≠ gb437)) _ _ x2_2 t442 _ ?side1 ?side2 ?side3 A12.out).mono ?_
          (case side1 => repeat (first | exact (Kd.C_below HR0_0.out HB.out) | (with_reducible refine Kd.C_alloc ?_ _) | (with_reducible refine Kd.C_drewN ?_ _) | (with_reducible refine Kd.C_drew ?_)))
          (case side2 => exact HC0_0.out)
          (case side3 => exact HO_2.out)
          rintro e w16 ⟨v443, rfl, ho0, hb⟩
          refine ⟨_, rfl, ?_⟩
          have n0_ := Aside0.mk (Kd.V_below (by (with_reducible repeat (first | apply Kd.V_alloc | apply Kd.V_drewN | apply Kd.V_drew)); exact HO_2.out) hb)
          have n1_ := Aside0.mk (Kd.V_lower (Kd.V_mono (ok' := fun k_ => (P2_ k_ ∨ w.heap.size ≤ k_) ∧ k_ ≠ gb437) ho0 (fun k_ hk_ => ⟨Or.elim hk_ (fun hs_ => hs_.1) (fun hn_ => (.inr (Nat.le_trans (below_size (by repeat (first | (with_reducible first | exact HB.out | apply below_alloc | apply pw_below_drewN | apply below_drew1 | refine below_set ?_ GE437.out) | exact HB.out))) hn_))), Or.elim hk_ (fun hs_ => hs_.2) (fun hn_ => (Kd.freshB (g := gb437) (o := .cells #[.slice (some ad439) l0_0.length c0_0, .int .i64 a0_1] 39 (0, 0)) (by (with_reducible repeat (first | refine blk_drewN ?_ _ | refine blk_drew ?_ | refine blk_alloc ?_ _)); exact BK437.out) k_ hn_))⟩)) (below_size (by repeat (first | (with_reducible first | exact HB.out | apply below_alloc | apply pw_below_drewN | apply below_drew1 | refine below_set ?_ GE437.out) | exact HB.out))))
          have n2_ := Aside0.mk (blk_below (g := gb437) (o := .cells #[.slice (some ad439) l0_0.length c0_0, .int .i64 a0_1] 39 (0, 0)) (by (with_reducible repeat (first | refine blk_drewN ?_ _ | refine blk_drew ?_ | refine blk_alloc ?_ _)); exact BK437.out) hb)
          have n3_ := Aside0.mk (below_step (by repeat (first | (with_reducible first | exact HB.out | apply below_alloc | apply pw_below_drewN | apply below_drew1 | refine below_set ?_ GE437.out) | exact HB.out)) hb)
          clear HO_2
          clear BK437
          clear HB
          have HO_2 := n0_
          have HO444 := n1_
          have BK437 := n2_
          have HB := n3_
          clear n0_ n1_ n2_ n3_
          (try clear hb)
          (try clear hb2)
          (try clear hk)
          (try clear hi)
          (try clear ho0)
          refine hK.out _ _ ⟨(blk_cell BK437.out 0).trans rfl, (blk_cell BK437.out 1).trans rfl, ((HB.out.cell (World.block_lt_of_cell? w _ hw440_0)).trans hw440_0), ((HB.out.cell (World.block_lt_of_cell? w _ hw440_1)).trans hw440_1), ((HB.out.cell (World.block_lt_of_cell? w _ hw440_2)).trans hw440_2), ((HB.out.cell (World.block_lt_of_cell? w _ hw440_3)).trans hw440_3), ((HB.out.cell (World.block_lt_of_cell? w _ hw441_0)).trans hw441_0)⟩ (fun hHeld => ?_)
          clear hK K
          refine norm_ (a' := ?_) ?_ ?_
          rotate_left
          ·show Act.put _ (some 44) _ = _
           simp only [Act.put, List.setIfInBounds_toArray, List.set_cons_zero, List.set_cons_succ, i64_w, i32_w]
           rfl
          refine pure_ (i := 12) (N := some 2) (v := ?_) (a' := ?_) #[true, true, true, true, true, true, true, true, true, true, true, true, true] rfl rfl (any_of HT_.out (by kernel_rfl)) (fun _ _ _ h => h) (Or.inl ⟨by rfl, ?_⟩) ?_ ?_
          rotate_left
          ·intro w'
           go_simp
           with_reducible rfl
          rotate_left
          ·simp only [Act.put, List.setIfInBounds_toArray, List.set_cons_zero, List.set_cons_succ, i64_w, i32_w]
           rfl
          refine done_ (done_of HT_.out (by kernel_rfl)) ?_
          try go_wp2
          go_roundg k2
          case measure => have := HK1.out; have := HK2.out; omega
          case rel => exact ⟨(t442), (wrap64 (x8_2 + 1)), (by first | rfl | (simp; done) | (simp [*]; done)), H', ⟨by have := HK1.out; have := HK2.out; omega⟩, ⟨by (with_reducible repeat (first | apply Kd.V_alloc | apply Kd.V_drewN | apply Kd.V_drew)); exact HO444.out⟩, ⟨by (with_reducible repeat (first | refine blk_drewN ?_ _ | refine blk_drew ?_ | refine blk_alloc ?_ _)); exact BK437.out⟩, ⟨by repeat (first | (with_reducible first | exact HB.out | apply below_alloc | apply pw_below_drewN | apply below_drew1 | refine below_set ?_ GE437.out) | exact HB.out)⟩⟩
         ·rw [if_neg c11] at H
          exact absurd H (by simp)
        ·rw [if_neg c10] at H
         have c10b0 : decide (x8_2 < (((rd_T26 l0_0 a1).f3).length : Int)) = false := decide_eq_false c10
         clear c10
         obtain ⟨y445, hy445⟩ : ∃ y_ : List Int, y_ = (([] : List Int)) := ⟨_, rfl⟩
         replace H : (if y445.length + x2_2.length < 17592186044416 then ((some (y445 ++ x2_2 : List Int)).bind fun y448 => (if y448.length < 17592186044416 then (some (y448 ++ [a1])) else (none))) else (none)) = some r := by first | (rw [hy445]; with_reducible exact H) | (have H2_ := (Option.bind_some _ _).symm.trans H; rw [hy445]; with_reducible exact H2_) | (have H2_ := (Option.bind_some _ _).symm.trans H; with_reducible exact H2_) | with_reducible exact H | (rw [hy445]; exact H) | exact H
         have Ny445 := Aside0.mk hy445
         clear hy445
         by_cases c17 : y445.length + x2_2.length < 17592186044416
         ·rw [if_pos c17] at H
          have LMc17 := Aside0.mk c17
          clear c17
          obtain ⟨y448, hy448⟩ : ∃ y_ : List Int, y_ = (y445 ++ x2_2) := ⟨_, rfl⟩
          replace H : (if y448.length < 17592186044416 then (some (y448 ++ [a1])) else (none)) = some r := by first | (rw [hy448]; with_reducible exact H) | (have H2_ := (Option.bind_some _ _).symm.trans H; rw [hy448]; with_reducible exact H2_) | (have H2_ := (Option.bind_some _ _).symm.trans H; with_reducible exact H2_) | with_reducible exact H | (rw [hy448]; exact H) | exact H
          have Ny448 := Aside0.mk hy448
          clear hy448
          by_cases c18 : y448.length < 17592186044416
          ·rw [if_pos c18] at H
           have LMc18 := Aside0.mk c18
           clear c18
           obtain ⟨y451, hy451⟩ : ∃ y_ : List Int, y_ = (y448 ++ [a1]) := ⟨_, rfl⟩
           replace H : (some y451) = some r := by first | (rw [hy451]; with_reducible exact H) | (have H2_ := (Option.bind_some _ _).symm.trans H; rw [hy451]; with_reducible exact H2_) | (have H2_ := (Option.bind_some _ _).symm.trans H; with_reducible exact H2_) | with_reducible exact H | (rw [hy451]; exact H) | exact H
           have Ny451 := Aside0.mk hy451
           clear hy451
           obtain rfl := Option.some.inj H
           have hcz19_0 : wr.cell? ⟨gb437, 0, none⟩ = some (.slice A0_0 l0_0.length c0_0) := (blk_cell BK437.out 0).trans rfl
           have hcz19_1 : wr.cell? ⟨gb437, 1, none⟩ = some (.int .i64 a0_1) := (blk_cell BK437.out 1).trans rfl
           have hfz19_0 := blk_frozen BK437.out 0
           have hfz19_1 := blk_frozen BK437.out 1
           have p439 : 0 ≤ (a1 : Int) := of_decide_eq_true (by first | (with_reducible assumption) | assumption)
           have q439 : a1 < (l0_0.length : Int) := of_decide_eq_true (by first | (with_reducible assumption) | assumption)
           obtain ⟨ad439, A439_1, c439_1, A439_2, c439_2, A439_3, c439_3, e439, hx439_0, hx439_1, hx439_2, hx439_3, hl439_1, hi439_1, hl439_2, hi439_2, hl439_3, hi439_3⟩ := at_T26 HR0_0.out a1 p439 q439
           cases e439
           replace hx439_0 := (HB.out.cell (World.block_lt_of_cell? w _ hx439_0)).trans hx439_0
           replace hx439_1 := (HB.out.cell (World.block_lt_of_cell? w _ hx439_1)).trans hx439_1
           replace hx439_2 := (HB.out.cell (World.block_lt_of_cell? w _ hx439_2)).trans hx439_2
           replace hx439_3 := (HB.out.cell (World.block_lt_of_cell? w _ hx439_3)).trans hx439_3
           have HR439_1 := Aside0.mk hi439_1
           have HC439_1 := Aside0.mk hl439_1
           clear hi439_1 hl439_1
           have HR439_2 := Aside0.mk hi439_2
           have HC439_2 := Aside0.mk hl439_2
           clear hi439_2 hl439_2
           have HR439_3 := Aside0.mk hi439_3
           have HC439_3 := Aside0.mk hl439_3
           clear hi439_3 hl439_3
           replace p439 := eq_true p439
           replace q439 := eq_true q439
           go_wp2_with (first | ((with_reducible refine gate_dst (N := 45) rfl ?_); refine Kd.R_lit (Kd.int .i64) _ 3 ?hg (N := 45) ?hd (xs := ([] : List Int)) (inner := []) (ok := fun _ => True) (okp := fun _ => True) ?hr ?hp (fun _ hk => hk) trivial (Below.refl _ _) (Nat.le_refl _) (by simp) ?_; (case hd => rfl); (case hg => rfl); (case hr => first | (go_simp; done) | (go_simp; rfl)); (case hp => exact (Reps.none _ _)); intro v446 w20 ho21 hb hg_ hnew_; clear hg_ hnew_; (first | rw [← Ny445.out] at ho21 | (simp only [Int.reduceToNat] at ho21; rw [← Ny445.out] at ho21)); have n0_ := Aside0.mk (Kd.V_elder' (by (with_reducible repeat (first | apply Kd.V_alloc | apply Kd.V_drewN | apply Kd.V_drew)); exact HO_2.out) (Kd.R_base ho21) hb); have n1_ := Aside0.mk (Kd.R_lower (Kd.R_newM (M := fun k_ => (w.heap.size ≤ k_)) ho21 (below_size (by repeat (first | (with_reducible first | exact HB.out | apply below_alloc | apply pw_below_drewN | apply below_drew1 | refine below_set ?_ GE437.out) | exact HB.out))) (fun k_ h_ => h_)) (below_size (by repeat (first | (with_reducible first | exact HB.out | apply below_alloc | apply pw_below_drewN | apply below_drew1 | refine below_set ?_ GE437.out) | exact HB.out)))); have n2_ := Aside0.mk (blk_below (g := gb437) (o := .cells #[.slice (some ad439) l0_0.length c0_0, .int .i64 a0_1] 39 (0, 0)) (by (with_reducible repeat (first | refine blk_drewN ?_ _ | refine blk_drew ?_ | refine blk_alloc ?_ _)); exact BK437.out) hb); have n3_ := Aside0.mk (below_step (by repeat (first | (with_reducible first | exact HB.out | apply below_alloc | apply pw_below_drewN | apply below_drew1 | refine below_set ?_ GE437.out) | exact HB.out)) hb); clear HO_2; clear BK437; clear HB; have HO_2 := n0_; have HO447 := n1_; have BK437 := n2_; have HB := n3_; clear n0_ n1_ n2_ n3_; clear hb ho21; obtain ⟨Ao23, co23, eo23⟩ := Kd.V_slice HO_2.out; subst eo23) | ((with_reducible refine gate_builtin (b := .append) (xs := #[.tmp 45, .tmp 46]) rfl ?_); at_builtin; refine Kd.R_append_rows (Kd.int .i64) (w0 := w) w.heap.size rfl (.tmp 45) (.tmp 46) 24 3 (.int .i64 0) 8 rfl Tryd.underlying24 info3 rfl (by decide) (by omega) v446 y445 x2_2 _ _ _ (fun k_ => (w.heap.size ≤ k_)) (fun _ => False) rfl rfl ?aO ?aR (fun _ _ h => h) (fun _ h => h.elim) ?aF ?aB ?aS ?aL ?_; (case aR => repeat (first | exact (Kd.V_reads' HO_2.out).2.2 | (with_reducible refine Kd.C_alloc ?_ _) | (with_reducible refine Kd.C_drewN ?_ _) | (with_reducible refine Kd.C_drew ?_))); (case aB => exact (by repeat (first | (with_reducible first | exact HB.out | apply below_alloc | apply pw_below_drewN | apply below_drew1 | refine below_set ?_ GE437.out) | exact HB.out))); (case aF => exact (fun k_ hk => (Nat.le_trans (below_size (by repeat (first | (with_reducible first | exact HB.out | apply below_alloc | apply pw_below_drewN | apply below_drew1 | refine below_set ?_ GE437.out) | exact HB.out))) hk))); (case aO => exact (by (with_reducible repeat (first | apply Kd.R_alloc | apply Kd.R_drewN | apply Kd.R_drew)); exact Kd.R_mono HO447.out (fun _ hk => hk.1))); (case aS => exact (below_size (by repeat (first | (with_reducible first | exact HB.out | apply below_alloc | apply pw_below_drewN | apply below_drew1 | refine below_set ?_ GE437.out) | exact HB.out)))); (case aL => have := LMc17.out; omega); intro v449 w22 ho hb hg hat; rw [← Ny448.out] at ho; have n0_ := Aside0.mk (Kd.V_afterv (ok := (fun k_ => (P2_ k_ ∨ w.heap.size ≤ k_) ∧ k_ ≠ gb437)) (by (with_reducible repeat (first | apply Kd.V_alloc | apply Kd.V_drewN | apply Kd.V_drew)); exact HO_2.out) hg hat); have n1_ := Aside0.mk (blk_grown (g := gb437) (o := .cells #[.slice (some ad439) l0_0.length c0_0, .int .i64 a0_1] 39 (0, 0)) (by (with_reducible repeat (first | refine blk_drewN ?_ _ | refine blk_drew ?_ | refine blk_alloc ?_ _)); exact BK437.out) hg (Kd.R_ne HO447.out BK437.out (by decide))); have n2_ := Aside0.mk (hb); have n3_ := Aside0.mk (ho); clear HO_2; clear BK437; clear HB; clear HO447; have HO_2 := n0_; have BK437 := n1_; have HB := n2_; have HO450 := n3_; clear n0_ n1_ n2_ n3_; clear ho hb hg hat) | ((with_reducible refine gate_builtin (b := .append) (xs := #[.tmp 47, .tmp 49]) rfl ?_); at_builtin; refine Kd.R_append (Kd.int .i64) (w0 := w) w.heap.size rfl (.tmp 47) (.tmp 49) 24 3 (.int .i64 0) 8 rfl Tryd.underlying24 info3 rfl (by decide) (by omega) v449 y448 a1 [.int .i64 a1] (fun k_ => (w.heap.size ≤ k_)) (fun _ => False) rfl rfl ?aP (fun _ hk => hk.elim) ?aF ?aO ?aB ?aS ?aL ?_; (case aP => exact rfl); (case aB => exact (by repeat (first | (with_reducible first | exact HB.out | apply below_alloc | apply pw_below_drewN | apply below_drew1 | refine below_set ?_ GE437.out) | exact HB.out))); (case aF => exact (fun k_ hk => (Nat.le_trans (below_size (by repeat (first | (with_reducible first | exact HB.out | apply below_alloc | apply pw_below_drewN | apply below_drew1 | refine below_set ?_ GE437.out) | exact HB.out))) hk))); (case aO => exact (by (with_reducible repeat (first | apply Kd.R_alloc | apply Kd.R_drewN | apply Kd.R_drew)); exact HO450.out)); (case aS => exact (below_size (by repeat (first | (with_reducible first | exact HB.out | apply below_alloc | apply pw_below_drewN | apply below_drew1 | refine below_set ?_ GE437.out) | exact HB.out)))); (case aL => have := LMc18.out; omega); intro v452 w24 ho hb hg hat; rw [← Ny451.out] at ho; have n0_ := Aside0.mk (Kd.V_afterv (ok := (fun k_ => (P2_ k_ ∨ w.heap.size ≤ k_) ∧ k_ ≠ gb437)) (by (with_reducible repeat (first | apply Kd.V_alloc | apply Kd.V_drewN | apply Kd.V_drew)); exact HO_2.out) hg hat); have n1_ := Aside0.mk (blk_grown (g := gb437) (o := .cells #[.slice (some ad439) l0_0.length c0_0, .int .i64 a0_1] 39 (0, 0)) (by (with_reducible repeat (first | refine blk_drewN ?_ _ | refine blk_drew ?_ | refine blk_alloc ?_ _)); exact BK437.out) hg (Kd.R_ne HO450.out BK437.out (by decide))); have n2_ := Aside0.mk (hb); have n3_ := Aside0.mk (ho); clear HO_2; clear BK437; clear HB; clear HO450; have HO_2 := n0_; have BK437 := n1_; have HB := n2_; have HO453 := n3_; clear n0_ n1_ n2_ n3_; clear ho hb hg hat))
           go_ret
           exact ⟨_, by first | rfl | (simp [errW_none, errW_some] <;> rfl) | (simp [*, errW_none, errW_some] <;> rfl), Kd.V_mono (Kd.R_V (by (with_reducible repeat (first | apply Kd.R_alloc | apply Kd.R_drewN | apply Kd.R_drew)); exact HO453.out)) (fun k_ hk => by first | exact ⟨(.inr (hk.1)), hk.2⟩ | exact (.inr (hk))), by repeat (first | (with_reducible first | exact HB.out | apply below_alloc | apply pw_below_drewN | apply below_drew1 | refine below_set ?_ GE437.out) | exact HB.out)⟩
          ·rw [if_neg c18] at H
           exact absurd H (by simp)
         ·rw [if_neg c17] at H
          exact absurd H (by simp)
       ·rw [if_neg c9] at H
        exact absurd H (by simp)
      ·rw [if_neg c8] at H
       exact absurd H (by simp)

def dioramaref10_Order.f (k : Nat) (l0_0 : List (S26)) (a0_1 : Int) : Option (List Int) := (dioramaref10_meet.f k l0_0 a0_1 a0_1 ([] : List Int)).bind fun t455 => (some t455)
set_option maxHeartbeats 8000000 in
set_option maxRecDepth 100000 in
theorem dioramaref10_Order.calls (k : Nat) (A0_0 : Option Addr) (c0_0 : Nat) (l0_0 : List (S26)) (a0_1 : Int) (r : List Int) (w : World) (hr0_0 : Kd.C k26 w A0_0 l0_0.length l0_0) (hc0_0 : l0_0.length ≤ c0_0) (h : dioramaref10_Order.f k l0_0 a0_1 = some r) :
  Calls Tryd.prog 60 #[.agg #[.slice A0_0 l0_0.length c0_0, .int .i64 a0_1]] w fun e w' => ∃ v0_ : Value, e = .returned (v0_) ∧ Kd.V (Kd.int .i64) 3 w' w.heap.size (fun k_ => (w.heap.size ≤ k_)) v0_ r ∧ Below w.heap.size w w' := by
 have hu39 := Tryd.underlying39
 have HR0_0 := Aside0.mk hr0_0
 have HC0_0 := Aside0.mk hc0_0
 clear hr0_0 hc0_0
 have HB := Aside0.mk (Below.refl w.heap.size w)
 have H : ((dioramaref10_meet.f k l0_0 a0_1 a0_1 ([] : List Int)).bind fun t455 => (some t455)) = some r := h
 clear h
 replace H := Option.bind_eq_some_iff.mp H
 obtain ⟨t455, A20, H⟩ := H
 replace H : (some t455) = some r := H
 have A2 := Aside0.mk A20
 clear A20
 obtain rfl := Option.some.inj H
 go_enter Tryd.func60, Tryd.ntmps60
 go_wp2_with (first | ((with_reducible refine gate_dst (N := 1) rfl ?_); refine box_event ?hg (N := 1) ?hd (cs := #[.slice A0_0 l0_0.length c0_0, .int .i64 a0_1]) (t := 39) ?hr ?_; (case hd => rfl); (case hg => rfl); (case hr => first | (go_simp; done) | (go_simp; rfl)); intro gb454 hg w3 hbox hb; have n0_ := Aside0.mk (below_step (by repeat (first | (with_reducible first | exact HB.out | apply below_alloc | apply pw_below_drewN | apply below_drew1) | exact HB.out)) hb); have n1_ := Aside0.mk (hbox); have n2_ := Aside0.mk ((by rw [hg]; exact (below_size (by repeat (first | (with_reducible first | exact HB.out | apply below_alloc | apply pw_below_drewN | apply below_drew1) | exact HB.out))) : w.heap.size ≤ gb454)); have n3_ := Aside0.mk ((by rw [hg]; exact (below_size (by repeat (first | (with_reducible first | exact HB.out | apply below_alloc | apply pw_below_drewN | apply below_drew1) | exact HB.out))) : w.heap.size ≤ gb454)); clear HB; have HB := n0_; have BK454 := n1_; have GW454 := n2_; have GE454 := n3_; clear n0_ n1_ n2_ n3_; clear hb hbox hg; have hcz4_0 : w3.cell? ⟨gb454, 0, none⟩ = some (.slice A0_0 l0_0.length c0_0) := (blk_cell BK454.out 0).trans rfl; have hcz4_1 : w3.cell? ⟨gb454, 1, none⟩ = some (.int .i64 a0_1) := (blk_cell BK454.out 1).trans rfl; have hfz4_0 := blk_frozen BK454.out 0; have hfz4_1 := blk_frozen BK454.out 1) | ((with_reducible refine gate_callee (f := 98) rfl ?_); refine goesL_ (some 6) rfl rfl Tryd.func98 (by kernel_rfl) rfl #[.agg #[.slice A0_0 l0_0.length c0_0, .int .i64 a0_1], .int .i64 a0_1, .slice none 0 0] rfl (by (try simp only [List.map_toArray, List.map_cons, List.map_nil]); first | done | rfl | (simp only [List.length_drop, List.length_take]; rfl)) ?_; (refine (dioramaref10_meet.calls k _ _ l0_0 a0_1 a0_1 (fun k_ => False) _ _ ([] : List Int) t455 _ ?side1 ?side2 ?side3 A2.out).mono ?_); (case side1 => repeat (first | exact (Kd.C_below HR0_0.out HB.out) | (with_reducible refine Kd.C_alloc ?_ _) | (with_reducible refine Kd.C_drewN ?_ _) | (with_reducible refine Kd.C_drew ?_))); (case side2 => exact HC0_0.out); (case side3 => exact Kd.V_nil _ _ _ _ _); rintro e w5 ⟨v456, rfl, ho0, hb⟩; refine ⟨_, rfl, ?_⟩; have n0_ := Aside0.mk (Kd.V_lower (Kd.V_mono (ok' := fun k_ => (w.heap.size ≤ k_) ∧ k_ ≠ gb454) ho0 (fun k_ hk_ => ⟨Or.elim hk_ (fun hs_ => (hs_).elim) (fun hn_ => (Nat.le_trans (below_size (by repeat (first | (with_reducible first | exact HB.out | apply below_alloc | apply pw_below_drewN | apply below_drew1 | refine below_set ?_ GE454.out) | exact HB.out))) hn_)), Or.elim hk_ (fun hs_ => (hs_).elim) (fun hn_ => (Kd.freshB (g := gb454) (o := .cells #[.slice A0_0 l0_0.length c0_0, .int .i64 a0_1] 39 (0, 0)) (by (with_reducible repeat (first | refine blk_drewN ?_ _ | refine blk_drew ?_ | refine blk_alloc ?_ _)); exact BK454.out) k_ hn_))⟩)) (below_size (by repeat (first | (with_reducible first | exact HB.out | apply below_alloc | apply pw_below_drewN | apply below_drew1 | refine below_set ?_ GE454.out) | exact HB.out)))); have n1_ := Aside0.mk (blk_below (g := gb454) (o := .cells #[.slice A0_0 l0_0.length c0_0, .int .i64 a0_1] 39 (0, 0)) (by (with_reducible repeat (first | refine blk_drewN ?_ _ | refine blk_drew ?_ | refine blk_alloc ?_ _)); exact BK454.out) hb); have n2_ := Aside0.mk (below_step (by repeat (first | (with_reducible first | exact HB.out | apply below_alloc | apply pw_below_drewN | apply below_drew1 | refine below_set ?_ GE454.out) | exact HB.out)) hb); clear BK454; clear HB; have HO457 := n0_; have BK454 := n1_; have HB := n2_; clear n0_ n1_ n2_; (try clear hb); (try clear hb2); (try clear hk); (try clear hi); (try clear ho0)))
 go_ret
 exact ⟨_, by first | rfl | (simp [errW_none, errW_some] <;> rfl) | (simp [*, errW_none, errW_some] <;> rfl), by (with_reducible repeat (first | apply Kd.V_alloc | apply Kd.V_drewN | apply Kd.V_drew)); exact Kd.V_mono HO457.out (fun _ hk => hk.1), by repeat (first | (with_reducible first | exact HB.out | apply below_alloc | apply pw_below_drewN | apply below_drew1 | refine below_set ?_ GE454.out) | exact HB.out)⟩

end Go.Proofs.YtglfebpgdghlfaaDoor.PUpgradeUps
end
section
-- PRINTED BY print.sh 35421559b90ae4d0a3588c463048766b98c2df88dd9212a6774a882060cdf62d: not written by this session
namespace Go.Proofs.YtglfebpgdghlfaaDoor.PUpgradeUps
open Go.RowKit Go.Proofs.YtglfebpgdghlfaaDoorW.PrintWords Go.Proofs.YtglfebpgdghlfaaDoorW.PrintLast Go.Proofs.YtglfebpgdghlfaaDoorW.PrintMore
attribute [local go_sem] max2_int min2_int max_two min_two max_three min_three max_four min_four   -- for this text's walks alone
set_option linter.unusedVariables false
set_option linter.unusedSimpArgs false
def dioramaref10_Find.l0 : Nat → List Int → Int → Int → Option (Int)
 | 0, _, _, _ => none
 | k + 1, x0, x1, x5 => if x5 < (x0.length : Int) then (if 0 ≤ x5 then (if (rd x0 x5) = x1 then (some x5) else (dioramaref10_Find.l0 k x0 x1 (wrap64 (x5 + 1)))) else (none)) else (some (-1))
def dioramaref10_Find.f (k : Nat) (l0 : List Int) (a1 : Int) : Option (Int) := dioramaref10_Find.l0 k l0 a1 0
set_option maxHeartbeats 8000000 in
set_option maxRecDepth 100000 in
theorem dioramaref10_Find.calls (k : Nat) (A0 : Option Addr) (c0 : Nat) (l0 : List Int) (a1 : Int) (r : Int) (w : World) (hr0 : Kd.C (Kd.int .i64) w A0 l0.length l0) (hc0 : l0.length ≤ c0) (h : dioramaref10_Find.f k l0 a1 = some r) :
  Calls Tryd.prog 61 #[.slice A0 l0.length c0, .int .i64 a1] w fun e w' => e = .returned (.int .i64 r) ∧ Drawn0 w w' := by
 have HR0 := Aside0.mk hr0
 have HC0 := Aside0.mk hc0
 clear hr0 hc0
 have H : (dioramaref10_Find.l0 k l0 a1 0) = some r := h
 clear h
 have H' := Aside0.mk H
 clear H
 go_enter Tryd.func61, Tryd.ntmps61
 go_wp2
 go_loopg [5] k (fun kq v5 w' => ∃ (x5_1 : Int), v5 = .int .i64 x5_1 ∧ Aside0 (dioramaref10_Find.l0 kq l0 a1 x5_1 = some r) ∧ Aside0 (kq ≤ k) ∧ Drawn0 w w')
 case atStart => exact ⟨(0), (by first | rfl | (simp; done) | (simp [*]; done)), H', ⟨Nat.le_refl _⟩, by repeat (first | exact Drawn0.refl _ | apply Drawn0.step)⟩
 case round =>
  clear H'
  try clear p2
  obtain ⟨x5_1, rfl, HA, HK1, ⟨m1, rfl⟩⟩ := hrel
  cases gk with
  | zero => exact absurd HA.out (by simp [dioramaref10_Find.l0])
  | succ k1 =>
   have H := HA.out
   clear HA
   simp only [dioramaref10_Find.l0] at H
   by_cases c3 : x5_1 < (l0.length : Int)
   ·rw [if_pos c3] at H
    have c3b0 : decide (x5_1 < (l0.length : Int)) = true := decide_eq_true c3
    clear c3
    by_cases c4 : 0 ≤ x5_1
    ·rw [if_pos c4] at H
     have c4b0 : decide (0 ≤ x5_1) = true := decide_eq_true c4
     clear c4
     by_cases c5 : (rd l0 x5_1) = a1
     ·rw [if_pos c5] at H
      have c5b0 : ((rd l0 x5_1) == a1) = true := beq_iff_eq.mpr c5
      have c5b1 : ((rd l0 x5_1) != a1) = false := bne_eq_false_iff_eq.mpr c5
      clear c5
      obtain rfl := Option.some.inj H
      have p458 : 0 ≤ (x5_1 : Int) := of_decide_eq_true (by first | (with_reducible assumption) | assumption)
      have q458 : x5_1 < (l0.length : Int) := of_decide_eq_true (by first | (with_reducible assumption) | assumption)
      obtain ⟨ad458, e458, hx458_0⟩ := Kd.at_int HR0.out x5_1 p458 q458
      cases e458
      replace p458 := eq_true p458
      replace q458 := eq_true q458
      go_wp2
      go_ret
      exact ⟨by first | rfl | (simp; done) | (simp [*]; done), by repeat (first | exact Drawn0.refl _ | apply Drawn0.step)⟩
     ·rw [if_neg c5] at H
      have c5b0 : ((rd l0 x5_1) == a1) = false := beq_eq_false_iff_ne.mpr c5
      have c5b1 : ((rd l0 x5_1) != a1) = true := bne_iff_ne.mpr c5
      have H' := Aside0.mk H
      clear H
      have p458 : 0 ≤ (x5_1 : Int) := of_decide_eq_true (by first | (with_reducible assumption) | assumption)
      have q458 : x5_1 < (l0.length : Int) := of_decide_eq_true (by first | (with_reducible assumption) | assumption)
      obtain ⟨ad458, e458, hx458_0⟩ := Kd.at_int HR0.out x5_1 p458 q458
      cases e458
      replace p458 := eq_true p458
      replace q458 := eq_true q458
      go_wp2
      go_roundg k1
      case measure => have := HK1.out; omega
      case rel => exact ⟨(wrap64 (x5_1 + 1)), (by first | rfl | (simp; done) | (simp [*]; done)), H', ⟨by have := HK1.out; omega⟩, by repeat (first | exact Drawn0.refl _ | apply Drawn0.step)⟩
    ·rw [if_neg c4] at H
     exact absurd H (by simp)
   ·rw [if_neg c3] at H
    have c3b0 : decide (x5_1 < (l0.length : Int)) = false := decide_eq_false c3
    clear c3
    obtain rfl := Option.some.inj H
    go_wp2
    go_ret
    exact ⟨by first | rfl | (simp; done) | (simp [*]; done), by repeat (first | exact Drawn0.refl _ | apply Drawn0.step)⟩

end Go.Proofs.YtglfebpgdghlfaaDoor.PUpgradeUps
end
section
namespace Go.Proofs.YtglfebpgdghlfaaDoor.L
open Go.RowKit Go.ChangeShapes Go.WideShapes Go.Proofs.YtglfebpgdghlfaaDoorW.PrintWords Go.Proofs.YtglfebpgdghlfaaDoorW.PrintLast Go.Proofs.YtglfebpgdghlfaaDoorW.PrintMore
attribute [local go_sem] max2_int min2_int max_two min_two max_three min_three max_four min_four
open Go.Proofs.YtglfebpgdghlfaaDoor.PUpgradeUps
def findI (l : List Int) (a : Int) : Int := if a ∈ l then (l.idxOf a : Int) else -1
theorem find_l0 (l : List Int) (a : Int) (hl : l.length ≤ 1000000) : ∀ (m i : Nat), l.length ≤ i + m → i ≤ l.length → (∀ j : Nat, j < i → ¬ rd l (j : Int) = a) → dioramaref10_Find.l0 (m + 1) l a (i : Int) = some (findI l a)
  | 0, i, h1, h2, h3 => by
    rw [dioramaref10_Find.l0, if_neg (by omega)]
    have : ¬ a ∈ l := fun hm => by
      obtain ⟨j, hj⟩ := List.getElem?_of_mem hm
      have hjl := (List.getElem?_eq_some_iff.1 hj).1
      refine h3 j (by omega) ?_
      unfold rd
      rw [Int.toNat_natCast, List.getD_eq_getElem?_getD, hj]; rfl
    unfold findI
    rw [if_neg this]
  | m + 1, i, h1, h2, h3 => by
    by_cases hi : i < l.length
    · rw [dioramaref10_Find.l0, if_pos (by omega), if_pos (Int.natCast_nonneg i)]
      by_cases he : rd l (i : Int) = a
      · rw [if_pos he]
        have hg : l[i] = a := by rw [← he, rd_eq hi]
        have hm : a ∈ l := by rw [← hg]; exact List.getElem_mem hi
        unfold findI
        rw [if_pos hm]
        have h4 : l.idxOf a ≤ i := by
          refine Nat.le_of_not_lt (fun hlt => ?_)
          have := List.not_of_lt_findIdx (p := fun x => x == a) (xs := l) hlt
          simp [hg] at this
        have h5 : l.idxOf a = i := by
          refine Nat.le_antisymm h4 (Nat.le_of_not_lt (fun hlt => ?_))
          have h6 : l.idxOf a < l.length := by omega
          refine h3 _ hlt ?_
          rw [rd_eq h6]
          exact List.getElem_idxOf h6
        rw [h5]
      · rw [if_neg he, wrap64_in ((i : Int) + 1) (by omega), show (i : Int) + 1 = ((i + 1 : Nat) : Int) from rfl]
        exact find_l0 l a hl m (i + 1) (by omega) (by omega) (ext_lt (P := fun j : Nat => ¬ rd l (j : Int) = a) h3 he)
    · have := find_l0 l a hl m i (by omega) h2 h3
      rw [dioramaref10_Find.l0, if_neg (by omega)]
      rw [dioramaref10_Find.l0.eq_def] at this
      cases m with
      | zero => simpa [show ¬ ((i : Int) < (l.length : Int)) by omega] using this
      | succ m => simpa [show ¬ ((i : Int) < (l.length : Int)) by omega] using this
theorem find_C (A : Option Addr) (c : Nat) (l : List Int) (a : Int) (w : World) (h : (Kd.int .i64).C w A l.length l) (hc : l.length ≤ c) (hl : l.length ≤ 1000000) :
    Calls Tryd.prog 61 #[.slice A l.length c, .int .i64 a] w fun e w' => e = .returned (.int .i64 (findI l a)) ∧ Drawn0 w w' :=
  dioramaref10_Find.calls (l.length + 1) A c l a (findI l a) w h hc (by
    unfold dioramaref10_Find.f
    exact find_l0 l a hl l.length 0 (by omega) (by omega) (fun j hj => by omega))
def refN (ns : List Node) (l : List Int) (a : Int) : Node := ⟨(nd ns a.toNat).kind, (nd ns a.toNat).ints, (nd ns a.toNat).texts, (nd ns a.toNat).kids.map (findI l)⟩
def refCanL (ns : List Node) (l : List Int) : List Node := l.map (refN ns l)
def SceneRPost (t : Scene) (w : World) (e : Ending) (w' : World) : Prop := ∃ A c, e = .returned (.agg #[.slice A t.nodes.length c, .int .i64 t.root]) ∧ kNode.R 26 w' w.heap.size (fun _ => True) (.slice A t.nodes.length c) t.nodes ∧ Below w.heap.size w w'
structure KidB (f : Int → Int) (n : Node) (v1 v2 v3 : Value) (j g : Nat) (W0 W : World) : Prop where
  below : Below W0.heap.size W0 W
  gb : W0.heap.size ≤ g
  box : W.heap[g]? = some (.cells #[.int .i64 n.kind, v1, v2, v3] 26 (0, 0))
  r1 : (Kd.int .i64).R 2 W W0.heap.size (fun _ => True) v1 n.ints
  r2 : Kd.string.R 9 W W0.heap.size (fun _ => True) v2 n.texts
  r3 : (Kd.int .i64).R 3 W W0.heap.size (fun _ => True) v3 (mapTake f n.kids j)
theorem KidB.drewN {f : Int → Int} {n : Node} {v1 v2 v3 : Value} {j g : Nat} {W0 W : World} (h : KidB f n v1 v2 v3 j g W0 W) (m : Nat) : KidB f n v1 v2 v3 j g W0 (W.drewN m) :=
  ⟨pw_below_drewN h.below m, h.gb, h.box, Kd.R_drewN h.r1 m, Kd.R_drewN h.r2 m, Kd.R_drewN h.r3 m⟩
theorem KidB.set {f : Int → Int} {n : Node} {v1 v2 : Value} {g' g c m : Nat} {j : Nat} {W0 W : World} (h : KidB f n v1 v2 (.slice (some ⟨g, 0, none⟩) m c) j g' W0 W) (hj : j < n.kids.length) :
    W.cell? ⟨g, j, none⟩ = some (.int .i64 (rd n.kids (j : Int))) ∧ W.frozen? ⟨g, j, none⟩ = false ∧ g ≠ g' ∧ KidB f n v1 v2 (.slice (some ⟨g, 0, none⟩) m c) (j + 1) g' W0 (W.setCell ⟨g, j, none⟩ (.int .i64 (f (rd n.kids (j : Int))))) := by
  have hm := (Kd.R_reads' h.r3).1
  rw [mapTake_len] at hm
  obtain ⟨c1, c2⟩ := ints_cell h.r3 j (by omega)
  obtain ⟨s1, s2, s3⟩ := ints_store h.r3 j (by omega) (f (rd n.kids (j : Int)))
  rw [mapTake_rd f _ _ hj] at c1
  rw [mapTake_set f _ _ hj] at s1
  obtain ⟨cells, hc⟩ := Kd.R_typed h.r3 g rfl
  have hne : g ≠ g' := fun e => by
    rw [e, h.box] at hc
    cases hc
  refine ⟨c1, c2, hne, below_set h.below s3, h.gb, blk_grown h.box s2 (fun e => ?_), Kd.R_grown1 h.r1 rfl s2 (Kd.R_ne h.r1 hc (by decide)), Kd.R_grown1 h.r2 rfl s2 (Kd.R_ne h.r2 hc (by decide)), s1⟩
  injection e with e
  exact hne e.symm
theorem KidB.drew {f : Int → Int} {n : Node} {v1 v2 v3 : Value} {j g : Nat} {W0 W : World} (h : KidB f n v1 v2 v3 j g W0 W) : KidB f n v1 v2 v3 j g W0 W.drew := h.drewN 1
end Go.Proofs.YtglfebpgdghlfaaDoor.L
end
section
namespace Go.Proofs.YtglfebpgdghlfaaDoor.L
open Go.RowKit Go.ChangeShapes Go.WideShapes Go.Proofs.YtglfebpgdghlfaaDoorW.PrintWords Go.Proofs.YtglfebpgdghlfaaDoorW.PrintLast Go.Proofs.YtglfebpgdghlfaaDoorW.PrintMore
attribute [local go_sem] max2_int min2_int max_two min_two max_three min_three max_four min_four
open Go.Proofs.YtglfebpgdghlfaaDoor.PUpgradeUps
theorem refN_len (ns : List Node) (l : List Int) : (refCanL ns l).length = l.length := by simp [refCanL]
theorem take_succ_map {α β : Type} (f : α → β) (l : List α) (i : Nat) (h : i < l.length) : (l.map f).take (i + 1) = (l.map f).take i ++ [f l[i]] := by
  rw [List.take_succ_eq_append_getElem (by simpa using h)]
  simp
set_option maxRecDepth 100000 in
set_option maxHeartbeats 8000000 in
theorem rcanon_any (A : Option Addr) (c : Nat) (s : Scene) (l : List Int) (k : Nat) (w : World) (h : kNode.C w A s.nodes.length s.nodes) (hc : s.nodes.length ≤ c) (hS : ∀ i : Nat, i < s.nodes.length → Small (nd s.nodes i))
    (ho : dioramaref10_Order.f k (s.nodes.map toS) s.root = some l) (hl : l.length ≤ 1000000) (hp : ∀ x ∈ l, 0 ≤ x ∧ x < (s.nodes.length : Int)) :
    Calls Tryd.prog 33 #[.agg #[.slice A s.nodes.length c, .int .i64 s.root]] w (SceneRPost ⟨refCanL s.nodes l, (l.length : Int) - 1⟩ w) := by
  have HR := Aside0.mk h
  have HSm := Aside0.mk hS
  have HO := Aside0.mk ho
  have HP := Aside0.mk hp
  have HCc := Aside0.mk hc
  have b0 := h.2.1
  have HB := Aside0.mk (below_alloc (below_alloc (Below.refl w.heap.size w) (.cells #[.slice A s.nodes.length c, .int .i64 s.root] 39)) (.cells #[.slice none 0 0, .int .i64 0] 39))
  have k0 := box_cell2 w _ rfl #[.slice A s.nodes.length c, .int .i64 s.root] 39 (.cells #[.slice none 0 0, .int .i64 0] 39) 0 (.slice A s.nodes.length c) rfl
  have k1 := box_cell2 w _ rfl #[.slice A s.nodes.length c, .int .i64 s.root] 39 (.cells #[.slice none 0 0, .int .i64 0] 39) 1 (.int .i64 s.root) rfl
  have HL := Aside0.mk (show ((w.alloc (.cells #[.slice A s.nodes.length c, .int .i64 s.root] 39)).alloc (.cells #[.slice none 0 0, .int .i64 0] 39)).heap[w.heap.size + 1]? = some (.cells #[.slice none 0 0, .int .i64 0] 39 (0, 0)) from by
    have := heap_alloc_new (w.alloc (.cells #[.slice A s.nodes.length c, .int .i64 s.root] 39)) (.cells #[.slice none 0 0, .int .i64 0] 39)
    simpa using this)
  have hu := Tryd.underlying39
  have hun := Tryd.underlying26
  clear h hc hS ho hp
  go_enter Tryd.func33, Tryd.ntmps33
  go_wp2_with fail
  have hml : (s.nodes.map toS).length = s.nodes.length := List.length_map ..
  have hcall := dioramaref10_Order.calls k A c (s.nodes.map toS) s.root l ((w.alloc (.cells #[.slice A s.nodes.length c, .int .i64 s.root] 39)).alloc (.cells #[.slice none 0 0, .int .i64 0] 39)) (by rw [hml]; exact C_to (Kd.C_below HR.out HB.out)) (by rw [hml]; exact HCc.out) HO.out
  rw [hml] at hcall
  refine hcall.mono ?_
  clear hcall hml
  rintro e w1 ⟨v, rfl, hV, hB1⟩
  obtain ⟨A3, c3, rfl⟩ := Kd.V_slice hV
  have HV := Aside0.mk (Kd.V_reads' hV)
  have hlc : l.length ≤ c3 := HV.out.2.1
  have HB1 := Aside0.mk (below_step HB.out hB1)
  have HL1 := Aside0.mk ((hB1.block _ (blk_lt HL.out)).trans HL.out)
  have HK1 := Aside0.mk (pw_cell_below hB1 k0)
  have HI := Aside0.mk (CnRel.start w1 ((l.length : Int) - 1))
  have hw1 : IntKind.i64.wrap ((l.length : Int) - 1) = (l.length : Int) - 1 := wrap_i (by omega) (by omega)
  clear hV hB1 k0 k1 HL HB
  go_wp2
  generalize w1.alloc (.cells #[.slice none 0 0, .int .i64 ((l.length : Int) - 1)] 39) = W5 at HI ⊢
  go_loopw [5] (fun v5 W => ∃ i : Nat, i ≤ l.length ∧ v5 = .int .i64 i ∧ ∃ A4 c4, Aside0 (CnRel w1 ((l.length : Int) - 1) ((refCanL s.nodes l).take i) (.slice A4 i c4) W)) (fun v5 _ => l.length - (intOf v5).toNat)
  case atStart => exact ⟨0, by omega, rfl, none, 0, by rw [List.take_zero]; exact HI⟩
  case round =>
    clear HI
    obtain ⟨i, hi, rfl, A4, c4, HI⟩ := hrel
    by_cases hlt : i < l.length
    · obtain ⟨adl, rfl, z0⟩ := at_nat (Kd.C_below HV.out.2.2 HI.out.below) i hlt
      have hpi := HP.out _ (rd_mem hlt)
      obtain ⟨q, hq⟩ : ∃ q : Nat, rd l (i : Int) = (q : Int) := ⟨(rd l (i : Int)).toNat, by omega⟩
      rw [hq] at z0 hpi
      have hqn : q < s.nodes.length := by omega
      have HRN : Aside0 ((refCanL s.nodes l).take (i + 1) = (refCanL s.nodes l).take i ++ [⟨(nd s.nodes q).kind, (nd s.nodes q).ints, (nd s.nodes q).texts, (nd s.nodes q).kids.map (findI l)⟩]) := ⟨by
        unfold refCanL
        rw [take_succ_map _ _ _ hlt]
        have : l[i] = (q : Int) := by rw [← hq, rd_eq hlt]
        rw [this]; unfold refN; rw [Int.toNat_natCast]⟩
      clear hq hpi
      obtain ⟨adn, A1, c1, A2, c2, A5, c5, rfl, x0, x1, x2, x3, hN⟩ := at_node HR.out q hqn
      have k0 := pw_cell_below HI.out.below HK1.out
      have HW := Aside0.mk (below_step HB1.out HI.out.below)
      replace x0 := pw_cell_below HW.out x0
      replace x1 := pw_cell_below HW.out x1
      replace x2 := pw_cell_below HW.out x2
      replace x3 := pw_cell_below HW.out x3
      have HN := Aside0.mk hN
      clear hN
      have HSq := Aside0.mk (HSm.out q hqn)
      have hbz : (wr.alloc (.cells #[.int .i64 0, .slice none 0 0, .slice none 0 0, .slice none 0 0] 26)).drew.heap[wr.heap.size]? = some (.cells #[.int .i64 0, .slice none 0 0, .slice none 0 0, .slice none 0 0] 26 (0, 0)) := by
        show (wr.alloc _).heap[wr.heap.size]? = _
        simpa using heap_alloc_new wr _
      have HBZ := Aside0.mk hbz
      have hbA := below_drew (below_alloc (Below.refl wr.heap.size wr) (.cells #[.int .i64 0, .slice none 0 0, .slice none 0 0, .slice none 0 0] 26))
      have HBA := Aside0.mk hbA
      have n0 : wr.heap.size ≠ w.heap.size := World.new_ne wr _ k0
      have n1 := World.new_ne wr _ z0
      have n2 := World.new_ne wr _ x0
      clear hbz hbA
      have k0d : wr.drew.cell? ⟨w.heap.size, 0, none⟩ = some (.slice (some adn) s.nodes.length c) := k0
      have k0a : (wr.alloc (.cells #[.int .i64 0, .slice none 0 0, .slice none 0 0, .slice none 0 0] 26)).drew.cell? ⟨w.heap.size, 0, none⟩ = some (.slice (some adn) s.nodes.length c) := pw_cell_below HBA.out k0
      have z0d : wr.drew.cell? (adl.add i) = some (.int .i64 q) := z0
      have z0a : (wr.alloc (.cells #[.int .i64 0, .slice none 0 0, .slice none 0 0, .slice none 0 0] 26)).drew.cell? (adl.add i) = some (.int .i64 q) := pw_cell_below HBA.out z0
      have x0d : wr.drew.cell? (adn.add (q * 4)) = some (.int .i64 (nd s.nodes q).kind) := x0
      have x0a : (wr.alloc (.cells #[.int .i64 0, .slice none 0 0, .slice none 0 0, .slice none 0 0] 26)).drew.cell? (adn.add (q * 4)) = some (.int .i64 (nd s.nodes q).kind) := pw_cell_below HBA.out x0
      have x1d : wr.drew.cell? ⟨(adn.add (q * 4)).block, (adn.add (q * 4)).off + 1, none⟩ = some (.slice A1 (nd s.nodes q).ints.length c1) := x1
      have x1a : (wr.alloc (.cells #[.int .i64 0, .slice none 0 0, .slice none 0 0, .slice none 0 0] 26)).drew.cell? ⟨(adn.add (q * 4)).block, (adn.add (q * 4)).off + 1, none⟩ = some (.slice A1 (nd s.nodes q).ints.length c1) := pw_cell_below HBA.out x1
      have x2d : wr.drew.cell? ⟨(adn.add (q * 4)).block, (adn.add (q * 4)).off + 2, none⟩ = some (.slice A2 (nd s.nodes q).texts.length c2) := x2
      have x2a : (wr.alloc (.cells #[.int .i64 0, .slice none 0 0, .slice none 0 0, .slice none 0 0] 26)).drew.cell? ⟨(adn.add (q * 4)).block, (adn.add (q * 4)).off + 2, none⟩ = some (.slice A2 (nd s.nodes q).texts.length c2) := pw_cell_below HBA.out x2
      have x3d : wr.drew.cell? ⟨(adn.add (q * 4)).block, (adn.add (q * 4)).off + 3, none⟩ = some (.slice A5 (nd s.nodes q).kids.length c5) := x3
      have x3a : (wr.alloc (.cells #[.int .i64 0, .slice none 0 0, .slice none 0 0, .slice none 0 0] 26)).drew.cell? ⟨(adn.add (q * 4)).block, (adn.add (q * 4)).off + 3, none⟩ = some (.slice A5 (nd s.nodes q).kids.length c5) := pw_cell_below HBA.out x3
      go_wp2
      go_region_held3 (fun W => W.cell? ⟨w.heap.size, 0, none⟩ = some (.slice (some adn) s.nodes.length c) ∧ W.cell? (adl.add i) = some (.int .i64 q) ∧ W.cell? (adn.add (q * 4)) = some (.int .i64 (nd s.nodes q).kind) ∧ W.cell? ⟨(adn.add (q * 4)).block, (adn.add (q * 4)).off + 1, none⟩ = some (.slice A1 (nd s.nodes q).ints.length c1) ∧ W.cell? ⟨(adn.add (q * 4)).block, (adn.add (q * 4)).off + 2, none⟩ = some (.slice A2 (nd s.nodes q).texts.length c2) ∧ W.cell? ⟨(adn.add (q * 4)).block, (adn.add (q * 4)).off + 3, none⟩ = some (.slice A5 (nd s.nodes q).kids.length c5))
        (first
          | (go_split_ands
             (repeat' apply And.intro)
             all_goals first
               | with_reducible assumption
               | with_reducible exact pw_cell_below hB (by assumption)
               | with_reducible exact pw_cell_below (below_alloc (Below.refl _ _) _) (pw_cell_below hB k0d)
               | with_reducible exact pw_cell_below (below_alloc (Below.refl _ _) _) (pw_cell_below hB z0d)
               | with_reducible exact pw_cell_below (below_alloc (Below.refl _ _) _) (pw_cell_below hB x0d)
               | with_reducible exact pw_cell_below (below_alloc (Below.refl _ _) _) (pw_cell_below hB x1d)
               | with_reducible exact pw_cell_below (below_alloc (Below.refl _ _) _) (pw_cell_below hB x2d)
               | with_reducible exact pw_cell_below (below_alloc (Below.refl _ _) _) (pw_cell_below hB x3d)
               | with_reducible exact far_set (far_set (far_set (far_set (by assumption) _ _ (by assumption) _) _ _ (by assumption) _) _ _ (by assumption) _) _ _ (by assumption) _
               | (simp [*]; done)))
        (first
          | (go_at_call 13; refine (rcopy_any (nd s.nodes q) A1 c1 A2 c2 A5 c5 wr.drew (HN.out.below (below_drew HW.out)) HSq.out).mono ?_; rintro e w6 ⟨_, rfl, ⟨v1, v2, v3, rfl, hM⟩, hB⟩; obtain ⟨v1', v2', v3', ev, hR1, hR2, hR3⟩ := kNode_openM hM; injection ev with _ ev; injection ev with e1 ev; injection ev with e2 ev; injection ev with e3 _; subst e1 e2 e3; obtain ⟨B1, d1, rfl⟩ := Kd.R_slice hR1; obtain ⟨B2, d2, rfl⟩ := Kd.R_slice hR2; obtain ⟨B3, d3, rfl⟩ := Kd.R_slice hR3)
          | (go_at_call 13; refine (rcopy_any (nd s.nodes q) A1 c1 A2 c2 A5 c5 (wr.alloc (.cells #[.int .i64 0, .slice none 0 0, .slice none 0 0, .slice none 0 0] 26)).drew (HN.out.below (below_step HW.out HBA.out)) HSq.out).mono ?_; rintro e w6 ⟨_, rfl, ⟨v1, v2, v3, rfl, hM⟩, hB⟩; obtain ⟨v1', v2', v3', ev, hR1, hR2, hR3⟩ := kNode_openM hM; injection ev with _ ev; injection ev with e1 ev; injection ev with e2 ev; injection ev with e3 _; subst e1 e2 e3; obtain ⟨B1, d1, rfl⟩ := Kd.R_slice hR1; obtain ⟨B2, d2, rfl⟩ := Kd.R_slice hR2; obtain ⟨B3, d3, rfl⟩ := Kd.R_slice hR3; have hb6 := (hB.block _ (blk_lt HBZ.out)).trans HBZ.out; have f0 := (blk_cell hb6 0).trans rfl; have f0f := blk_frozen hb6 0; have f1 := (blk_cell (blk_set hb6 0 (.int .i64 (nd s.nodes q).kind)) 1).trans rfl; have f1f := blk_frozen (blk_set hb6 0 (.int .i64 (nd s.nodes q).kind)) 1; have f2 := (blk_cell (blk_set (blk_set hb6 0 (.int .i64 (nd s.nodes q).kind)) 1 (.slice B1 (nd s.nodes q).ints.length d1)) 2).trans rfl; have f2f := blk_frozen (blk_set (blk_set hb6 0 (.int .i64 (nd s.nodes q).kind)) 1 (.slice B1 (nd s.nodes q).ints.length d1)) 2; have f3 := (blk_cell (blk_set (blk_set (blk_set hb6 0 (.int .i64 (nd s.nodes q).kind)) 1 (.slice B1 (nd s.nodes q).ints.length d1)) 2 (.slice B2 (nd s.nodes q).texts.length d2)) 3).trans rfl; have f3f := blk_frozen (blk_set (blk_set (blk_set hb6 0 (.int .i64 (nd s.nodes q).kind)) 1 (.slice B1 (nd s.nodes q).ints.length d1)) 2 (.slice B2 (nd s.nodes q).texts.length d2)) 3))
      have HK : Aside0 (KidB (findI l) (nd s.nodes q) (.slice B1 (nd s.nodes q).ints.length d1) (.slice B2 (nd s.nodes q).texts.length d2) (.slice B3 (nd s.nodes q).kids.length d3) 0 w6.heap.size wr (w6.alloc (.cells #[.int .i64 (nd s.nodes q).kind, .slice B1 (nd s.nodes q).ints.length d1, .slice B2 (nd s.nodes q).texts.length d2, .slice B3 (nd s.nodes q).kids.length d3] 26))) := ⟨⟨below_step ((below_drew (Below.refl _ _)).trans hB) (below_alloc (Below.refl _ _) _), hB.size, by simpa using heap_alloc_new w6 _, Kd.R_alloc hR1 _, Kd.R_alloc hR2 _, by rw [mapTake_zero]; exact Kd.R_alloc hR3 _⟩⟩
      clear hM hR1 hR2 hR3 hB k0 z0 x0 x1 x2 x3 k0d z0d x0d x1d x2d x3d k0a z0a x0a x1a x2a x3a n0 n1 n2
      generalize (w6.alloc (.cells #[.int .i64 (nd s.nodes q).kind, .slice B1 (nd s.nodes q).ints.length d1, .slice B2 (nd s.nodes q).texts.length d2, .slice B3 (nd s.nodes q).kids.length d3] 26)) = W7 at HK ⊢
      generalize w6.heap.size = g6 at HK ⊢
      rotate_left
      have HK : Aside0 (KidB (findI l) (nd s.nodes q) (.slice B1 (nd s.nodes q).ints.length d1) (.slice B2 (nd s.nodes q).texts.length d2) (.slice B3 (nd s.nodes q).kids.length d3) 0 wr.heap.size wr ((((w6.setCell ⟨wr.heap.size, 0, none⟩ (.int .i64 (nd s.nodes q).kind)).setCell ⟨wr.heap.size, 1, none⟩ (.slice B1 (nd s.nodes q).ints.length d1)).setCell ⟨wr.heap.size, 2, none⟩ (.slice B2 (nd s.nodes q).texts.length d2)).setCell ⟨wr.heap.size, 3, none⟩ (.slice B3 (nd s.nodes q).kids.length d3))) := ⟨by
        have hlt2 : wr.heap.size < (wr.alloc (.cells #[.int .i64 0, .slice none 0 0, .slice none 0 0, .slice none 0 0] 26)).drew.heap.size := by show _ < (wr.alloc _).heap.size; simp
        exact ⟨below_set4 (below_step HBA.out hB) (Nat.le_refl _), Nat.le_refl _, box4 hb6 _ _ _ _, Kd.R_lower (R_old4 hR1 hlt2 _ _ _ _) (Nat.le_of_lt hlt2), Kd.R_lower (R_old4 hR2 hlt2 _ _ _ _) (Nat.le_of_lt hlt2), by rw [mapTake_zero]; exact Kd.R_lower (R_old4 hR3 hlt2 _ _ _ _) (Nat.le_of_lt hlt2)⟩⟩
      clear hM hR1 hR2 hR3 hB k0 z0 x0 x1 x2 x3 k0d z0d x0d x1d x2d x3d k0a z0a x0a x1a x2a x3a n0 n1 n2 hb6 f0 f0f f1 f1f f2 f2f f3 f3f
      generalize ((((w6.setCell ⟨wr.heap.size, 0, none⟩ (.int .i64 (nd s.nodes q).kind)).setCell ⟨wr.heap.size, 1, none⟩ (.slice B1 (nd s.nodes q).ints.length d1)).setCell ⟨wr.heap.size, 2, none⟩ (.slice B2 (nd s.nodes q).texts.length d2)).setCell ⟨wr.heap.size, 3, none⟩ (.slice B3 (nd s.nodes q).kids.length d3)) = W7 at HK ⊢
      generalize hg6 : wr.heap.size = g6 at HK ⊢
      all_goals
        obtain ⟨W0, hW0⟩ : ∃ W, W = wr := ⟨_, rfl⟩
        have HW0 := Aside0.mk hW0
        rw [← hW0] at HI HK HW
        have hkl : (nd s.nodes q).kids.length ≤ 1000000 := HSq.out.2.2
        clear hW0 HBZ HBA
        go_wp2
        go_loopw [7] (fun v7 W => ∃ j : Nat, j ≤ (nd s.nodes q).kids.length ∧ v7 = .int .i64 j ∧ Aside0 (KidB (findI l) (nd s.nodes q) (.slice B1 (nd s.nodes q).ints.length d1) (.slice B2 (nd s.nodes q).texts.length d2) (.slice B3 (nd s.nodes q).kids.length d3) j g6 W0 W)) (fun v7 _ => (nd s.nodes q).kids.length - (intOf v7).toNat)
        case atStart => exact ⟨0, by omega, rfl, HK⟩
        case round =>
          clear HK
          obtain ⟨j, hj, rfl, HJ⟩ := hrel
          have hq3 : wr.cell? ⟨g6, 3, none⟩ = some (.slice B3 (nd s.nodes q).kids.length d3) := (blk_cell HJ.out.box 3).trans rfl
          by_cases hjl : j < (nd s.nodes q).kids.length
          · obtain ⟨g7, c7', hv, -⟩ := Kd.R_form HJ.out.r3 (by rw [mapTake_len]; omega)
            injection hv with hA hmm hcc
            clear hmm
            subst hA hcc
            obtain ⟨s1, s2, s3, -⟩ := HJ.out.set hjl
            have HLs := Aside0.mk (Kd.C_below HV.out.2.2 (below_step HI.out.below HJ.out.below))
            go_wp2
            go_region_with (first
                | (go_at_call 61; refine (find_C (some adl) c3 l (rd (nd s.nodes q).kids (j : Int)) _ (Kd.C_drew HLs.out) hlc hl).mono ?_; rintro e w8 ⟨rfl, ⟨nn, rfl⟩⟩; obtain ⟨t1, t2, -, t4⟩ := (HJ.out.drewN (1 + nn)).set hjl))
            all_goals
              have HS4 := Aside0.mk t4
              clear t1 t2 t4 s1 s2 hq3
              go_wp2
              go_roundw
              case rel => exact ⟨j + 1, by omega, by go_num, HS4⟩
              case measure => simp [intOf]; omega
          · obtain rfl : j = (nd s.nodes q).kids.length := by omega
            have HI7 := Aside0.mk (HI.out.later HJ.out.below)
            have q0 := (blk_cell HJ.out.box 0).trans rfl
            have q1 := (blk_cell HJ.out.box 1).trans rfl
            have q2 := (blk_cell HJ.out.box 2).trans rfl
            have o0 := (blk_cell HI7.out.out 0).trans rfl
            have hsz1 := HI.out.below.size
            have HMk := Aside0.mk (node_off (n := ⟨(nd s.nodes q).kind, (nd s.nodes q).ints, (nd s.nodes q).texts, (nd s.nodes q).kids.map (findI l)⟩) (Kd.R_lower HJ.out.r1 hsz1) (Kd.R_lower HJ.out.r2 hsz1) (Kd.R_lower (by have h := HJ.out.r3; rw [mapTake_all] at h; exact h) hsz1) HI7.out.row)
            have hlnx : ((refCanL s.nodes l).take i).length ≤ 1000000 := by rw [List.length_take, refN_len]; omega
            have hln : ((refCanL s.nodes l).take (i + 1)).length = i + 1 := by rw [List.length_take, refN_len]; omega
            go_wp2_with (at_builtin; refine Kd.R_append kNode (w0 := w1) w1.heap.size rfl (.tmp 48) (.tmp 50) 30 26 (.agg #[.int .i64 0, .slice none 0 0, .slice none 0 0, .slice none 0 0]) 80 rfl Tryd.underlying30 info_nodez rfl (by decide) (by omega) (.slice A4 i c4) ((refCanL s.nodes l).take i) ⟨(nd s.nodes q).kind, (nd s.nodes q).ints, (nd s.nodes q).texts, (nd s.nodes q).kids.map (findI l)⟩ [.int .i64 (nd s.nodes q).kind, .slice B1 (nd s.nodes q).ints.length d1, .slice B2 (nd s.nodes q).texts.length d2, .slice B3 (nd s.nodes q).kids.length d3] (fun _ => True) (fun k => some k ≠ (Value.slice A4 i c4).ownBlock) rfl (by go_simp) HMk.out (fun k hk => ⟨trivial, hk⟩) (fun _ _ => trivial) HI7.out.row HI7.out.below HI7.out.below.size (by omega) ?_; intro v5 w8 hR8 hB8 hg8 hat8; rw [← HRN.out] at hR8; obtain ⟨A5', c5', rfl⟩ := Kd.R_slice hR8; rw [hln] at hR8 ⊢; obtain ⟨hb8, hN8⟩ := HI7.out.put hR8 hB8 hg8; have HN8 := Aside0.mk hN8; have y0 := (blk_cell hb8 0).trans rfl; have y0f := blk_frozen hb8 0; clear hR8 hB8 hg8 hat8 hN8 q0 q1 q2 o0 hq3)
            go_roundw
            case rel => exact ⟨i + 1, by omega, by go_num, A5', c5', HN8⟩
            case measure => simp [intOf]; omega
    · obtain rfl : i = l.length := by omega
      have hlall : (refCanL s.nodes l).take l.length = refCanL s.nodes l := List.take_of_length_le (Nat.le_of_eq (refN_len _ _))
      have o0 := (blk_cell HI.out.out 0).trans rfl
      have o1 := (blk_cell HI.out.out 1).trans rfl
      have hres := (HI.out.below.block _ (blk_lt HL1.out)).trans HL1.out
      have l0 := (blk_cell hres 0).trans rfl
      have l0f := blk_frozen hres 0
      have l1 := (blk_cell (blk_set hres 0 (.slice A4 l.length c4)) 1).trans rfl
      have l1f := blk_frozen (blk_set hres 0 (.slice A4 l.length c4)) 1
      go_wp2
      have h2 := And.intro ((blk_cell (box2 hres (.slice A4 l.length c4) (.int .i64 ((l.length : Int) - 1))) 0).trans rfl) ((blk_cell (box2 hres (.slice A4 l.length c4) (.int .i64 ((l.length : Int) - 1))) 1).trans rfl)
      have hRR := Kd.R_lower (R_type (R_type HI.out.row hres (by decide) (.slice A4 l.length c4) 0) (blk_set hres 0 _) (by decide) (.int .i64 ((l.length : Int) - 1)) 1) HB1.out.size
      rw [hlall] at hRR
      exact bodyPost_ret (v := .agg #[.slice A4 l.length c4, .int .i64 ((l.length : Int) - 1)]) (by simp [results, Tryd.results33, go_sem, h2]) rfl
        ⟨A4, c4, by rw [refN_len], by rw [refN_len]; exact hRR, below_set2 (below_step HB1.out HI.out.below) (by omega)⟩
end Go.Proofs.YtglfebpgdghlfaaDoor.L
end
section
namespace Go.Proofs.YtglfebpgdghlfaaDoor.L
open Go.RowKit Go.ChangeShapes Go.WideShapes Go.Proofs.YtglfebpgdghlfaaDoorW.PrintWords Go.Proofs.YtglfebpgdghlfaaDoorW.PrintLast Go.Proofs.YtglfebpgdghlfaaDoorW.PrintMore
attribute [local go_sem] max2_int min2_int max_two min_two max_three min_three max_four min_four
open Go.Proofs.YtglfebpgdghlfaaDoor.PUpgradeUps
structure LedInv (ns : List Node) (K : List Int) (met : List Bool) (vs work : List Int) : Prop where
  len : met.length = ns.length
  tell : ∀ i : Nat, i < ns.length → rdOf false met (i : Int) = decide ((i : Int) ∈ vs)
  vpl : ∀ x ∈ vs, 0 ≤ x ∧ x < (ns.length : Int)
  wpl : ∀ x ∈ work, 0 ≤ x ∧ x < (ns.length : Int)
  vin : ∀ x ∈ vs, Rch ns K x
  win : ∀ x ∈ work, Rch ns K x
  k0 : ∀ k ∈ K, k ∈ vs ∨ k ∈ work
  clo : ∀ x ∈ vs, ∀ k ∈ kids ns x, k ∈ vs ∨ k ∈ work
theorem LedInv.done {ns : List Node} {K : List Int} {met : List Bool} {vs : List Int} (h : LedInv ns K met vs []) (x : Int) : Rch ns K x ↔ x ∈ vs := by
  refine ⟨fun hr => ?_, h.vin x⟩
  induction hr with
  | base hk => exact (h.k0 _ hk).resolve_right (by simp)
  | step _ hk ih => exact (h.clo _ ih _ hk).resolve_right (by simp)
theorem LedInv.skip {ns : List Node} {K : List Int} {met : List Bool} {vs work : List Int} {x : Int} (h : LedInv ns K met vs (x :: work)) (hx : x ∈ vs) : LedInv ns K met vs work :=
  ⟨h.len, h.tell, h.vpl, fun y hy => h.wpl y (by simp [hy]), h.vin, fun y hy => h.win y (by simp [hy]),
    fun k hk => (h.k0 k hk).elim .inl (fun hm => by
      rcases List.mem_cons.1 hm with rfl | hm
      · exact .inl hx
      · exact .inr hm),
    fun y hy k hk => (h.clo y hy k hk).elim .inl (fun hm => by
      rcases List.mem_cons.1 hm with rfl | hm
      · exact .inl hx
      · exact .inr hm)⟩
theorem LedInv.meet {ns : List Node} {K : List Int} {met : List Bool} {vs work : List Int} {x : Int} (hP : Places ns) (h : LedInv ns K met vs (x :: work)) (hx : ¬ x ∈ vs) : LedInv ns K (met.set x.toNat true) (x :: vs) (work ++ kids ns x) := by
  have hxp := h.wpl x (by simp)
  obtain ⟨q, rfl⟩ : ∃ q : Nat, x = (q : Int) := ⟨x.toNat, by omega⟩
  have hkp : ∀ k ∈ kids ns q, 0 ≤ k ∧ k < (ns.length : Int) := fun k hk => hP q (by omega) k hk
  refine ⟨by rw [List.length_set]; exact h.len, fun i hi => ?_, fun y hy => ?_, fun y hy => ?_, fun y hy => ?_, fun y hy => ?_, fun k hk => ?_, fun y hy k hk => ?_⟩
  · have ht := h.tell i hi
    unfold rdOf at ht ⊢
    rw [Int.toNat_natCast] at ht ⊢
    rw [Int.toNat_natCast, List.getD_eq_getElem?_getD, List.getElem?_set]
    rw [List.getD_eq_getElem?_getD] at ht
    by_cases e : q = i
    · subst e
      rw [if_pos rfl, if_pos (by rw [h.len]; exact hi)]
      simp
    · rw [if_neg e, ht]
      have : ((i : Int) ∈ (q : Int) :: vs) ↔ (i : Int) ∈ vs := by
        rw [List.mem_cons]
        exact ⟨fun h => h.resolve_left (fun e' => e (by omega)), .inr⟩
      exact decide_eq_decide.2 this.symm
  · rcases List.mem_cons.1 hy with rfl | hy
    · exact hxp
    · exact h.vpl y hy
  · rcases List.mem_append.1 hy with hy | hy
    · exact h.wpl y (by simp [hy])
    · exact hkp y hy
  · rcases List.mem_cons.1 hy with rfl | hy
    · exact h.win _ (by simp)
    · exact h.vin y hy
  · rcases List.mem_append.1 hy with hy | hy
    · exact h.win y (by simp [hy])
    · exact .step (h.win _ (List.mem_cons_self)) hy
  · rcases h.k0 k hk with hm | hm
    · exact .inl (by simp [hm])
    · rcases List.mem_cons.1 hm with rfl | hm
      · exact .inl (by simp)
      · exact .inr (by simp [hm])
  · rcases List.mem_cons.1 hy with rfl | hy
    · exact .inr (by simp [hk])
    · rcases h.clo y hy k hk with hm | hm
      · exact .inl (by simp [hm])
      · rcases List.mem_cons.1 hm with rfl | hm
        · exact .inl (by simp)
        · exact .inr (by simp [hm])
def Tells (ns : List Node) (K : List Int) (r : List Bool) : Prop := r.length = ns.length ∧ ∀ i : Nat, i < ns.length → (rdOf false r (i : Int) = true ↔ Rch ns K (i : Int))
theorem led_l0 {ns : List Node} (hP : Places ns) (K : List Int) (root : Int) (hM : rows ns ≤ 1000000) : ∀ (m : Nat) (met : List Bool) (vs work : List Int), LedInv ns K met vs work → left ns vs + work.length < m → work.length ≤ 3000000 →
    (work.length + left ns vs ≤ 3000000) → ∃ r, dioramaref09_Led.l0 m met work (ns.map toS) root = some r ∧ Tells ns K r
  | 0, _, _, _, _, h, _, _ => by omega
  | m + 1, met, vs, [], h, _, _, _ => by
    rw [dioramaref09_Led.l0, if_neg (by simp)]
    refine ⟨_, rfl, h.len, fun i hi => ?_⟩
    rw [h.tell i hi, decide_eq_true_iff]
    exact (h.done _).symm
  | m + 1, met, vs, x :: work, h, hl, hw, hs => by
    have hxp := h.wpl x (by simp)
    have hrd : rd (x :: work) 0 = x := rfl
    have hlen : (((x :: work).length : Nat) : Int) = (work.length : Int) + 1 := by simp
    rw [dioramaref09_Led.l0, if_pos (by rw [hlen]; omega), if_pos (by rw [hlen]; omega), if_pos (by rw [hlen]; omega), Option.bind_some, hrd, if_pos hxp.1, if_pos (by rw [h.len]; exact hxp.2)]
    rw [show (x :: work).drop (1 : Int).toNat = work from rfl]
    have hlen' : (x :: work).length = work.length + 1 := rfl
    obtain ⟨q, rfl⟩ : ∃ q : Nat, x = (q : Int) := ⟨x.toNat, by omega⟩
    have ht := h.tell q (by omega)
    by_cases hx : (q : Int) ∈ vs
    · rw [if_pos (by rw [ht]; exact decide_eq_true hx)]
      exact led_l0 hP K root hM m met vs work (h.skip hx) (by omega) (by omega) (by omega)
    · rw [if_neg (by rw [ht, decide_eq_false hx]; decide), Option.bind_some, if_pos (by simp; omega), Option.bind_some, if_pos (by rw [List.length_map]; exact hxp.2)]
      have hk := kids_to ns (q : Int)
      have hlc := left_cons (ns := ns) (vs := vs) (x := q) (by omega) hx
      have hwt : wt ns q = (kids ns (q : Int)).length + 1 := rfl
      rw [hk, if_pos (by simp; omega), List.nil_append]
      exact led_l0 hP K root hM m _ _ _ (h.meet hP hx) (by rw [List.length_append]; omega) (by rw [List.length_append]; omega) (by rw [List.length_append]; omega)
theorem wt_le {ns : List Node} {p : Nat} (hp : p < ns.length) : wt ns p ≤ rows ns := by
  have := left_cons (ns := ns) (vs := []) (x := p) hp (by simp)
  rw [left_nil] at this
  omega
theorem led_f {ns : List Node} (hP : Places ns) (root : Int) (hM : rows ns ≤ 1000000) (p : Nat) (hp : p < ns.length) (k : Nat) (hk : 2 * rows ns < k) :
    ∃ r, dioramaref09_Led.f k (ns.map toS) root (p : Int) = some r ∧ Tells ns (kids ns (p : Int)) r := by
  unfold dioramaref09_Led.f
  have hlr := len_rows ns
  have hl : (((ns.map toS).length : Nat) : Int) = (ns.length : Int) := by rw [List.length_map]
  have hwt : wt ns p = (kids ns (p : Int)).length + 1 := rfl
  have hle := wt_le hp
  rw [hl, if_pos (by omega), if_pos (by rw [Int.toNat_natCast]; omega), Option.bind_some, if_pos (by omega), if_pos (by omega), kids_to, if_pos (by simp; omega), List.nil_append, Int.toNat_natCast]
  refine led_l0 hP (kids ns (p : Int)) root hM k _ [] _ ⟨by simp, fun i hi => ?_, by simp, fun x hx => hP p hp x hx, by simp, fun x hx => .base hx, fun k hk => .inr hk, by simp⟩ ?_ (by omega) ?_
  · unfold rdOf
    rw [Int.toNat_natCast, List.getD_eq_getElem?_getD, List.getElem?_replicate, if_pos hi]
    simp
  · rw [left_nil]; omega
  · rw [left_nil]; omega
theorem rch_root {ns : List Node} {r x : Int} : Rch ns [r] x ↔ x = r ∨ Rch ns (kids ns r) x := by
  refine ⟨fun h => ?_, fun h => ?_⟩
  · induction h with
    | base hk => exact .inl (List.mem_singleton.1 hk)
    | step _ hk ih =>
      rcases ih with rfl | ih
      · exact .inr (.base hk)
      · exact .inr (.step ih hk)
  · rcases h with rfl | h
    · exact .base (by simp)
    · exact h.under
theorem chk_l1 (s : Scene) (led : List Bool) (hn : s.nodes.length ≤ 1000000) (hT : Tells s.nodes (kids s.nodes s.root) led) : ∀ (m i K : Nat), s.nodes.length ≤ i + m → i ≤ s.nodes.length → (∀ j : Nat, j < i → Rch s.nodes [s.root] (j : Int)) →
    dioramaref09_Check.l1 (K + 1 + m) led (i : Int) (s.nodes.map toS) s.root = some (if 0 ≤ looseAt s then (15, looseAt s) else (0, 0))
  | 0, i, K, h1, h2, h3 => by
    rw [show K + 1 + 0 = K + 1 by omega, dioramaref09_Check.l1, if_neg (by rw [List.length_map]; omega)]
    have : looseAt s = -1 := firstP_no _ 0 (fun j hj h => h (by rw [Nat.zero_add]; exact h3 j (by omega)))
    rw [this]; rfl
  | m + 1, i, K, h1, h2, h3 => by
    by_cases hi : i < s.nodes.length
    · rw [show K + 1 + (m + 1) = (K + 1 + m) + 1 by omega, dioramaref09_Check.l1, if_pos (by rw [List.length_map]; omega), wrap64_in ((i : Int) + 1) (by omega), show (i : Int) + 1 = ((i + 1 : Nat) : Int) from rfl]
      have next : Rch s.nodes [s.root] (i : Int) → dioramaref09_Check.l1 (K + 1 + m) led ((i + 1 : Nat) : Int) (s.nodes.map toS) s.root = some (if 0 ≤ looseAt s then (15, looseAt s) else (0, 0)) := fun hr =>
        chk_l1 s led hn hT m (i + 1) K (by omega) (by omega) (ext_lt (P := fun j : Nat => Rch s.nodes [s.root] (j : Int)) h3 hr)
      by_cases hr : (i : Int) = s.root
      · rw [if_pos hr]
        exact next (rch_root.2 (.inl hr))
      · rw [if_neg hr, if_pos (Int.natCast_nonneg i), if_pos (by rw [hT.1]; omega)]
        have ht := hT.2 i hi
        by_cases hl : rdOf false led (i : Int) = true
        · rw [if_pos hl]
          exact next (rch_root.2 (.inr (ht.1 hl)))
        · rw [if_neg hl]
          have : looseAt s = (i : Int) := by
            have := firstP_at (p := fun i => ¬ Rch s.nodes [s.root] (i : Int)) s.nodes.length 0 i hi (fun j hj h => h (by rw [Nat.zero_add]; exact h3 j hj)) (by rw [Nat.zero_add]; exact fun h => hl (ht.2 ((rch_root.1 h).resolve_left hr)))
            rw [Nat.zero_add] at this
            exact this
          rw [this, if_pos (Int.natCast_nonneg i)]
    · have := chk_l1 s led hn hT m i (K + 1) (by omega) h2 h3
      rw [show K + 1 + 1 + m = K + 1 + (m + 1) by omega] at this
      exact this
theorem chk_l0 (s : Scene) (hM : rows s.nodes ≤ 1000000) (hP : Places s.nodes) (h0 : 0 ≤ s.root) (h1 : s.root < s.nodes.length) : ∀ (m i K : Nat), s.nodes.length ≤ i + m → i ≤ s.nodes.length → (∀ j : Nat, j < i → ¬ Cyc s.nodes (j : Int)) →
    dioramaref09_Check.l0 (K + 2 * rows s.nodes + s.nodes.length + 3 + m) (i : Int) (s.nodes.map toS) s.root = some (if 0 ≤ cycAt s.nodes then (14, cycAt s.nodes) else if 0 ≤ looseAt s then (15, looseAt s) else (0, 0))
  | 0, i, K, k1, k2, k3 => by
    have hlr := len_rows s.nodes
    rw [show K + 2 * rows s.nodes + s.nodes.length + 3 + 0 = (K + 2 * rows s.nodes + s.nodes.length + 2) + 1 by omega, dioramaref09_Check.l0, if_neg (by rw [List.length_map]; omega)]
    obtain ⟨q, hq⟩ : ∃ q : Nat, s.root = (q : Int) := ⟨s.root.toNat, by omega⟩
    obtain ⟨r, hr, hT⟩ := led_f hP s.root hM q (by omega) (K + 2 * rows s.nodes + s.nodes.length + 2) (by omega)
    rw [← hq] at hr hT
    rw [hr, Option.bind_some]
    have hc : cycAt s.nodes = -1 := firstP_no _ 0 (fun j hj h => k3 j (by omega) (by rwa [Nat.zero_add] at h))
    rw [hc, if_neg (by decide)]
    have := chk_l1 s r (by omega) hT s.nodes.length 0 (K + 2 * rows s.nodes + 1) (by omega) (by omega) (fun j hj => by omega)
    rw [show K + 2 * rows s.nodes + 1 + 1 + s.nodes.length = K + 2 * rows s.nodes + s.nodes.length + 2 by omega] at this
    exact this
  | m + 1, i, K, k1, k2, k3 => by
    by_cases hi : i < s.nodes.length
    · have hlr := len_rows s.nodes
      rw [show K + 2 * rows s.nodes + s.nodes.length + 3 + (m + 1) = (K + 2 * rows s.nodes + s.nodes.length + 3 + m) + 1 by omega, dioramaref09_Check.l0, if_pos (by rw [List.length_map]; omega)]
      obtain ⟨r, hr, hT⟩ := led_f hP s.root hM i hi (K + 2 * rows s.nodes + s.nodes.length + 3 + m) (by omega)
      rw [hr, Option.bind_some, if_pos (Int.natCast_nonneg i), if_pos (by rw [hT.1]; omega), wrap64_in ((i : Int) + 1) (by omega), show (i : Int) + 1 = ((i + 1 : Nat) : Int) from rfl]
      have ht := hT.2 i hi
      by_cases hl : rdOf false r (i : Int) = true
      · rw [if_pos hl]
        have : cycAt s.nodes = (i : Int) := by
          have := firstP_at (p := fun i => Cyc s.nodes (i : Int)) s.nodes.length 0 i hi (fun j hj h => k3 j hj (by rwa [Nat.zero_add] at h)) (by rw [Nat.zero_add]; exact ht.1 hl)
          rw [Nat.zero_add] at this
          exact this
        rw [this, if_pos (Int.natCast_nonneg i)]
      · rw [if_neg hl]
        exact chk_l0 s hM hP h0 h1 m (i + 1) K (by omega) (by omega) (ext_lt (P := fun j : Nat => ¬ Cyc s.nodes (j : Int)) k3 (fun h => hl (ht.2 h)))
    · have := chk_l0 s hM hP h0 h1 m i (K + 1) (by omega) k2 k3
      rw [show K + 1 + 2 * rows s.nodes + s.nodes.length + 3 + m = K + 2 * rows s.nodes + s.nodes.length + 3 + (m + 1) by omega] at this
      exact this
theorem chk_f (s : Scene) (hM : rows s.nodes ≤ 1000000) : dioramaref09_Check.f (2 * rows s.nodes + 2 * s.nodes.length + 3) (s.nodes.map toS) s.root = some (gcheck s) := by
  unfold dioramaref09_Check.f dioramaref09_Place.f dioramaref09_Refs.f
  rw [Option.bind_some, List.length_map, Option.bind_some, map_of_to]
  by_cases h0 : s.root < 0 ∨ (s.nodes.length : Int) ≤ s.root
  · have : isPl s.nodes.length s.root = false := by unfold isPl; exact decide_eq_false (by omega)
    rw [this, if_neg (by decide), gcheck_root h0]
  · have : isPl s.nodes.length s.root = true := by unfold isPl; exact decide_eq_true (by omega)
    rw [this, if_pos rfl]
    by_cases h : 0 ≤ refsAt s.nodes
    · rw [if_pos h, gcheck_refs h0 h]
    · rw [if_neg h]
      have hP : Places s.nodes := Places.of_refs ((refsAt_lt _).resolve_right h)
      have := chk_l0 s hM hP (by omega) (by omega) s.nodes.length 0 0 (by omega) (by omega) (fun j hj => by omega)
      rw [show 0 + 2 * rows s.nodes + s.nodes.length + 3 + s.nodes.length = 2 * rows s.nodes + 2 * s.nodes.length + 3 by omega] at this
      refine this.trans ?_
      unfold gcheck
      rw [if_neg h0, if_neg h]
theorem rchk_any (A : Option Addr) (c : Nat) (s : Scene) (w : World) (h : kNode.C w A s.nodes.length s.nodes) (hc : s.nodes.length ≤ c) (hM : rows s.nodes ≤ 1000000) :
    Calls Tryd.prog 22 #[.agg #[.slice A s.nodes.length c, .int .i64 s.root]] w fun e w' => e = .returned (.tuple #[.int .i64 (gcheck s).1, .int .i64 (gcheck s).2]) ∧ Below w.heap.size w w' := by
  have hl : (s.nodes.map toS).length = s.nodes.length := List.length_map ..
  have := dioramaref09_Check.calls (2 * rows s.nodes + 2 * s.nodes.length + 3) A c (s.nodes.map toS) s.root (gcheck s).1 (gcheck s).2 w (by rw [hl]; exact C_to h) (by rw [hl]; exact hc) (chk_f s hM)
  rw [hl] at this
  exact this
end Go.Proofs.YtglfebpgdghlfaaDoor.L
end
section
namespace Go.Proofs.YtglfebpgdghlfaaDoor.L
open Go.RowKit Go.ChangeShapes Go.WideShapes Go.Proofs.YtglfebpgdghlfaaDoorW.PrintWords Go.Proofs.YtglfebpgdghlfaaDoorW.PrintLast Go.Proofs.YtglfebpgdghlfaaDoorW.PrintMore
attribute [local go_sem] max2_int min2_int max_two min_two max_three min_three max_four min_four
open Go.Proofs.YtglfebpgdghlfaaDoor.PUpgradeUps
structure Iso (ns ms : List Node) (f : Int → Int) : Prop where
  len : ns.length = ms.length
  pl : ∀ x, Pl ms x → Pl ns (f x)
  inj : ∀ x y, Pl ms x → Pl ms y → f x = f y → x = y
  nd : ∀ x, Pl ms x → nd ns (f x).toNat = ⟨(nd ms x.toNat).kind, (nd ms x.toNat).ints, (nd ms x.toNat).texts, (kids ms x).map f⟩
theorem Iso.kids {ns ms : List Node} {f : Int → Int} (h : Iso ns ms f) {x : Int} (hx : Pl ms x) : L.kids ns (f x) = (L.kids ms x).map f := by
  show (L.nd ns (f x).toNat).kids = _
  rw [h.nd x hx]
theorem Iso.mem {ns ms : List Node} {f : Int → Int} (h : Iso ns ms f) {x : Int} (hx : Pl ms x) {l : List Int} (hl : ∀ y ∈ l, Pl ms y) : f x ∈ l.map f ↔ x ∈ l := by
  refine ⟨fun hm => ?_, fun hm => List.mem_map_of_mem hm⟩
  obtain ⟨y, hy, e⟩ := List.mem_map.1 hm
  rw [h.inj x y hx (hl y hy) e.symm]; exact hy
theorem kids_pl {ms : List Node} (hP : Places ms) {x : Int} (hx : Pl ms x) : ∀ k ∈ kids ms x, Pl ms k := fun k hk => hP x.toNat (by have := hx.1; have := hx.2; omega) k hk
theorem Iso.meet {ns ms : List Node} {f : Int → Int} (h : Iso ns ms f) (hP : Places ms) : ∀ (m : Nat) (a : Int) (met : List Int), Pl ms a → (∀ x ∈ met, Pl ms x) →
    L.meet ns m (f a) (met.map f) = (L.meet ms m a met).map f ∧ ∀ x ∈ L.meet ms m a met, Pl ms x
  | 0, a, met, _, hm => ⟨rfl, hm⟩
  | m + 1, a, met, ha, hm => by
    unfold L.meet
    by_cases hin : a ∈ met
    · rw [if_pos hin, if_pos ((h.mem ha hm).2 hin)]
      exact ⟨rfl, hm⟩
    · rw [if_neg hin, if_neg (fun e => hin ((h.mem ha hm).1 e)), h.kids ha, List.foldl_map]
      have key : ∀ (l met : List Int), (∀ k ∈ l, Pl ms k) → (∀ x ∈ met, Pl ms x) →
          l.foldl (fun v k => L.meet ns m (f k) v) (met.map f) = (l.foldl (fun v k => L.meet ms m k v) met).map f ∧ ∀ x ∈ l.foldl (fun v k => L.meet ms m k v) met, Pl ms x := by
        intro l
        induction l with
        | nil => intro met _ hm; exact ⟨rfl, hm⟩
        | cons k l ih =>
          intro met hl hm
          obtain ⟨e1, e2⟩ := Iso.meet h hP m k met (hl k (by simp)) hm
          rw [List.foldl_cons, List.foldl_cons, e1]
          exact ih _ (fun y hy => hl y (by simp [hy])) e2
      obtain ⟨e1, e2⟩ := key (L.kids ms a) met (kids_pl hP ha) hm
      refine ⟨?_, fun x hx => ?_⟩
      · rw [List.map_append, ← e1]; rfl
      · rcases List.mem_append.1 hx with hx | hx
        · exact e2 x hx
        · rw [List.mem_singleton.1 hx]; exact ha
theorem Iso.rch {ns ms : List Node} {f : Int → Int} (h : Iso ns ms f) (hP : Places ms) {l : List Int} (hl : ∀ k ∈ l, Pl ms k) {x : Int} (hr : Rch ms l x) : Rch ns (l.map f) (f x) ∧ Pl ms x := by
  induction hr with
  | base hk => exact ⟨.base (List.mem_map_of_mem hk), hl _ hk⟩
  | step _ hk ih => exact ⟨.step ih.1 (by rw [h.kids ih.2]; exact List.mem_map_of_mem hk), kids_pl hP ih.2 _ hk⟩
theorem Iso.dag {ns ms : List Node} {f : Int → Int} (h : Iso ns ms f) (hP : Places ms) (hc : ∀ p : Nat, p < ns.length → ¬ Cyc ns p) : Dag ms := by
  refine ⟨hP, fun p hp hcy => ?_⟩
  have hx : Pl ms (p : Int) := ⟨by omega, by omega⟩
  have h1 := (h.rch hP (kids_pl hP hx) hcy).1
  rw [← h.kids hx] at h1
  have hpl := h.pl _ hx
  obtain ⟨q, hq⟩ : ∃ q : Nat, f (p : Int) = (q : Int) := ⟨(f p).toNat, by have := hpl.1; omega⟩
  rw [hq] at h1 hpl
  exact hc q (by have := hpl.2; omega) h1
theorem idxOf_map {f : Int → Int} {P : Int → Prop} (hf : ∀ x y, P x → P y → f x = f y → x = y) {k : Int} (hk : P k) : ∀ l : List Int, (∀ y ∈ l, P y) → (l.map f).idxOf (f k) = l.idxOf k
  | [], _ => rfl
  | y :: l, h => by
    rw [List.map_cons, List.idxOf_cons, List.idxOf_cons, idxOf_map hf hk l (fun z hz => h z (by simp [hz]))]
    by_cases e : y = k
    · rw [e]; simp
    · have : ¬ f y = f k := fun e' => e (hf y k (h y (by simp)) hk e')
      rw [beq_eq_false_iff_ne.2 e, beq_eq_false_iff_ne.2 this]
theorem Iso.ord {s t : Scene} {f : Int → Int} (h : Iso s.nodes t.nodes f) (hP : Places t.nodes) (hr : Pl t.nodes t.root) (he : s.root = f t.root) : L.ord s = (L.ord t).map f ∧ ∀ x ∈ L.ord t, Pl t.nodes x := by
  unfold L.ord M
  rw [he, h.len]
  exact h.meet hP _ _ [] hr (fun x hx => by simp at hx)
theorem Iso.canonL {s t : Scene} {f : Int → Int} (h : Iso s.nodes t.nodes f) (hP : Places t.nodes) (hr : Pl t.nodes t.root) (he : s.root = f t.root) : L.canonL s = L.canonL t := by
  obtain ⟨ho, hop⟩ := h.ord hP hr he
  unfold L.canonL
  rw [ho, List.map_map]
  refine List.map_congr_left (fun a ha => ?_)
  have hap := hop a ha
  show relab s (L.nd s.nodes (f a).toNat) = relab t (L.nd t.nodes a.toNat)
  unfold relab
  rw [h.nd a hap]
  show Node.mk _ _ _ _ = Node.mk _ _ _ _
  congr 1
  rw [List.map_map]
  refine List.map_congr_left (fun k hk => ?_)
  show ((idx s (f k) : Nat) : Int) = (idx t k : Int)
  unfold idx
  rw [ho, idxOf_map (P := Pl t.nodes) h.inj (kids_pl hP hap k hk) _ hop]
theorem Shut.len {ns : List Node} {m : List Int} (h : Shut ns m) : m.length ≤ ns.length := nodup_len h.nd h.pl
theorem shut_next {ns : List Node} {met : List Int} (hs : Shut ns met) (a : Int) : ∀ x ∈ met, ¬ Rch ns (kids ns x) a ∨ a ∈ met := fun x hx => by
  by_cases hr : Rch ns (kids ns x) a
  · right
    have : ∀ y, Rch ns (kids ns x) y → y ∈ met := fun y hy => by
      induction hy with
      | base hb => exact hs.kids x hx _ hb
      | step _ hb ih => exact hs.kids _ ih _ hb
    exact this a hr
  · exact .inl hr
theorem meet_l0 (ns : List Node) (root a : Int) (met : List Int) (hm : met.length ≤ 1000000) : ∀ (m i K : Nat), met.length ≤ i + m → i ≤ met.length → (∀ j : Nat, j < i → ¬ rd met (j : Int) = a) →
    (a ∈ met → dioramaref10_meet.l0 (K + 1 + m) a met (i : Int) (ns.map toS) root = some met) ∧
    (¬ a ∈ met → ∃ K', K ≤ K' ∧ dioramaref10_meet.l0 (K + 1 + m) a met (i : Int) (ns.map toS) root = dioramaref10_meet.l1 K' a met 0 (ns.map toS) root)
  | 0, i, K, h1, h2, h3 => by
    have hno : ¬ a ∈ met := fun hm => by
      obtain ⟨j, hj⟩ := List.getElem?_of_mem hm
      have hjl := (List.getElem?_eq_some_iff.1 hj).1
      refine h3 j (by omega) ?_
      unfold rd
      rw [Int.toNat_natCast, List.getD_eq_getElem?_getD, hj]; rfl
    refine ⟨fun h => absurd h hno, fun _ => ⟨K, Nat.le_refl _, ?_⟩⟩
    rw [show K + 1 + 0 = K + 1 by omega, dioramaref10_meet.l0, if_neg (by omega)]
  | m + 1, i, K, h1, h2, h3 => by
    by_cases hi : i < met.length
    · rw [show K + 1 + (m + 1) = (K + 1 + m) + 1 by omega, dioramaref10_meet.l0, if_pos (by omega), if_pos (Int.natCast_nonneg i)]
      by_cases he : rd met (i : Int) = a
      · rw [if_pos he]
        have hin : a ∈ met := by rw [← he]; exact rd_mem hi
        exact ⟨fun _ => rfl, fun h => absurd hin h⟩
      · rw [if_neg he, wrap64_in ((i : Int) + 1) (by omega), show (i : Int) + 1 = ((i + 1 : Nat) : Int) from rfl]
        exact meet_l0 ns root a met hm m (i + 1) K (by omega) (by omega) (ext_lt (P := fun j : Nat => ¬ rd met (j : Int) = a) h3 he)
    · obtain ⟨g1, g2⟩ := meet_l0 ns root a met hm m i (K + 1) (by omega) h2 h3
      rw [show K + 1 + 1 + m = K + 1 + (m + 1) by omega] at g1 g2
      exact ⟨g1, fun h => by obtain ⟨K', h1, h2⟩ := g2 h; exact ⟨K', by omega, h2⟩⟩
def meetT (ns : List Node) : Nat := ns.length + rows ns + 4
theorem meet_f {ns : List Node} (hd : Dag ns) (root : Int) (hM : rows ns ≤ 1000000) : ∀ (N : Nat) (a : Int) (met : List Int) (K : Nat), reachN ns a < N → Pl ns a → Shut ns met → N * meetT ns ≤ K →
    dioramaref10_meet.f K (ns.map toS) root a met = some (M ns a met)
  | 0, _, _, _, h, _, _, _ => by omega
  | N + 1, a, met, K, hN, ha, hs, hK => by
    have hT : (N + 1) * meetT ns = N * meetT ns + meetT ns := Nat.succ_mul _ _
    have hlen := hs.len
    have hlr := len_rows ns
    have hTd : meetT ns = ns.length + rows ns + 4 := rfl
    obtain ⟨K1, rfl⟩ : ∃ K1, K = (K1 + (kids ns a).length + 1) + 1 + met.length + 1 := ⟨K - met.length - 3 - (kids ns a).length, by
      have hw : (kids ns a).length + 1 ≤ rows ns := wt_le (ns := ns) (p := a.toNat) (by have := ha.1; have := ha.2; omega)
      omega⟩
    rw [dioramaref10_meet.f]
    obtain ⟨g1, g2⟩ := meet_l0 ns root a met (by omega) met.length 0 (K1 + (kids ns a).length + 1) (by omega) (by omega) (fun j hj => by omega)
    by_cases hin : a ∈ met
    · rw [M_in hd ha hin]
      exact g1 hin
    · obtain ⟨K', hK', e⟩ := g2 hin
      rw [M_out hd ha hin]
      refine Eq.trans e ?_
      have hw : (kids ns a).length + 1 ≤ rows ns := wt_le (ns := ns) (p := a.toNat) (by have := ha.1; have := ha.2; omega)
      have hK1 : N * meetT ns ≤ K1 := by omega
      -- the kids, one behind the other
      have key : ∀ (m j K2 : Nat) (v : List Int), (kids ns a).length = j + m → N * meetT ns ≤ K2 → Shut ns v → (∀ x ∈ v, x ∈ v) → v = ML ns ((kids ns a).take j) met →
          dioramaref10_meet.l1 (K2 + 1 + m) a v (j : Int) (ns.map toS) root = some (ML ns (kids ns a) met ++ [a]) := by
        intro m
        induction m with
        | zero =>
          intro j K2 v hj hK2 hv _ hve
          have hvl := hv.len
          rw [show K2 + 1 + 0 = K2 + 1 by omega, dioramaref10_meet.l1, if_pos ha.1, if_pos (by rw [List.length_map]; exact ha.2), kids_to, if_neg (by omega), Option.bind_some, if_pos (by simp; omega), Option.bind_some, if_pos (by simp; omega), List.nil_append]
          rw [hve, List.take_of_length_le (by omega)]
        | succ m ih =>
          intro j K2 v hj hK2 hv _ hve
          have hjl : j < (kids ns a).length := by omega
          rw [show K2 + 1 + (m + 1) = (K2 + 1 + m) + 1 by omega, dioramaref10_meet.l1, if_pos ha.1, if_pos (by rw [List.length_map]; exact ha.2), kids_to, if_pos (by omega), if_pos (Int.natCast_nonneg j)]
          have hk : rd (kids ns a) (j : Int) ∈ kids ns a := rd_mem hjl
          have hkp := hd.kid ha hk
          have hlow := hd.lower ha hk
          rw [meet_f hd root hM N (rd (kids ns a) (j : Int)) v (K2 + 1 + m) (by omega) hkp hv (by omega), Option.bind_some, wrap64_in ((j : Int) + 1) (by have := hs.len; omega), show (j : Int) + 1 = ((j + 1 : Nat) : Int) from rfl]
          have hmet := M_met hd _ (rd (kids ns a) (j : Int)) v (Nat.lt_succ_self _) hkp hv (shut_next hv _)
          refine ih (j + 1) K2 _ (by omega) hK2 hmet.shut (fun _ h => h) ?_
          rw [take_succ_rd hjl, hve]
          unfold ML
          rw [List.foldl_append]
          rfl
      obtain ⟨K2, rfl⟩ : ∃ K2, K' = K2 + 1 + (kids ns a).length := ⟨K' - 1 - (kids ns a).length, by omega⟩
      exact key (kids ns a).length 0 K2 met (by omega) (by omega) hs (fun _ h => h) (by rw [List.take_zero]; rfl)
theorem order_f {s : Scene} (hd : Dag s.nodes) (hr : Pl s.nodes s.root) (hM : rows s.nodes ≤ 1000000) : dioramaref10_Order.f ((s.nodes.length + 1) * meetT s.nodes) (s.nodes.map toS) s.root = some (ord s) := by
  unfold dioramaref10_Order.f
  rw [meet_f hd s.root hM (s.nodes.length + 1) s.root [] _ (Nat.lt_succ_of_le (reachN_le _ _)) hr (Shut.nil _) (Nat.le_refl _)]
  rfl
theorem ord_met' {s : Scene} (hd : Dag s.nodes) (hr : Pl s.nodes s.root) : Met s.nodes s.root [] (ord s) := M_met hd _ _ _ (Nat.lt_succ_self _) hr (Shut.nil _) (fun x hx => by simp at hx)
theorem refCan_eq {s : Scene} (hd : Dag s.nodes) (hr : Pl s.nodes s.root) : refCanL s.nodes (ord s) = canonL s := by
  have hm := ord_met' hd hr
  unfold refCanL canonL
  refine List.map_congr_left (fun a ha => ?_)
  unfold refN relab
  congr 1
  refine List.map_congr_left (fun k hk => ?_)
  have := hm.shut.kids a ha k hk
  unfold findI idx
  rw [if_pos this]
end Go.Proofs.YtglfebpgdghlfaaDoor.L
end
section
namespace Go.Proofs.YtglfebpgdghlfaaDoor.L
open Go.RowKit Go.ChangeShapes Go.WideShapes Go.Proofs.YtglfebpgdghlfaaDoorW.PrintWords Go.Proofs.YtglfebpgdghlfaaDoorW.PrintLast Go.Proofs.YtglfebpgdghlfaaDoorW.PrintMore
attribute [local go_sem] max2_int min2_int max_two min_two max_three min_three max_four min_four
open Go.Proofs.YtglfebpgdghlfaaDoor.PUpgradeUps
def isTr (n : Node) : Bool := decide (n.kind = 2)
def lows (ns : List Node) (n : Nat) : List Nat := (List.range n).filter (fun p => isTr (nd ns p))
def cnt (ns : List Node) (n : Nat) : Nat := (lows ns n).length
theorem lows_succ (ns : List Node) (n : Nat) : lows ns (n + 1) = if isTr (nd ns n) then lows ns n ++ [n] else lows ns n := by
 unfold lows
 rw [List.range_succ, List.filter_append]
 by_cases h : isTr (nd ns n) = true
 ·rw [if_pos h]; simp [h]
 ·rw [if_neg h]; simp [h]
theorem cnt_succ (ns : List Node) (n : Nat) : cnt ns (n + 1) = cnt ns n + if isTr (nd ns n) then 1 else 0 := by
 unfold cnt
 rw [lows_succ]
 split <;> simp
theorem pos_cnt (ns : List Node) (n : Nat) : pos ns n = n + cnt ns n := by
 induction n with
 | zero => rfl
 | succ n ih =>
  rw [pos_succ, cnt_succ, ih]
  unfold upLen isTr
  by_cases h : (nd ns n).kind = 2
  ·rw [if_pos h, decide_eq_true h]; simp; omega
  ·rw [if_neg h, decide_eq_false h]; simp; omega
theorem lows_at (ns : List Node) : ∀ (n p : Nat), p < n → isTr (nd ns p) = true → (lows ns n)[cnt ns p]? = some p
 | 0, _, h, _ => by omega
 | n + 1, p, h, ht => by
  by_cases e : p = n
  ·subst e
   rw [lows_succ, if_pos ht, show cnt ns p = (lows ns p).length from rfl, List.getElem?_append_right (Nat.le_refl _), Nat.sub_self]; rfl
  ·have ih := lows_at ns n p (by omega) ht
   have hl : cnt ns p < (lows ns n).length := (List.getElem?_eq_some_iff.1 ih).1
   rw [lows_succ]
   split
   ·rw [List.getElem?_append_left hl]; exact ih
   ·exact ih
theorem lows_inv (ns : List Node) : ∀ (n c : Nat), c < (lows ns n).length → ∃ p, p < n ∧ isTr (nd ns p) = true ∧ cnt ns p = c ∧ (lows ns n)[c]? = some p
 | 0, c, h => by simp [lows] at h
 | n + 1, c, h => by
  by_cases hc : c < (lows ns n).length
  ·obtain ⟨p, h1, h2, h3, h4⟩ := lows_inv ns n c hc
   refine ⟨p, by omega, h2, h3, ?_⟩
   rw [lows_succ]
   split
   ·rw [List.getElem?_append_left hc]; exact h4
   ·exact h4
  ·rw [lows_succ] at h ⊢
   by_cases ht : isTr (nd ns n) = true
   ·rw [if_pos ht] at h ⊢
    rw [List.length_append] at h
    have hcn : c = (lows ns n).length := by simp at h; omega
    exact ⟨n, by omega, ht, hcn.symm, by rw [hcn, List.getElem?_append_right (Nat.le_refl _), Nat.sub_self]; rfl⟩
   ·rw [if_neg ht] at h
    exact absurd h hc
theorem tr_len {n : Node} (h : isTr n = true) : upLen n = 2 := by unfold upLen; rw [if_pos (of_decide_eq_true h)]
theorem tr_not {n : Node} (h : ¬ isTr n = true) : upLen n = 1 := by unfold upLen; rw [if_neg (fun e => h (decide_eq_true e))]
theorem pos_inj (ns : List Node) {p j q k : Nat} (hj : j < upLen (nd ns p)) (hk : k < upLen (nd ns q)) (h : pos ns p + j = pos ns q + k) : p = q ∧ j = k := by
 have h1 := pos_succ ns p
 have h2 := pos_succ ns q
 by_cases hlt : p < q
 ·have := pos_mono ns (show p + 1 ≤ q from hlt); omega
 ·by_cases hgt : q < p
  ·have := pos_mono ns (show q + 1 ≤ p from hgt); omega
  ·obtain rfl : p = q := by omega
   exact ⟨rfl, by omega⟩
theorem pos_find (ns : List Node) : ∀ (n x : Nat), x < pos ns n → ∃ p j, p < n ∧ j < upLen (nd ns p) ∧ x = pos ns p + j
 | 0, x, h => by simp [pos] at h
 | n + 1, x, h => by
  by_cases hx : x < pos ns n
  ·obtain ⟨p, j, h1, h2, h3⟩ := pos_find ns n x hx
   exact ⟨p, j, by omega, h2, h3⟩
  ·rw [pos_succ] at h
   exact ⟨n, x - pos ns n, by omega, by omega, by omega⟩
theorem nd_mix (ns : List Node) (m : Nat) : ∀ (n p j : Nat), p < n → n ≤ m → j < upLen (nd ns p) → nd (mix ns n m) (pos ns p + j) = nd (upK (nd ns p) ((pos ns p : Int) + 1) (mapK ns (nd ns p).kids)) j
 | 0, _, _, h, _, _ => by omega
 | n + 1, p, j, h, hm, hj => by
  rw [mix_succ]
  by_cases e : p = n
  ·subst e
   have hl := mix_len ns p m
   rw [if_pos (by omega), ← hl]
   rw [nd_append_right, hl]
  ·have hl := mix_len ns n m
   have h1 := pos_mono ns (show p + 1 ≤ n by omega)
   have h2 := pos_succ ns p
   rw [nd_append_left (by omega)]
   exact nd_mix ns m n p j (by omega) (by omega) hj
theorem upK_tr {n : Node} (h : isTr n = true) (b : Int) (q : List Int) : upK n b q = [⟨2, n.ints.take 3, [], [b]⟩, ⟨8, [rd n.ints 3, rd n.ints 3, rd n.ints 3], [], q⟩] := by
 have hk := of_decide_eq_true h
 unfold upK
 rw [if_neg (by omega), if_pos hk]
theorem upK_ntr {n : Node} (h : ¬ isTr n = true) (b b' : Int) (q q' : List Int) : nd (upK n b q') 0 = withKids (nd (upK n b' q) 0) q' ∧ (nd (upK n b' q) 0).kids = q := by
 have hk : ¬ n.kind = 2 := fun e => h (decide_eq_true e)
 unfold upK
 by_cases h1 : n.kind = 1
 ·rw [if_pos h1, if_pos h1]; exact ⟨rfl, rfl⟩
 ·rw [if_neg h1, if_neg h1, if_neg hk, if_neg hk]
  by_cases h3 : n.kind = 3
  ·rw [if_pos h3, if_pos h3]; exact ⟨rfl, rfl⟩
  ·rw [if_neg h3, if_neg h3]
   by_cases h4 : n.kind = 4
   ·rw [if_pos h4, if_pos h4]; exact ⟨rfl, rfl⟩
   ·rw [if_neg h4, if_neg h4]
    by_cases h5 : n.kind = 5
    ·rw [if_pos h5, if_pos h5]; exact ⟨rfl, rfl⟩
    ·rw [if_neg h5, if_neg h5]; exact ⟨rfl, rfl⟩
theorem kidsU (ns : List Node) {p j : Nat} (hp : p < ns.length) (hj : j < upLen (nd ns p)) :
  kids (mix ns ns.length ns.length) ((pos ns p + j : Nat) : Int) = if isTr (nd ns p) = true ∧ j = 0 then [((pos ns p + 1 : Nat) : Int)] else mapK ns (nd ns p).kids := by
 unfold kids
 rw [Int.toNat_natCast, nd_mix ns ns.length ns.length p j hp (Nat.le_refl _) hj]
 by_cases ht : isTr (nd ns p) = true
 ·rw [upK_tr ht]
  have := tr_len ht
  by_cases h0 : j = 0
  ·subst h0; rw [if_pos ⟨ht, rfl⟩]; rfl
  ·obtain rfl : j = 1 := by omega
   rw [if_neg (fun h => h0 h.2)]; rfl
 ·have := tr_not ht
  obtain rfl : j = 0 := by omega
  rw [if_neg (fun h => ht h.1)]
  exact (upK_ntr ht 0 _ (mapK ns (nd ns p).kids) []).2
theorem U_len (ns : List Node) : (mix ns ns.length ns.length).length = pos ns ns.length := mix_len ns _ _
theorem mem_mapK {ns : List Node} (hP : Places ns) {p : Nat} (hp : p < ns.length) {x : Int} (hx : x ∈ mapK ns (nd ns p).kids) : ∃ k : Nat, k < ns.length ∧ (k : Int) ∈ kids ns (p : Int) ∧ x = ((pos ns k + 0 : Nat) : Int) := by
 obtain ⟨k, hk, rfl⟩ := List.mem_map.1 hx
 have := hP p hp k hk
 exact ⟨k.toNat, by omega, by show ((k.toNat : Nat) : Int) ∈ (nd ns (p : Int).toNat).kids; rw [Int.toNat_natCast, Int.toNat_of_nonneg this.1]; exact hk, rfl⟩
theorem up_pos_lt (ns : List Node) {p j : Nat} (hp : p < ns.length) (hj : j < upLen (nd ns p)) : pos ns p + j < pos ns ns.length := by
 have h1 := pos_succ ns p
 have h2 := pos_mono ns (show p + 1 ≤ ns.length from hp)
 omega
theorem U_rch {ns : List Node} (hP : Places ns) {p j : Nat} (hp : p < ns.length) (hj : j < upLen (nd ns p)) {x : Int} (hr : Rch (mix ns ns.length ns.length) (kids (mix ns ns.length ns.length) ((pos ns p + j : Nat) : Int)) x) :
  ∃ q k, q < ns.length ∧ k < upLen (nd ns q) ∧ x = ((pos ns q + k : Nat) : Int) ∧ (Rch ns (kids ns (p : Int)) (q : Int) ∨ (q = p ∧ j < k)) := by
 induction hr with
 | base hk =>
  rw [kidsU ns hp hj] at hk
  by_cases hc : isTr (nd ns p) = true ∧ j = 0
  ·rw [if_pos hc] at hk
   have := tr_len hc.1
   exact ⟨p, 1, hp, by omega, List.mem_singleton.1 hk, .inr ⟨rfl, by omega⟩⟩
  ·rw [if_neg hc] at hk
   obtain ⟨k, h1, h2, h3⟩ := mem_mapK hP hp hk
   exact ⟨k, 0, h1, upLen_pos _, h3, .inl (.base h2)⟩
 | step _ hk ih =>
  obtain ⟨q, k, hq, hkl, rfl, ho⟩ := ih
  rw [kidsU ns hq hkl] at hk
  by_cases hc : isTr (nd ns q) = true ∧ k = 0
  ·rw [if_pos hc] at hk
   have := tr_len hc.1
   refine ⟨q, 1, hq, by omega, List.mem_singleton.1 hk, ?_⟩
   rcases ho with ho | ⟨_, ho⟩
   ·exact .inl ho
   ·omega
  ·rw [if_neg hc] at hk
   obtain ⟨k', h1, h2, h3⟩ := mem_mapK hP hq hk
   refine ⟨k', 0, h1, upLen_pos _, h3, .inl ?_⟩
   rcases ho with ho | ⟨rfl, _⟩
   ·exact .step ho h2
   ·exact .base h2
theorem upS_right {s : Scene} (h : Right s) : Right (upS s) := by
 have hU : (upS s).nodes = mix s.nodes s.nodes.length s.nodes.length := rfl
 have hlen : (upS s).nodes.length = pos s.nodes s.nodes.length := U_len _
 have h0 := h.r0
 have h1 := h.r1
 obtain ⟨r, hr⟩ : ∃ r : Nat, s.root = (r : Int) := ⟨s.root.toNat, by omega⟩
 have hroot : (upS s).root = ((pos s.nodes r + 0 : Nat) : Int) := by
  show ((pos s.nodes s.root.toNat : Nat) : Int) = _
  rw [hr]; rfl
 have hup : ∀ q : Int, Rch s.nodes [s.root] q → ∃ p : Nat, q = (p : Int) ∧ p < s.nodes.length ∧ Rch (upS s).nodes [(upS s).root] ((pos s.nodes p + 0 : Nat) : Int) := fun q hq => by
  induction hq with
  | base hk =>
   rw [List.mem_singleton.1 hk]
   exact ⟨r, hr, by omega, by rw [hroot]; exact .base (by simp)⟩
  | step _ hk ih =>
   rename_i i k _
   obtain ⟨p, rfl, hp, hrc⟩ := ih
   have hkp := kids_pl h.pl ⟨by omega, by omega⟩ k hk
   obtain ⟨k', rfl⟩ : ∃ k' : Nat, k = (k' : Int) := ⟨k.toNat, by have := hkp.1; omega⟩
   have hm : ((pos s.nodes k' + 0 : Nat) : Int) ∈ mapK s.nodes (nd s.nodes p).kids := List.mem_map.2 ⟨(k' : Int), by have := hk; unfold kids at this; rwa [Int.toNat_natCast] at this, rfl⟩
   refine ⟨k', rfl, by have := hkp.2; omega, ?_⟩
   by_cases ht : isTr (nd s.nodes p) = true
   ·have h2 := tr_len ht
    have l1 : Rch (upS s).nodes [(upS s).root] ((pos s.nodes p + 1 : Nat) : Int) := .step hrc (by rw [hU, kidsU s.nodes hp (by omega), if_pos ⟨ht, rfl⟩]; simp)
    exact .step l1 (by rw [hU, kidsU s.nodes hp (by omega), if_neg (fun h => by have := h.2; omega)]; exact hm)
   ·exact .step hrc (by rw [hU, kidsU s.nodes hp (upLen_pos _), if_neg (fun h => ht h.1)]; exact hm)
 refine ⟨by rw [hroot]; omega, ?_, fun x hx k hk => ?_, fun x hx hc => ?_, fun x hx => ?_⟩
 ·rw [hroot, hlen]
  have := up_pos_lt s.nodes (p := r) (j := 0) (by omega) (upLen_pos _)
  omega
 ·rw [hlen] at hx ⊢
  obtain ⟨p, j, hp, hj, rfl⟩ := pos_find s.nodes _ x hx
  have hk' : k ∈ kids (mix s.nodes s.nodes.length s.nodes.length) ((pos s.nodes p + j : Nat) : Int) := by unfold kids; rw [Int.toNat_natCast]; exact hk
  obtain ⟨q, i, hq, hi, rfl, _⟩ := U_rch h.pl hp hj (.base hk')
  have := up_pos_lt s.nodes hq hi
  omega
 ·rw [hlen] at hx
  obtain ⟨p, j, hp, hj, rfl⟩ := pos_find s.nodes _ x hx
  obtain ⟨q, i, hq, hi, he, ho⟩ := U_rch h.pl hp hj hc
  obtain ⟨rfl, rfl⟩ := pos_inj s.nodes hj hi (by omega)
  rcases ho with ho | ⟨_, ho⟩
  ·exact h.cyc p hp ho
  ·omega
 ·rw [hlen] at hx
  obtain ⟨p, j, hp, hj, rfl⟩ := pos_find s.nodes _ x hx
  obtain ⟨q, hq, _, hrc⟩ := hup _ (h.all p hp)
  obtain rfl : q = p := by omega
  by_cases h0 : j = 0
  ·subst h0; exact hrc
  ·have ht : isTr (nd s.nodes q) = true := Classical.byContradiction fun hn => by have := tr_not hn; omega
   have := tr_len ht
   obtain rfl : j = 1 := by omega
   exact .step hrc (by rw [hU, kidsU s.nodes hp (by omega), if_pos ⟨ht, rfl⟩]; simp)
def hd0 (ns : List Node) (p : Nat) : Node := nd (upN (nd ns p)) 0
def lo1 (ns : List Node) (p : Nat) : Node := nd (upN (nd ns p)) 1
def r18 (ns : List Node) (i : Nat) : List Node :=
 (List.range ns.length).map (fun p => if p < i ∧ isTr (nd ns p) = true then withKids (hd0 ns p) [((ns.length + cnt ns p : Nat) : Int)] else hd0 ns p) ++ (lows ns i).map (lo1 ns)
def r18S (s : Scene) : Scene := ⟨r18 s.nodes s.nodes.length, s.root⟩
theorem r18_len (ns : List Node) (i : Nat) : (r18 ns i).length = ns.length + cnt ns i := by unfold r18 cnt; simp
theorem r18_hd (ns : List Node) (i : Nat) {p : Nat} (hp : p < ns.length) : nd (r18 ns i) p = if p < i ∧ isTr (nd ns p) = true then withKids (hd0 ns p) [((ns.length + cnt ns p : Nat) : Int)] else hd0 ns p := by
 unfold r18
 rw [nd_append_left (by simpa using hp)]
 unfold nd
 rw [List.getD_eq_getElem?_getD, List.getElem?_map, List.getElem?_range hp]
 rfl
theorem r18_lo (ns : List Node) (i : Nat) {c p : Nat} (h : (lows ns i)[c]? = some p) : nd (r18 ns i) (ns.length + c) = lo1 ns p := by
 unfold r18
 have : ((List.range ns.length).map (fun p => if p < i ∧ isTr (nd ns p) = true then withKids (hd0 ns p) [((ns.length + cnt ns p : Nat) : Int)] else hd0 ns p)).length = ns.length := by simp
 rw [show ns.length + c = ((List.range ns.length).map (fun p => if p < i ∧ isTr (nd ns p) = true then withKids (hd0 ns p) [((ns.length + cnt ns p : Nat) : Int)] else hd0 ns p)).length + c by rw [this], nd_append_right]
 unfold nd
 rw [List.getD_eq_getElem?_getD, List.getElem?_map, h]
 rfl
def phi (ns : List Node) (x : Int) : Int := if x < (ns.length : Int) then (pos ns x.toNat : Int) else ((pos ns ((lows ns ns.length).getD (x - ns.length).toNat 0) + 1 : Nat) : Int)
def rpos (ns : List Node) (p j : Nat) : Nat := if j = 0 then p else ns.length + cnt ns p
theorem r_find (ns : List Node) {x : Nat} (hx : x < ns.length + cnt ns ns.length) : ∃ p j, p < ns.length ∧ j < upLen (nd ns p) ∧ x = rpos ns p j := by
 by_cases h : x < ns.length
 ·exact ⟨x, 0, h, upLen_pos _, rfl⟩
 ·obtain ⟨p, h1, h2, h3, h4⟩ := lows_inv ns ns.length (x - ns.length) (by unfold cnt at hx; omega)
  have := tr_len h2
  exact ⟨p, 1, h1, by omega, by unfold rpos; rw [if_neg (by decide)]; omega⟩
theorem one_tr {ns : List Node} {p j : Nat} (hj : j < upLen (nd ns p)) (h0 : ¬ j = 0) : isTr (nd ns p) = true ∧ j = 1 := by
 have ht : isTr (nd ns p) = true := Classical.byContradiction fun hn => by have := tr_not hn; omega
 have := tr_len ht
 exact ⟨ht, by omega⟩
theorem phi_rpos (ns : List Node) {p j : Nat} (hp : p < ns.length) (hj : j < upLen (nd ns p)) : phi ns (rpos ns p j : Int) = ((pos ns p + j : Nat) : Int) := by
 unfold phi rpos
 by_cases h0 : j = 0
 ·subst h0
  rw [if_pos rfl, if_pos (by omega)]; rfl
 ·obtain ⟨ht, rfl⟩ := one_tr hj h0
  rw [if_neg h0, if_neg (by omega)]
  have e : ((ns.length + cnt ns p : Nat) : Int) - ns.length = (cnt ns p : Int) := by omega
  rw [e, Int.toNat_natCast, List.getD_eq_getElem?_getD, lows_at ns ns.length p hp ht]
  rfl
theorem cnt_lt (ns : List Node) {p n : Nat} (hp : p < n) (ht : isTr (nd ns p) = true) : cnt ns p < cnt ns n := (List.getElem?_eq_some_iff.1 (lows_at ns n p hp ht)).1
theorem nd_r18 (ns : List Node) {p j : Nat} (hp : p < ns.length) (hj : j < upLen (nd ns p)) :
  nd (r18 ns ns.length) (rpos ns p j) = if j = 0 then (if isTr (nd ns p) = true then withKids (hd0 ns p) [((ns.length + cnt ns p : Nat) : Int)] else hd0 ns p) else lo1 ns p := by
 unfold rpos
 by_cases h0 : j = 0
 ·rw [if_pos h0, if_pos h0, r18_hd ns _ hp]
  by_cases ht : isTr (nd ns p) = true
  ·rw [if_pos ⟨hp, ht⟩, if_pos ht]
  ·rw [if_neg (fun h => ht h.2), if_neg ht]
 ·obtain ⟨ht, rfl⟩ := one_tr hj h0
  rw [if_neg h0, if_neg h0, r18_lo ns _ (lows_at ns ns.length p hp ht)]
theorem r18_kids (ns : List Node) {p j : Nat} (hp : p < ns.length) (hj : j < upLen (nd ns p)) :
  kids (r18 ns ns.length) (rpos ns p j : Int) = if isTr (nd ns p) = true ∧ j = 0 then [((ns.length + cnt ns p : Nat) : Int)] else (nd ns p).kids := by
 unfold kids
 rw [Int.toNat_natCast, nd_r18 ns hp hj]
 by_cases h0 : j = 0
 ·rw [if_pos h0]
  by_cases ht : isTr (nd ns p) = true
  ·rw [if_pos ht, if_pos ⟨ht, h0⟩]; rfl
  ·rw [if_neg ht, if_neg (fun h => ht h.1)]
   unfold hd0
   rw [upN_eq]
   exact (upK_ntr ht 0 0 (nd ns p).kids []).2
 ·obtain ⟨ht, rfl⟩ := one_tr hj h0
  rw [if_neg h0, if_neg (fun h => h0 h.2)]
  unfold lo1
  rw [upN_eq, upK_tr ht]; rfl
theorem r18_places {ns : List Node} (hP : Places ns) : Places (r18 ns ns.length) := by
 intro x hx k hk
 rw [r18_len] at hx ⊢
 obtain ⟨p, j, hp, hj, rfl⟩ := r_find ns hx
 have hk' : k ∈ kids (r18 ns ns.length) (rpos ns p j : Int) := by unfold kids; rw [Int.toNat_natCast]; exact hk
 rw [r18_kids ns hp hj] at hk'
 by_cases hc : isTr (nd ns p) = true ∧ j = 0
 ·rw [if_pos hc] at hk'
  have := cnt_lt ns hp hc.1
  rw [List.mem_singleton.1 hk']
  omega
 ·rw [if_neg hc] at hk'
  have := hP p hp k hk'
  omega
theorem r18_iso {ns : List Node} (hP : Places ns) : Iso (mix ns ns.length ns.length) (r18 ns ns.length) (phi ns) := by
 have hl := r18_len ns ns.length
 have hul := U_len ns
 have hpc := pos_cnt ns ns.length
 have find : ∀ x, Pl (r18 ns ns.length) x → ∃ p j, p < ns.length ∧ j < upLen (nd ns p) ∧ x = (rpos ns p j : Int) := fun x hx => by
  obtain ⟨y, rfl⟩ : ∃ y : Nat, x = (y : Int) := ⟨x.toNat, by have := hx.1; omega⟩
  obtain ⟨p, j, h1, h2, h3⟩ := r_find ns (x := y) (by have := hx.2; omega)
  exact ⟨p, j, h1, h2, by rw [h3]⟩
 refine ⟨by omega, fun x hx => ?_, fun x y hx hy he => ?_, fun x hx => ?_⟩
 ·obtain ⟨p, j, hp, hj, rfl⟩ := find x hx
  rw [phi_rpos ns hp hj]
  have := up_pos_lt ns hp hj
  exact ⟨by omega, by omega⟩
 ·obtain ⟨p, j, hp, hj, rfl⟩ := find x hx
  obtain ⟨q, k, hq, hk, rfl⟩ := find y hy
  rw [phi_rpos ns hp hj, phi_rpos ns hq hk] at he
  obtain ⟨rfl, rfl⟩ := pos_inj ns hj hk (by omega)
  rfl
 ·obtain ⟨p, j, hp, hj, rfl⟩ := find x hx
  rw [phi_rpos ns hp hj, Int.toNat_natCast, Int.toNat_natCast, nd_mix ns ns.length ns.length p j hp (Nat.le_refl _) hj, nd_r18 ns hp hj, r18_kids ns hp hj]
  have hmk : mapK ns (nd ns p).kids = (nd ns p).kids.map (phi ns) := by
   unfold mapK
   refine List.map_congr_left (fun k hk => ?_)
   have := hP p hp k hk
   unfold phi
   rw [if_pos this.2]
  by_cases h0 : j = 0
  ·subst h0
   rw [if_pos rfl]
   by_cases ht : isTr (nd ns p) = true
   ·have h2 := tr_len ht
    rw [if_pos ht, if_pos ⟨ht, rfl⟩, upK_tr ht]
    unfold hd0
    rw [upN_eq, upK_tr ht, List.map_singleton]
    have := phi_rpos ns (j := 1) hp (by omega)
    unfold rpos at this
    rw [if_neg (by decide)] at this
    rw [this]
    rfl
   ·rw [if_neg ht, if_neg (fun h => ht h.1), (upK_ntr ht _ 0 (nd ns p).kids _).1, hmk]
    rfl
  ·obtain ⟨ht, rfl⟩ := one_tr hj h0
   rw [if_neg h0, if_neg (fun h => h0 h.2), upK_tr ht]
   unfold lo1
   rw [upN_eq, upK_tr ht, hmk]
   rfl
theorem r18_canon {s : Scene} (h : Right s) : canonL (upS s) = canonL (r18S s) ∧ Dag (r18S s).nodes ∧ Pl (r18S s).nodes (r18S s).root := by
 have hi := r18_iso h.pl
 have hP := r18_places h.pl
 have hr : Pl (r18S s).nodes (r18S s).root := ⟨h.r0, by
  show s.root < ((r18 s.nodes s.nodes.length).length : Int)
  rw [r18_len]
  have := h.r1
  omega⟩
 refine ⟨hi.canonL (s := upS s) (t := r18S s) hP hr ?_, hi.dag hP (upS_right h).cyc, hr⟩
 show ((pos s.nodes s.root.toNat : Nat) : Int) = phi s.nodes s.root
 unfold phi
 rw [if_pos h.r1]
end Go.Proofs.YtglfebpgdghlfaaDoor.L
end
section
namespace Go.Proofs.YtglfebpgdghlfaaDoor.L
open Go.RowKit Go.ChangeShapes Go.WideShapes Go.Proofs.YtglfebpgdghlfaaDoorW.PrintWords Go.Proofs.YtglfebpgdghlfaaDoorW.PrintLast Go.Proofs.YtglfebpgdghlfaaDoorW.PrintMore
attribute [local go_sem] max2_int min2_int max_two min_two max_three min_three max_four min_four
open Go.Proofs.YtglfebpgdghlfaaDoor.PUpgradeUps
def B (s : ByteArray) (i : Nat) : Nat := (s.get! i).toNat
theorem B_lt (s : ByteArray) (i : Nat) : B s i < 256 := UInt8.toNat_lt _
theorem bt_B (s : ByteArray) (i : Nat) (h : i < s.size) : bt s (i : Int) = (B s i : Int) := by
  unfold bt B
  rw [dif_pos (by simpa using h)]
  have : s[i] = s.get! i := by
    show s.data[i] = s.data[i]!
    rw [getElem!_pos]
  rw [← this]; rfl
theorem ext_bytes (s : ByteArray) (p z : Nat) (h : p + z ≤ s.size) : (s.extract p (p + z)).toList = bytesL ((List.range z).map fun i => B s (p + i)) := by
  rw [Lib.toList_data]
  refine List.ext_getElem ?_ (fun i h1 h2 => ?_)
  · have : s.size = s.data.size := rfl
    simp [bytesL]; omega
  · have hz : i < z := by simpa [bytesL] using h2
    simp only [bytesL, List.getElem_map, List.getElem_range, B]
    rw [UInt8.ofNat_toNat]
    have : s.get! (p + i) = s.data[p + i]! := rfl
    rw [this, getElem!_pos s.data (p + i) (show p + i < s.data.size by have : s.size = s.data.size := rfl; omega)]
    simp
theorem bytesL_inj : ∀ (l m : List Nat), (∀ x ∈ l, x < 256) → (∀ x ∈ m, x < 256) → (bytesL l = bytesL m ↔ l = m)
  | [], [], _, _ => by simp
  | [], y :: m, _, _ => by simp [bytesL]
  | x :: l, [], _, _ => by simp [bytesL]
  | x :: l, y :: m, h1, h2 => by
    have ih := bytesL_inj l m (fun z hz => h1 z (by simp [hz])) (fun z hz => h2 z (by simp [hz]))
    have hx := h1 x (by simp)
    have hy := h2 y (by simp)
    simp only [bytesL, List.map_cons, List.cons.injEq] at ih ⊢
    rw [ih]
    refine and_congr_left (fun _ => ⟨fun h => ?_, fun h => by rw [h]⟩)
    have := congrArg UInt8.toNat h
    simpa [Nat.mod_eq_of_lt hx, Nat.mod_eq_of_lt hy] using this
theorem charN_lt (n : Nat) (hn : n ≤ 1114111) : ∀ x ∈ charN n, x < 256 := by
  intro x hx
  unfold charN at hx
  by_cases h0 : 1114111 < n ∨ (55296 ≤ n ∧ n ≤ 57343)
  · rw [if_pos h0] at hx; simp at hx
  · rw [if_neg h0] at hx
    by_cases h1 : n < 128
    · rw [if_pos h1] at hx; simp at hx; omega
    · rw [if_neg h1] at hx
      by_cases h2 : n < 2048
      · rw [if_pos h2] at hx; simp at hx; omega
      · rw [if_neg h2] at hx
        by_cases h3 : n < 65536
        · rw [if_pos h3] at hx; simp at hx; omega
        · rw [if_neg h3] at hx; simp at hx; omega
def okZ (s : ByteArray) (p z : Nat) (x : Int) : Prop := 0 ≤ x ∧ x ≤ 1114111 ∧ charN x.toNat = (List.range z).map fun i => B s (p + i)
theorem fin_at (k : Nat) (s : ByteArray) (p z : Nat) (x : Int) (hp : p + z ≤ s.size) (hs : s.size ≤ 1000000) :
    (okZ s p z x → dioramaref05_At.l1 (k + 2) s (p : Int) (z : Int) x (z : Int) = some (x, (z : Int))) ∧ (¬ okZ s p z x → dioramaref05_At.l1 (k + 2) s (p : Int) (z : Int) x (z : Int) = dioramaref05_At.l0 (k + 1) s (p : Int) ((z + 1 : Nat) : Int)) := by
  have hz : wrap64 ((z : Int) + 1) = ((z + 1 : Nat) : Int) := by rw [wrap64_in _ (by omega)]; rfl
  have hpz : wrap64 ((p : Int) + z) = ((p + z : Nat) : Int) := by rw [wrap64_in _ (by omega)]; rfl
  rw [dioramaref05_At.l1, if_neg (Int.lt_irrefl _), hz]
  by_cases h0 : x ≥ 0
  · rw [if_pos h0]
    by_cases h1 : x ≤ 1114111
    · rw [if_pos h1]
      have hw : wrap32 x = x := wrap32_in x (by omega)
      obtain ⟨n, rfl⟩ : ∃ n : Nat, x = (n : Int) := ⟨x.toNat, by omega⟩
      have hn : n ≤ 1114111 := by omega
      obtain ⟨t, ht, hb⟩ := char_f k n hn
      rw [hw, ht, Option.bind_some, hpz, if_pos (Int.natCast_nonneg p), if_pos (show (p : Int) ≤ ((p + z : Nat) : Int) by omega), if_pos (show ((p + z : Nat) : Int) ≤ (s.size : Int) by omega)]
      rw [hb, Int.toNat_natCast, Int.toNat_natCast, ext_bytes s p z hp]
      have hi := bytesL_inj (charN n) ((List.range z).map fun i => B s (p + i)) (charN_lt n hn) (fun x hx => by
        obtain ⟨i, _, rfl⟩ := List.mem_map.1 hx
        exact B_lt _ _)
      refine ⟨fun hok => ?_, fun hok => ?_⟩
      · rw [if_pos (hi.2 (by have := hok.2.2; rwa [Int.toNat_natCast] at this))]
      · rw [if_neg (fun h => hok ⟨h0, h1, by rw [Int.toNat_natCast]; exact hi.1 h⟩)]
    · rw [if_neg h1]
      exact ⟨fun h => absurd h.2.1 h1, fun _ => rfl⟩
  · rw [if_neg h0]
    exact ⟨fun h => absurd h.1 h0, fun _ => rfl⟩
theorem l1_step (k : Nat) (s : ByteArray) (p z j : Nat) (x : Int) (hj : j < z) (hp : p + z ≤ s.size) (hs : s.size ≤ 1000000) (hx : -100000000 ≤ x ∧ x ≤ 100000000) :
    dioramaref05_At.l1 (k + 1) s (p : Int) (z : Int) x (j : Int) = dioramaref05_At.l1 k s (p : Int) (z : Int) (64 * x + (B s (p + j) : Int) - 128) ((j + 1 : Nat) : Int) := by
  have hb := B_lt s (p + j)
  rw [dioramaref05_At.l1, if_pos (show (j : Int) < z by omega)]
  have e1 : wrap64 ((p : Int) + j) = ((p + j : Nat) : Int) := by rw [wrap64_in _ (by omega)]; rfl
  have e2 : wrap64 ((j : Int) + 1) = ((j + 1 : Nat) : Int) := by rw [wrap64_in _ (by omega)]; rfl
  rw [e1, e2, if_pos (Int.natCast_nonneg _), if_pos (show ((p + j : Nat) : Int) < (s.size : Int) by omega), bt_B s (p + j) (by omega)]
  clear e1 e2
  generalize B s (p + j) = y at hb
  rw [wrap64_in (64 * x) (by omega), wrap64_in (y : Int) (by omega), wrap64_in (64 * x + y) (by omega), wrap64_in (64 * x + y - 128) (by omega)]
def numZ (s : ByteArray) (p z : Nat) : Int :=
  if z = 1 then B s p else if z = 2 then 64 * ((B s p : Int) - 192) + B s (p + 1) - 128
  else if z = 3 then 64 * (64 * ((B s p : Int) - 224) + B s (p + 1) - 128) + B s (p + 2) - 128
  else 64 * (64 * (64 * ((B s p : Int) - 240) + B s (p + 1) - 128) + B s (p + 2) - 128) + B s (p + 3) - 128
theorem l0_step (k : Nat) (s : ByteArray) (p z : Nat) (hz : 1 ≤ z ∧ z ≤ 4) (hs : s.size ≤ 1000000) (hp : p < s.size) :
    (p + z ≤ s.size → okZ s p z (numZ s p z) → dioramaref05_At.l0 (k + 1 + 5 + z) s (p : Int) (z : Int) = some (numZ s p z, (z : Int)))
    ∧ (p + z ≤ s.size → ¬ okZ s p z (numZ s p z) → dioramaref05_At.l0 (k + 1 + 5 + z) s (p : Int) (z : Int) = dioramaref05_At.l0 (k + 1) s (p : Int) ((z + 1 : Nat) : Int))
    ∧ (¬ p + z ≤ s.size → dioramaref05_At.l0 (k + 1 + 5 + z) s (p : Int) (z : Int) = some (0, 0)) := by
  have hb := B_lt s p
  have hw : wrap64 ((p : Int) + z) = ((p + z : Nat) : Int) := by rw [wrap64_in _ (by omega)]; rfl
  have e0 : dioramaref05_At.l0 (k + 1 + 5 + z) s (p : Int) (z : Int) = dioramaref05_At.j1 (k + 1 + 4 + z) s (p : Int) (z : Int) (decide (p + z ≤ s.size)) := by
    rw [show k + 1 + 5 + z = (k + 1 + 4 + z) + 1 by omega, dioramaref05_At.l0, if_pos (show (z : Int) ≤ 4 by omega), hw]
    congr 1
    exact decide_eq_decide.2 (by omega)
  rw [e0]
  clear e0 hw
  by_cases hpz : p + z ≤ s.size
  · rw [decide_eq_true hpz, show k + 1 + 4 + z = (k + 1 + 3 + z) + 1 by omega, dioramaref05_At.j1, if_pos rfl, if_pos (Int.natCast_nonneg p), if_pos (show (p : Int) < s.size by omega), bt_B s p hp, wrap64_in (B s p : Int) (by generalize B s p = y at hb; omega)]
    have c : ∀ x : Int, dioramaref05_At.j4 (k + 1 + 1 + z) s (p : Int) (z : Int) x = dioramaref05_At.l1 (k + 1 + z) s (p : Int) (z : Int) x 1 := fun x => by
      rw [show k + 1 + 1 + z = (k + 1 + z) + 1 by omega, dioramaref05_At.j4]
    have key : dioramaref05_At.l1 (k + 1 + z) s (p : Int) (z : Int) ((B s p : Int) - (if z = 2 then 192 else if z = 3 then 224 else if z = 4 then 240 else 0)) 1 = dioramaref05_At.l1 (k + 2) s (p : Int) (z : Int) (numZ s p z) (z : Int) := by
      have b1 := B_lt s (p + 1)
      have b2 := B_lt s (p + 2)
      have hz4 : z = 1 ∨ z = 2 ∨ z = 3 ∨ z = 4 := by omega
      rcases hz4 with rfl | rfl | rfl | rfl
      · unfold numZ; simp
      · have h1 := l1_step (k + 2) s p 2 1 ((B s p : Int) - 192) (by omega) hpz hs (by generalize B s p = y at hb; omega)
        exact h1
      · have h1 := l1_step (k + 3) s p 3 1 ((B s p : Int) - 224) (by omega) hpz hs (by generalize B s p = y at hb; omega)
        have h2 := l1_step (k + 2) s p 3 2 (64 * ((B s p : Int) - 224) + B s (p + 1) - 128) (by omega) hpz hs (by generalize B s p = y at hb; generalize B s (p + 1) = y1 at b1; omega)
        exact h1.trans h2
      · have h1 := l1_step (k + 4) s p 4 1 ((B s p : Int) - 240) (by omega) hpz hs (by generalize B s p = y at hb; omega)
        have h2 := l1_step (k + 3) s p 4 2 (64 * ((B s p : Int) - 240) + B s (p + 1) - 128) (by omega) hpz hs (by generalize B s p = y at hb; generalize B s (p + 1) = y1 at b1; omega)
        have h3 := l1_step (k + 2) s p 4 3 (64 * (64 * ((B s p : Int) - 240) + B s (p + 1) - 128) + B s (p + 2) - 128) (by omega) hpz hs (by generalize B s p = y at hb; generalize B s (p + 1) = y1 at b1; generalize B s (p + 2) = y2 at b2; omega)
        exact h1.trans (h2.trans h3)
    have hall : (if (z : Int) = 2 then (dioramaref05_At.j2 (k + 1 + 3 + z) s (p : Int) (z : Int) (wrap64 ((B s p : Int) - 192))) else (dioramaref05_At.j2 (k + 1 + 3 + z) s (p : Int) (z : Int) (B s p : Int))) = dioramaref05_At.l1 (k + 2) s (p : Int) (z : Int) (numZ s p z) (z : Int) := by
      rw [← key, ← c]
      have f2 : ∀ x : Int, dioramaref05_At.j2 (k + 1 + 3 + z) s (p : Int) (z : Int) x = (if (z : Int) = 3 then (dioramaref05_At.j3 (k + 1 + 2 + z) s (p : Int) (z : Int) (wrap64 (x - 224))) else (dioramaref05_At.j3 (k + 1 + 2 + z) s (p : Int) (z : Int) x)) := fun x => by
        rw [show k + 1 + 3 + z = (k + 1 + 2 + z) + 1 by omega, dioramaref05_At.j2]
      have f3 : ∀ x : Int, dioramaref05_At.j3 (k + 1 + 2 + z) s (p : Int) (z : Int) x = (if (z : Int) = 4 then (dioramaref05_At.j4 (k + 1 + 1 + z) s (p : Int) (z : Int) (wrap64 (x - 240))) else (dioramaref05_At.j4 (k + 1 + 1 + z) s (p : Int) (z : Int) x)) := fun x => by
        rw [show k + 1 + 2 + z = (k + 1 + 1 + z) + 1 by omega, dioramaref05_At.j3]
      have w1 : wrap64 ((B s p : Int) - 192) = (B s p : Int) - 192 := wrap64_in _ (by generalize B s p = y at hb; omega)
      have w2 : wrap64 ((B s p : Int) - 224) = (B s p : Int) - 224 := wrap64_in _ (by generalize B s p = y at hb; omega)
      have w3 : wrap64 ((B s p : Int) - 240) = (B s p : Int) - 240 := wrap64_in _ (by generalize B s p = y at hb; omega)
      have hz4 : z = 1 ∨ z = 2 ∨ z = 3 ∨ z = 4 := by omega
      rcases hz4 with rfl | rfl | rfl | rfl
      · rw [if_neg (by decide), f2, if_neg (by decide), f3, if_neg (by decide), if_neg (by decide), if_neg (by decide), if_neg (by decide), Int.sub_zero]
      · rw [if_pos (by decide), w1, f2, if_neg (by decide), f3, if_neg (by decide), if_pos (by decide)]
      · rw [if_neg (by decide), f2, if_pos (by decide), w2, f3, if_neg (by decide), if_neg (by decide), if_pos (by decide)]
      · rw [if_neg (by decide), f2, if_neg (by decide), f3, if_pos (by decide), w3, if_neg (by decide), if_neg (by decide), if_pos (by decide)]
    rw [hall]
    have hf := fin_at k s p z (numZ s p z) hpz hs
    exact ⟨fun _ h => hf.1 h, fun _ h => hf.2 h, fun h => absurd hpz h⟩
  · rw [decide_eq_false hpz, show k + 1 + 4 + z = (k + 1 + 3 + z) + 1 by omega, dioramaref05_At.j1, if_neg (by decide)]
    exact ⟨fun h => absurd h hpz, fun h => absurd h hpz, fun _ => rfl⟩
end Go.Proofs.YtglfebpgdghlfaaDoor.L
end
section
namespace Go.Proofs.YtglfebpgdghlfaaDoor.L
open Go.RowKit Go.ChangeShapes Go.WideShapes Go.Proofs.YtglfebpgdghlfaaDoorW.PrintWords Go.Proofs.YtglfebpgdghlfaaDoorW.PrintLast Go.Proofs.YtglfebpgdghlfaaDoorW.PrintMore
attribute [local go_sem] max2_int min2_int max_two min_two max_three min_three max_four min_four
open Go.Proofs.YtglfebpgdghlfaaDoor.PUpgradeUps
theorem range4 {α : Type} (f : Nat → α) : (List.range 1).map f = [f 0] ∧ (List.range 2).map f = [f 0, f 1] ∧ (List.range 3).map f = [f 0, f 1, f 2] ∧ (List.range 4).map f = [f 0, f 1, f 2, f 3] := ⟨rfl, rfl, rfl, rfl⟩
def okN (b0 b1 b2 b3 z : Nat) (x : Int) : Prop := 0 ≤ x ∧ x ≤ 1114111 ∧ charN x.toNat = (if z = 1 then [b0] else if z = 2 then [b0, b1] else if z = 3 then [b0, b1, b2] else [b0, b1, b2, b3])
def nuN (b0 b1 b2 b3 z : Nat) : Int :=
  if z = 1 then b0 else if z = 2 then 64 * ((b0 : Int) - 192) + b1 - 128
  else if z = 3 then 64 * (64 * ((b0 : Int) - 224) + b1 - 128) + b2 - 128
  else 64 * (64 * (64 * ((b0 : Int) - 240) + b1 - 128) + b2 - 128) + b3 - 128
theorem okZ_N (s : ByteArray) (p z : Nat) (hz : 1 ≤ z ∧ z ≤ 4) (x : Int) : okZ s p z x ↔ okN (B s p) (B s (p + 1)) (B s (p + 2)) (B s (p + 3)) z x := by
  unfold okZ okN
  have h4 : z = 1 ∨ z = 2 ∨ z = 3 ∨ z = 4 := by omega
  have r := range4 (fun i => B s (p + i))
  rcases h4 with rfl | rfl | rfl | rfl
  · rw [r.1]; rfl
  · rw [r.2.1]; rfl
  · rw [r.2.2.1]; rfl
  · rw [r.2.2.2]; rfl
theorem charN_cases (n : Nat) (hn : n ≤ 1114111) : (charN n = [] ∧ 55296 ≤ n ∧ n ≤ 57343) ∨ (charN n = [n] ∧ n < 128) ∨ (charN n = [192 + n / 64, 128 + n % 64] ∧ 128 ≤ n ∧ n < 2048) ∨ (charN n = [224 + n / 4096, 128 + n / 64 % 64, 128 + n % 64] ∧ 2048 ≤ n ∧ n < 65536 ∧ ¬ (55296 ≤ n ∧ n ≤ 57343)) ∨ (charN n = [240 + n / 262144, 128 + n / 4096 % 64, 128 + n / 64 % 64, 128 + n % 64] ∧ 65536 ≤ n) := by
  unfold charN
  by_cases h0 : 55296 ≤ n ∧ n ≤ 57343
  · rw [if_pos (.inr h0)]; exact .inl ⟨rfl, h0⟩
  · rw [if_neg (by omega)]
    by_cases h1 : n < 128
    · rw [if_pos h1]; exact .inr (.inl ⟨rfl, h1⟩)
    · rw [if_neg h1]
      by_cases h2 : n < 2048
      · rw [if_pos h2]; exact .inr (.inr (.inl ⟨rfl, by omega, h2⟩))
      · rw [if_neg h2]
        by_cases h3 : n < 65536
        · rw [if_pos h3]; exact .inr (.inr (.inr (.inl ⟨rfl, by omega, h3, h0⟩)))
        · rw [if_neg h3]; exact .inr (.inr (.inr (.inr ⟨rfl, by omega⟩)))
theorem ok_dec (r b0 b1 b2 b3 z : Nat) (hz : 1 ≤ z ∧ z ≤ 4) (hr : z ≤ r) (h : okN b0 b1 b2 b3 z (nuN b0 b1 b2 b3 z)) :
    Lib.decodeN r b0 b1 b2 b3 = ((nuN b0 b1 b2 b3 z).toNat, z) ∧ ¬ ((nuN b0 b1 b2 b3 z).toNat = 65533 ∧ z = 1) := by
  obtain ⟨h0, h1, h2⟩ := h
  have hc := charN_cases (nuN b0 b1 b2 b3 z).toNat (by omega)
  have hmx : (nuN b0 b1 b2 b3 z).toNat ≤ 1114111 := by omega
  generalize (nuN b0 b1 b2 b3 z).toNat = n at *
  clear h0 h1
  have h4 : z = 1 ∨ z = 2 ∨ z = 3 ∨ z = 4 := by omega
  rcases h4 with rfl | rfl | rfl | rfl
  · rw [if_pos rfl] at h2
    rcases hc with ⟨hc, ha⟩ | ⟨hc, ha⟩ | ⟨hc, ha⟩ | ⟨hc, ha⟩ | ⟨hc, ha⟩ <;> rw [hc] at h2 <;> simp only [List.cons.injEq, reduceCtorEq, and_true, and_false, false_and] at h2
    subst h2
    unfold Lib.decodeN
    rw [if_pos ha]
    exact ⟨rfl, by omega⟩
  · rw [if_neg (by decide), if_pos rfl] at h2
    rcases hc with ⟨hc, ha⟩ | ⟨hc, ha⟩ | ⟨hc, ha⟩ | ⟨hc, ha⟩ | ⟨hc, ha⟩ <;> rw [hc] at h2 <;> simp only [List.cons.injEq, reduceCtorEq, and_true, and_false, false_and] at h2
    obtain ⟨e0, e1⟩ := h2
    unfold Lib.decodeN
    rw [if_neg (by omega), if_pos (by omega), if_pos (by omega)]
    exact ⟨Prod.ext (by show _ = n; omega) rfl, by omega⟩
  · rw [if_neg (by decide), if_neg (by decide), if_pos rfl] at h2
    rcases hc with ⟨hc, ha⟩ | ⟨hc, ha⟩ | ⟨hc, ha⟩ | ⟨hc, ha⟩ | ⟨hc, ha⟩ <;> rw [hc] at h2 <;> simp only [List.cons.injEq, reduceCtorEq, and_true, and_false, false_and] at h2
    obtain ⟨e0, e1, e2⟩ := h2
    unfold Lib.decodeN
    rw [if_neg (by omega), if_neg (by omega), if_pos (by omega), if_pos (by omega)]
    exact ⟨Prod.ext (by show _ = n; omega) rfl, by omega⟩
  · rw [if_neg (by decide), if_neg (by decide), if_neg (by decide)] at h2
    rcases hc with ⟨hc, ha⟩ | ⟨hc, ha⟩ | ⟨hc, ha⟩ | ⟨hc, ha⟩ | ⟨hc, ha⟩ <;> rw [hc] at h2 <;> simp only [List.cons.injEq, reduceCtorEq, and_true, and_false, false_and] at h2
    obtain ⟨e0, e1, e2, e3⟩ := h2
    unfold Lib.decodeN
    rw [if_neg (by omega), if_neg (by omega), if_neg (by omega), if_pos (by omega), if_pos (by omega)]
    exact ⟨Prod.ext (by show _ = n; omega) rfl, by omega⟩
theorem dec_ok (r b0 b1 b2 b3 : Nat) (k0 : b0 < 256) (k1 : b1 < 256) (k2 : b2 < 256) (k3 : b3 < 256) :
    Lib.decodeN r b0 b1 b2 b3 = (65533, 1) ∨ ∃ z, 1 ≤ z ∧ z ≤ 4 ∧ (z = 1 ∨ z ≤ r) ∧ okN b0 b1 b2 b3 z (nuN b0 b1 b2 b3 z) := by
  rcases Lib.decodeN_shape r b0 b1 b2 b3 with ⟨c, e⟩ | ⟨c1, c2, c3, cv, e⟩ | ⟨c1, c2, c3, c4, cv, cs, e⟩ | ⟨c1, c2, c3, c4, c5, cv, cw, e⟩ | e
  · refine .inr ⟨1, by omega, by omega, .inl rfl, ?_⟩
    have hn : nuN b0 b1 b2 b3 1 = ((b0 : Nat) : Int) := rfl
    rw [hn]
    refine ⟨by omega, by omega, ?_⟩
    rw [Int.toNat_natCast, if_pos rfl]
    unfold charN
    rw [if_neg (by omega), if_pos c]
  · refine .inr ⟨2, by omega, by omega, .inr (by omega), ?_⟩
    have hn : nuN b0 b1 b2 b3 2 = ((b0 % 32 * 64 + b1 % 64 : Nat) : Int) := by
      show 64 * ((b0 : Int) - 192) + b1 - 128 = _
      omega
    rw [hn]
    clear hn e
    refine ⟨by omega, by omega, ?_⟩
    rw [Int.toNat_natCast, if_neg (by decide), if_pos rfl]
    unfold charN
    rw [if_neg (by omega), if_neg (by omega), if_pos (by omega)]
    rw [show 192 + (b0 % 32 * 64 + b1 % 64) / 64 = b0 by omega, show 128 + (b0 % 32 * 64 + b1 % 64) % 64 = b1 by omega]
  · refine .inr ⟨3, by omega, by omega, .inr (by omega), ?_⟩
    have hn : nuN b0 b1 b2 b3 3 = ((b0 % 16 * 4096 + b1 % 64 * 64 + b2 % 64 : Nat) : Int) := by
      show 64 * (64 * ((b0 : Int) - 224) + b1 - 128) + b2 - 128 = _
      omega
    rw [hn]
    clear hn e
    refine ⟨by omega, by omega, ?_⟩
    rw [Int.toNat_natCast, if_neg (by decide), if_neg (by decide), if_pos rfl]
    unfold charN
    rw [if_neg (by omega), if_neg (by omega), if_neg (by omega), if_pos (by omega)]
    rw [show 224 + (b0 % 16 * 4096 + b1 % 64 * 64 + b2 % 64) / 4096 = b0 by omega, show 128 + (b0 % 16 * 4096 + b1 % 64 * 64 + b2 % 64) / 64 % 64 = b1 by omega, show 128 + (b0 % 16 * 4096 + b1 % 64 * 64 + b2 % 64) % 64 = b2 by omega]
  · refine .inr ⟨4, by omega, by omega, .inr (by omega), ?_⟩
    have hn : nuN b0 b1 b2 b3 4 = ((b0 % 8 * 262144 + b1 % 64 * 4096 + b2 % 64 * 64 + b3 % 64 : Nat) : Int) := by
      show 64 * (64 * (64 * ((b0 : Int) - 240) + b1 - 128) + b2 - 128) + b3 - 128 = _
      omega
    rw [hn]
    clear hn e
    refine ⟨by omega, by omega, ?_⟩
    rw [Int.toNat_natCast, if_neg (by decide), if_neg (by decide), if_neg (by decide)]
    unfold charN
    rw [if_neg (by omega), if_neg (by omega), if_neg (by omega), if_neg (by omega)]
    rw [show 240 + (b0 % 8 * 262144 + b1 % 64 * 4096 + b2 % 64 * 64 + b3 % 64) / 262144 = b0 by omega, show 128 + (b0 % 8 * 262144 + b1 % 64 * 4096 + b2 % 64 * 64 + b3 % 64) / 4096 % 64 = b1 by omega, show 128 + (b0 % 8 * 262144 + b1 % 64 * 4096 + b2 % 64 * 64 + b3 % 64) / 64 % 64 = b2 by omega, show 128 + (b0 % 8 * 262144 + b1 % 64 * 4096 + b2 % 64 * 64 + b3 % 64) % 64 = b3 by omega]
  · exact .inl e
theorem decode_B (s : ByteArray) (p : Nat) : Utf8.decode s p = Lib.decodeN (s.size - p) (B s p) (B s (p + 1)) (B s (p + 2)) (B s (p + 3)) := Lib.decode_at s p
theorem nuN_B (s : ByteArray) (p z : Nat) : numZ s p z = nuN (B s p) (B s (p + 1)) (B s (p + 2)) (B s (p + 3)) z := rfl
theorem found (s : ByteArray) (p z : Nat) (hz : 1 ≤ z ∧ z ≤ 4) (hp : p + z ≤ s.size) (h : okZ s p z (numZ s p z)) : ¬ Utf8.decode s p = (65533, 1) ∧ (z : Int) = ((Utf8.decode s p).2 : Int) := by
  have h1 := ok_dec (s.size - p) _ _ _ _ z hz (by omega) (by rw [← nuN_B]; exact (okZ_N s p z hz _).1 h)
  rw [decode_B, h1.1]
  exact ⟨fun e => h1.2 ⟨(Prod.mk.inj e).1, (Prod.mk.inj e).2⟩, rfl⟩
theorem none_bad (s : ByteArray) (p : Nat) (hp : p < s.size) (h : ∀ z, 1 ≤ z → z ≤ 4 → ¬ (p + z ≤ s.size ∧ okZ s p z (numZ s p z))) : Utf8.decode s p = (65533, 1) := by
  rw [decode_B]
  refine (dec_ok (s.size - p) _ _ _ _ (B_lt _ _) (B_lt _ _) (B_lt _ _) (B_lt _ _)).resolve_right ?_
  rintro ⟨z, h1, h4, hr, hok⟩
  exact h z h1 h4 ⟨by omega, by rw [okZ_N s p z ⟨h1, h4⟩, nuN_B]; exact hok⟩
def AtPost (s : ByteArray) (p : Nat) (r : Option (Int × Int)) : Prop := ∃ c n : Int, r = some (c, n) ∧ (Utf8.decode s p = (65533, 1) → n = 0) ∧ (¬ Utf8.decode s p = (65533, 1) → n = ((Utf8.decode s p).2 : Int))
theorem at_step (s : ByteArray) (p z k : Nat) (hs : s.size ≤ 1000000) (hp : p < s.size) (hz : 1 ≤ z ∧ z ≤ 4) (hprev : ∀ y, 1 ≤ y → y < z → ¬ (p + y ≤ s.size ∧ okZ s p y (numZ s p y)))
    (hnext : (∀ y, 1 ≤ y → y < z + 1 → ¬ (p + y ≤ s.size ∧ okZ s p y (numZ s p y))) → AtPost s p (dioramaref05_At.l0 (k + 1) s (p : Int) ((z + 1 : Nat) : Int))) : AtPost s p (dioramaref05_At.l0 (k + 1 + 5 + z) s (p : Int) (z : Int)) := by
  have hst := l0_step k s p z hz hs hp
  by_cases h1 : p + z ≤ s.size
  · by_cases h2 : okZ s p z (numZ s p z)
    · rw [hst.1 h1 h2]
      have hf := found s p z hz h1 h2
      exact ⟨_, _, rfl, fun h => absurd h hf.1, fun _ => hf.2⟩
    · rw [hst.2.1 h1 h2]
      refine hnext (fun y hy1 hy2 => ?_)
      by_cases he : y = z
      · subst he; exact fun h => h2 h.2
      · exact hprev y hy1 (by omega)
  · rw [hst.2.2 h1]
    have hb := none_bad s p hp (fun y hy1 hy2 => by
      by_cases he : y < z
      · exact hprev y hy1 he
      · exact fun h => h1 (by have := h.1; omega))
    exact ⟨_, _, rfl, fun _ => rfl, fun h => absurd hb h⟩
theorem at_f (s : ByteArray) (p K : Nat) (hs : s.size ≤ 1000000) (hp : p < s.size) : AtPost s p (dioramaref05_At.f (K + 32) s (p : Int)) := by
  unfold dioramaref05_At.f
  refine at_step s p 1 (K + 25) hs hp (by omega) (fun y h1 h2 => by omega) (fun h1 => ?_)
  refine at_step s p 2 (K + 18) hs hp (by omega) h1 (fun h2 => ?_)
  refine at_step s p 3 (K + 10) hs hp (by omega) h2 (fun h3 => ?_)
  refine at_step s p 4 (K + 1) hs hp (by omega) h3 (fun h4 => ?_)
  rw [dioramaref05_At.l0, if_neg (by decide), dioramaref05_At.j1, if_neg (by decide)]
  have hb := none_bad s p hp (fun y hy1 hy2 => h4 y hy1 (by omega))
  exact ⟨_, _, rfl, fun _ => rfl, fun h => absurd hb h⟩
theorem read_l0 (s : ByteArray) (hs : s.size ≤ 1000000) : ∀ (m p K : Nat) (acc : List Int), s.size ≤ p + m → p ≤ s.size → acc.length ≤ p →
    ∃ l, ∃ q : Nat, dioramaref05_Read.l0 (K + 33 + m) s acc (p : Int) = some (l, (q : Int)) ∧ (q = s.size ↔ utfFrom s m p = -1)
  | 0, p, K, acc, h1, h2, h3 => by
    rw [show K + 33 + 0 = (K + 32) + 1 by omega, dioramaref05_Read.l0, if_neg (by omega)]
    exact ⟨_, p, rfl, fun _ => rfl, fun _ => by omega⟩
  | m + 1, p, K, acc, h1, h2, h3 => by
    rw [show K + 33 + (m + 1) = (K + 33 + m) + 1 by omega, dioramaref05_Read.l0]
    by_cases hp : p < s.size
    · rw [if_pos (show (p : Int) < s.size by omega)]
      obtain ⟨c, n, he, hb, hg⟩ := at_f s p (K + 1 + m) hs hp
      rw [show K + 33 + m = K + 1 + m + 32 by omega, he, Option.bind_some]
      unfold utfFrom
      rw [if_pos hp]
      by_cases hd : Utf8.decode s p = (65533, 1)
      · rw [if_pos (hb hd), if_pos hd]
        exact ⟨_, p, rfl, fun h => by omega, fun h => by omega⟩
      · have hn := hg hd
        have hbd := decode_bound s p
        have hbd3 := hbd.2.2 hp
        rw [if_neg (by show ¬ n = 0; omega), if_neg hd]
        dsimp only
        rw [if_pos (by omega), hn, wrap64_in ((p : Int) + _) (by omega), show K + 1 + m + 32 = K + 33 + m by omega]
        exact read_l0 s hs m (p + (Utf8.decode s p).2) K _ (by omega) (by omega) (by rw [List.length_append]; simp; omega)
    · rw [if_neg (show ¬ (p : Int) < s.size by omega), utfFrom_end hp]
      exact ⟨_, p, rfl, fun _ => rfl, fun _ => by omega⟩
theorem utf_ok_iff (s : ByteArray) : utfOk s = true ↔ utfFrom s s.size 0 ≠ -1 → False := by
  unfold utfOk utfFirst
  rw [decide_eq_true_iff]
  refine ⟨fun h hn => ?_, fun h => ?_⟩
  · have hge : ∀ (f p : Nat), utfFrom s f p = -1 ∨ 0 ≤ utfFrom s f p := fun f => by
      induction f with
      | zero => intro p; exact .inl rfl
      | succ f ih =>
        intro p
        unfold utfFrom
        split
        · split
          · exact .inr (by omega)
          · exact ih _
        · exact .inl rfl
    rcases hge s.size 0 with h0 | h0
    · exact hn h0
    · omega
  · have : utfFrom s s.size 0 = -1 := Classical.byContradiction h
    rw [this]; decide
theorem right_f (s : ByteArray) (hs : s.size ≤ 1000000) (k : Nat) (hk : s.size + 33 ≤ k) : dioramaref05_Right.f k s = some (utfOk s) := by
  obtain ⟨K, rfl⟩ : ∃ K, k = K + 33 + s.size := ⟨k - 33 - s.size, by omega⟩
  obtain ⟨l, q, he, hq⟩ := read_l0 s hs s.size 0 K [] (by omega) (by omega) (by simp)
  unfold dioramaref05_Right.f dioramaref05_Read.f
  rw [show ((0 : Int)) = ((0 : Nat) : Int) from rfl, he, Option.bind_some]
  congr 1
  show ((q : Int) == (s.size : Int)) = utfOk s
  have h1 := utf_ok_iff s
  by_cases h : utfFrom s s.size 0 = -1
  · have e1 := hq.2 h
    have e2 : utfOk s = true := h1.2 (fun hn => hn h)
    rw [e1, e2]; simp
  · have e1 : ¬ q = s.size := fun e => h (hq.1 e)
    have e2 : utfOk s = false := Bool.eq_false_iff.2 (fun e => h1.1 e h)
    rw [e2]
    exact beq_eq_false_iff_ne.2 (by omega)
end Go.Proofs.YtglfebpgdghlfaaDoor.L
end
section
namespace Go.Proofs.YtglfebpgdghlfaaDoor.L
open Go.RowKit Go.ChangeShapes Go.WideShapes Go.Proofs.YtglfebpgdghlfaaDoorW.PrintWords Go.Proofs.YtglfebpgdghlfaaDoorW.PrintLast Go.Proofs.YtglfebpgdghlfaaDoorW.PrintMore
attribute [local go_sem] max2_int min2_int max_two min_two max_three min_three max_four min_four
open Go.Proofs.YtglfebpgdghlfaaDoor.PUpgradeUps
theorem in_f (c n : Int) : dioramaref07_In.f c n = some (inC c n) := by
  unfold dioramaref07_In.f
  by_cases c1 : c = 1
  · subst c1; rfl
  · rw [if_neg c1]
    by_cases c2 : c = 2
    · subst c2
      rw [if_pos rfl, inC_2]
      by_cases h0 : n ≥ 0
      · rw [if_pos h0]
        by_cases h1 : n ≤ 140737488355328
        · rw [if_pos h1, decide_eq_true (by omega), decide_eq_true h1]; rfl
        · rw [if_neg h1, if_neg (by omega), decide_eq_false h1, Bool.and_false]
      · rw [if_neg h0, if_pos (by omega), decide_eq_true (show n ≤ 140737488355328 by omega), Bool.and_true]
    · rw [if_neg c2]
      by_cases c3 : c = 3
      · subst c3
        rw [if_pos rfl, inC_3]
        by_cases h0 : n ≥ 0
        · rw [if_pos h0, decide_eq_true h0]; rfl
        · rw [if_neg h0, decide_eq_false h0]; rfl
      · rw [if_neg c3]
        by_cases c4 : c = 4
        · subst c4
          rw [if_pos rfl, inC_4]
          by_cases h0 : n ≥ 0
          · rw [if_pos h0, decide_eq_true h0, Bool.true_and]; congr 1; exact decide_eq_decide.2 (by omega)
          · rw [if_neg h0, decide_eq_false h0]; rfl
        · rw [if_neg c4]
          by_cases c5 : c = 5
          · subst c5
            rw [if_pos rfl, inC_5]
            by_cases h0 : n = 0
            · subst h0; rw [if_pos (show wrap64 (0 * 0) = 0 from wrap64_in _ (by decide)), if_pos (by decide)]; rfl
            · by_cases h1 : n = 1
              · subst h1; rw [if_pos (show wrap64 (1 * 1) = 1 from wrap64_in _ (by decide)), if_pos (by decide)]; rfl
              · have hr : ((n == 0) || (n == 1)) = false := by simp [h0, h1]
                rw [hr]
                split
                · split
                  · rw [decide_eq_false (by omega)]
                  · rfl
                · rfl
          · rw [if_neg c5, inC_no c1 c2 c3 c4 c5]
def tailErr (n : Node) (s : Spec) : Int := if (n.kids.length : Int) < s.least ∨ 0 ≤ s.most ∧ s.most < n.kids.length then 12 else 0
theorem check_l1 (n : Node) (s : Spec) (hs : TextsSmall n) (hl : n.texts.length ≤ 1000000) : ∀ (m i K : Nat), n.texts.length ≤ i + m → i ≤ n.texts.length → (∀ j, j < i → utfOk (str n.texts j) = true) →
    dioramaref08_Check.l1 (K + 1000034 + m) (i : Int) n.kind n.ints n.texts n.kids s.ints s.texts s.least s.most = some (if textsOk n.texts = false then 11 else tailErr n s)
  | 0, i, K, h1, h2, h3 => by
    have hi : i = n.texts.length := by omega
    have ht : textsOk n.texts = true := decide_eq_true (fun j hj => h3 j (by omega))
    rw [show K + 1000034 + 0 = (K + 1000033) + 1 by omega, dioramaref08_Check.l1, if_neg (by omega), ht, if_neg (show ¬ (true = false) by decide)]
    unfold tailErr
    by_cases h : (n.kids.length : Int) < s.least
    · rw [if_pos h, if_pos (.inl h)]
    · rw [if_neg h]
      by_cases h' : s.most ≥ 0
      · rw [if_pos h']
        by_cases h'' : (n.kids.length : Int) > s.most
        · rw [if_pos h'', if_pos (.inr ⟨h', h''⟩)]
        · rw [if_neg h'', if_neg (by omega)]
      · rw [if_neg h', if_neg (by omega)]
  | m + 1, i, K, h1, h2, h3 => by
    by_cases hi : i < n.texts.length
    · rw [show K + 1000034 + (m + 1) = (K + 1000034 + m) + 1 by omega, dioramaref08_Check.l1, if_pos (by omega), if_pos (Int.natCast_nonneg i)]
      have hrd : rdOf ByteArray.empty n.texts (i : Int) = str n.texts i := by unfold rdOf str; rw [Int.toNat_natCast]
      rw [hrd, right_f (str n.texts i) (hs i hi) _ (by have := hs i hi; omega), Option.bind_some]
      by_cases hu : utfOk (str n.texts i) = true
      · rw [if_pos hu, wrap64_in ((i : Int) + 1) (by omega), show (i : Int) + 1 = ((i + 1 : Nat) : Int) from rfl]
        exact check_l1 n s hs hl m (i + 1) K (by omega) (by omega) (ext_lt (P := fun j => utfOk (str n.texts j) = true) h3 hu)
      · rw [if_neg hu, textsOk_bad hi (Bool.eq_false_iff.2 hu), if_pos rfl]
    · have := check_l1 n s hs hl m i (K + 1) (by omega) h2 h3
      rw [show K + 1 + 1000034 + m = K + 1000034 + (m + 1) by omega] at this
      exact this
theorem check_l0 (n : Node) (s : Spec) (hs : TextsSmall n) (hl : n.texts.length ≤ 1000000) (hn : n.ints.length ≤ 1000000) (he : n.ints.length = s.ints.length) : ∀ (m i K : Nat), n.ints.length ≤ i + m → i ≤ n.ints.length → (∀ j, j < i → inC (rd s.ints j) (rd n.ints j) = true) →
    dioramaref08_Check.l0 (K + 2000035 + m) (i : Int) n.kind n.ints n.texts n.kids s.ints s.texts s.least s.most = some (nodeErr n s)
  | 0, i, K, h1, h2, h3 => by
    have hi : i = n.ints.length := by omega
    have ht : numsOk n.ints s.ints = true := decide_eq_true ⟨he, fun j hj => h3 j (by omega)⟩
    rw [show K + 2000035 + 0 = (K + 2000034) + 1 by omega, dioramaref08_Check.l0, if_neg (by omega)]
    unfold nodeErr
    rw [ht, if_neg (show ¬ (true = false) by decide)]
    by_cases h : (n.texts.length : Int) = s.texts
    · rw [if_pos h]
      have h1 := check_l1 n s hs hl n.texts.length 0 (K + 1000000 - n.texts.length) (by omega) (by omega) (fun j hj => by omega)
      rw [show K + 1000000 - n.texts.length + 1000034 + n.texts.length = K + 2000034 by omega] at h1
      refine h1.trans ?_
      congr 1
      by_cases hk : textsOk n.texts = false
      · rw [if_pos hk, if_pos (.inr hk)]
      · rw [if_neg hk, if_neg (fun hh => hh.elim (fun h' => h' h) hk)]; rfl
    · rw [if_neg h, if_pos (.inl h)]
  | m + 1, i, K, h1, h2, h3 => by
    by_cases hi : i < n.ints.length
    · rw [show K + 2000035 + (m + 1) = (K + 2000035 + m) + 1 by omega, dioramaref08_Check.l0, if_pos (by omega), if_pos (Int.natCast_nonneg i), if_pos (by omega), in_f, Option.bind_some]
      by_cases hu : inC (rd s.ints i) (rd n.ints i) = true
      · rw [if_pos hu, wrap64_in ((i : Int) + 1) (by omega), show (i : Int) + 1 = ((i + 1 : Nat) : Int) from rfl]
        exact check_l0 n s hs hl hn he m (i + 1) K (by omega) (by omega) (ext_lt (P := fun j => inC (rd s.ints j) (rd n.ints j) = true) h3 hu)
      · rw [if_neg hu]
        unfold nodeErr
        rw [if_pos (numsOk_bad hi (Bool.eq_false_iff.2 hu))]
    · have := check_l0 n s hs hl hn he m i (K + 1) (by omega) h2 h3
      rw [show K + 1 + 2000035 + m = K + 2000035 + (m + 1) by omega] at this
      exact this
theorem check_f (n : Node) (s : Spec) (hs : TextsSmall n) (hm : Small n) : dioramaref08_Check.f 3000035 n.kind n.ints n.texts n.kids s.ints s.texts s.least s.most = some (nodeErr n s) := by
  unfold dioramaref08_Check.f
  by_cases h : n.ints.length = s.ints.length
  · rw [if_pos (by omega)]
    have h1 := check_l0 n s hs hm.2.1 hm.1 h n.ints.length 0 (1000000 - n.ints.length) (by omega) (by omega) (fun j hj => by omega)
    rw [show 1000000 - n.ints.length + 2000035 + n.ints.length = 3000035 by have := hm.1; omega] at h1
    exact h1
  · rw [if_neg (by omega)]
    unfold nodeErr
    rw [if_pos (numsOk_len h)]
theorem rcheck_any (n : Node) (A1 : Option Addr) (c1 : Nat) (A2 : Option Addr) (c2 : Nat) (A3 : Option Addr) (c3 : Nat) (s : Spec) (A4 : Option Addr) (c4 : Nat) (w : World) (h : NodeC w n A1 c1 A2 c2 A3 c3) (h4 : SpecC w s A4 c4) (hs : TextsSmall n) (hm : Small n) :
    Calls Tryd.prog 41 #[.agg #[.int .i64 n.kind, .slice A1 n.ints.length c1, .slice A2 n.texts.length c2, .slice A3 n.kids.length c3], .agg #[.slice A4 s.ints.length c4, .int .i64 s.texts, .int .i64 s.least, .int .i64 s.most]] w
      fun e w' => e = .returned (.int .i64 (nodeErr n s)) ∧ Below w.heap.size w w' :=
  dioramaref08_Check.calls 3000035 n.kind A1 c1 n.ints A2 c2 n.texts A3 c3 n.kids A4 c4 s.ints s.texts s.least s.most _ w h.i h.l1 h.t h.l2 h.k h.l3 h4.i h4.l (check_f n s hs hm)
end Go.Proofs.YtglfebpgdghlfaaDoor.L
end
section
namespace Go.Proofs.YtglfebpgdghlfaaDoor.L
open Go.RowKit Go.ChangeShapes Go.WideShapes Go.Proofs.YtglfebpgdghlfaaDoorW.PrintWords Go.Proofs.YtglfebpgdghlfaaDoorW.PrintLast Go.Proofs.YtglfebpgdghlfaaDoorW.PrintMore
attribute [local go_sem] max2_int min2_int max_two min_two max_three min_three max_four min_four
theorem findS_no (l : List Spec) (k : Int) (h : ∀ i : Nat, 1 ≤ i → i < l.length → k ≠ (i : Int)) : findS l k = none := by
  unfold findS
  rw [if_pos]
  rcases Int.lt_or_le k 1 with h1 | h1
  · exact .inl h1
  · refine .inr ?_
    rcases Int.lt_or_le k l.length with h2 | h2
    · exact absurd (Int.toNat_of_nonneg (show 0 ≤ k by omega)).symm (h k.toNat (by omega) (by omega))
    · exact h2
set_option maxRecDepth 100000 in
set_option maxHeartbeats 4000000 in
theorem rspec_1 (k : Int) (w : World) : Calls Tryd.prog 40 #[.int .i64 1, .int .i64 k] w (SpecPost (Past w.heap.size) (findS oldTab k) w) := by
  have HB := Aside0.mk (Below.refl w.heap.size w)
  have hu := Tryd.underlying66
  by_cases k1 : k = 1
  · subst k1
    have HE : Aside0 (findS oldTab 1 = some ⟨[], 0, 0, -1⟩) := ⟨rfl⟩
    go_enter Tryd.func40, Tryd.ntmps40
    go_wp2
    rw [HE.out]
    exact bodyPost_ret (v := .tuple #[.agg #[.slice none 0 0, .int .i64 0, .int .i64 0, .int .i64 (-1)], .bool true]) (by simp [results, Tryd.results40, go_sem]) rfl ⟨none, 0, rfl, ⟨Nat.le_refl _, C_nil _ _⟩, Past.none _, by repeat (first | with_reducible exact HB.out | with_reducible apply below_alloc | with_reducible apply pw_below_drewN | with_reducible apply below_drew1 | (with_reducible refine below_set ?_ (by first | omega | (simp; omega))))⟩
  by_cases k2 : k = 2
  · subst k2
    have HE : Aside0 (findS oldTab 2 = some ⟨[2, 2, 2, 2], 0, 1, 1⟩) := ⟨rfl⟩
    go_enter Tryd.func40, Tryd.ntmps40
    go_wp2
    rw [HE.out]
    exact bodyPost_ret (v := .tuple #[.agg #[.slice (some ⟨w.heap.size + 2, 0, none⟩) 4 4, .int .i64 0, .int .i64 1, .int .i64 (1)], .bool true]) (by simp [results, Tryd.results40, go_sem]) rfl ⟨(some ⟨w.heap.size + 2, 0, none⟩), 4, rfl, ⟨Nat.le_refl _, C_ints _ 3 _ (by simp) [2, 2, 2, 2] (by decide) rfl⟩, fun ad h => by cases h; simp, by repeat (first | with_reducible exact HB.out | with_reducible apply below_alloc | with_reducible apply pw_below_drewN | with_reducible apply below_drew1 | (with_reducible refine below_set ?_ (by first | omega | (simp; omega))))⟩
  by_cases k3 : k = 3
  · subst k3
    have HE : Aside0 (findS oldTab 3 = some ⟨[3], 1, 0, 0⟩) := ⟨rfl⟩
    go_enter Tryd.func40, Tryd.ntmps40
    go_wp2
    rw [HE.out]
    exact bodyPost_ret (v := .tuple #[.agg #[.slice (some ⟨w.heap.size + 2, 0, none⟩) 1 1, .int .i64 1, .int .i64 0, .int .i64 (0)], .bool true]) (by simp [results, Tryd.results40, go_sem]) rfl ⟨(some ⟨w.heap.size + 2, 0, none⟩), 1, rfl, ⟨Nat.le_refl _, C_ints _ 3 _ (by simp) [3] (by decide) rfl⟩, fun ad h => by cases h; simp, by repeat (first | with_reducible exact HB.out | with_reducible apply below_alloc | with_reducible apply pw_below_drewN | with_reducible apply below_drew1 | (with_reducible refine below_set ?_ (by first | omega | (simp; omega))))⟩
  by_cases k4 : k = 4
  · subst k4
    have HE : Aside0 (findS oldTab 4 = some ⟨[3], 1, 0, 0⟩) := ⟨rfl⟩
    go_enter Tryd.func40, Tryd.ntmps40
    go_wp2
    rw [HE.out]
    exact bodyPost_ret (v := .tuple #[.agg #[.slice (some ⟨w.heap.size + 2, 0, none⟩) 1 1, .int .i64 1, .int .i64 0, .int .i64 (0)], .bool true]) (by simp [results, Tryd.results40, go_sem]) rfl ⟨(some ⟨w.heap.size + 2, 0, none⟩), 1, rfl, ⟨Nat.le_refl _, C_ints _ 3 _ (by simp) [3] (by decide) rfl⟩, fun ad h => by cases h; simp, by repeat (first | with_reducible exact HB.out | with_reducible apply below_alloc | with_reducible apply pw_below_drewN | with_reducible apply below_drew1 | (with_reducible refine below_set ?_ (by first | omega | (simp; omega))))⟩
  by_cases k5 : k = 5
  · subst k5
    have HE : Aside0 (findS oldTab 5 = some ⟨[], 1, 0, 0⟩) := ⟨rfl⟩
    go_enter Tryd.func40, Tryd.ntmps40
    go_wp2
    rw [HE.out]
    exact bodyPost_ret (v := .tuple #[.agg #[.slice none 0 0, .int .i64 1, .int .i64 0, .int .i64 (0)], .bool true]) (by simp [results, Tryd.results40, go_sem]) rfl ⟨none, 0, rfl, ⟨Nat.le_refl _, C_nil _ _⟩, Past.none _, by repeat (first | with_reducible exact HB.out | with_reducible apply below_alloc | with_reducible apply pw_below_drewN | with_reducible apply below_drew1 | (with_reducible refine below_set ?_ (by first | omega | (simp; omega))))⟩
  by_cases k6 : k = 6
  · subst k6
    have HE : Aside0 (findS oldTab 6 = some ⟨[4], 0, 0, 0⟩) := ⟨rfl⟩
    go_enter Tryd.func40, Tryd.ntmps40
    go_wp2
    rw [HE.out]
    exact bodyPost_ret (v := .tuple #[.agg #[.slice (some ⟨w.heap.size + 2, 0, none⟩) 1 1, .int .i64 0, .int .i64 0, .int .i64 (0)], .bool true]) (by simp [results, Tryd.results40, go_sem]) rfl ⟨(some ⟨w.heap.size + 2, 0, none⟩), 1, rfl, ⟨Nat.le_refl _, C_ints _ 3 _ (by simp) [4] (by decide) rfl⟩, fun ad h => by cases h; simp, by repeat (first | with_reducible exact HB.out | with_reducible apply below_alloc | with_reducible apply pw_below_drewN | with_reducible apply below_drew1 | (with_reducible refine below_set ?_ (by first | omega | (simp; omega))))⟩
  have HE : Aside0 (findS oldTab k = none) := ⟨findS_no _ _ (fun i h1 h2 => by simp [oldTab] at h2; omega)⟩
  go_enter Tryd.func40, Tryd.ntmps40
  go_wp2
  rw [HE.out]
  exact bodyPost_ret (v := .tuple #[.agg #[.slice none 0 0, .int .i64 0, .int .i64 0, .int .i64 0], .bool false]) (by simp [results, Tryd.results40, go_sem]) rfl ⟨none, 0, rfl, ⟨Nat.le_refl _, C_nil _ _⟩, Past.none _, by repeat (first | with_reducible exact HB.out | with_reducible apply below_alloc | with_reducible apply pw_below_drewN | with_reducible apply below_drew1 | (with_reducible refine below_set ?_ (by first | omega | (simp; omega))))⟩
end Go.Proofs.YtglfebpgdghlfaaDoor.L
end
section
namespace Go.Proofs.YtglfebpgdghlfaaDoor.L
open Go.RowKit Go.ChangeShapes Go.WideShapes Go.Proofs.YtglfebpgdghlfaaDoorW.PrintWords Go.Proofs.YtglfebpgdghlfaaDoorW.PrintLast Go.Proofs.YtglfebpgdghlfaaDoorW.PrintMore
attribute [local go_sem] max2_int min2_int max_two min_two max_three min_three max_four min_four
theorem RowsPost.drew {l : List Node} {w W : World} {e : Ending} (h : RowsPost l w e W) : RowsPost l w e W.drew := by
  obtain ⟨g, c, he, hS, hB⟩ := h
  exact ⟨g, c, he, Kd.S_drew hS, below_drew hB⟩
end Go.Proofs.YtglfebpgdghlfaaDoor.L
end
section
namespace Go.Proofs.YtglfebpgdghlfaaDoor.L
open Go.RowKit Go.ChangeShapes Go.WideShapes Go.Proofs.YtglfebpgdghlfaaDoorW.PrintWords Go.Proofs.YtglfebpgdghlfaaDoorW.PrintLast Go.Proofs.YtglfebpgdghlfaaDoorW.PrintMore
attribute [local go_sem] max2_int min2_int max_two min_two max_three min_three max_four min_four
open Go.Proofs.YtglfebpgdghlfaaDoor.PUpgradeUps
theorem CnRel.kid {w1 : World} {root : Int} {xs : List Node} {g m c : Nat} {W : World} (h : CnRel w1 root xs (.slice (some ⟨g, 0, none⟩) m c) W) (i : Nat) (hi : i < m) {v : Value} {q : List Int} (hv : (Kd.int .i64).R 3 W w1.heap.size (fun _ => True) v q) :
    (∃ x, W.cell? ⟨g, i * 4 + 3, none⟩ = some x) ∧ W.frozen? ⟨g, i * 4 + 3, none⟩ = false ∧ CnRel w1 root (xs.set i (withKids (nd xs i) q)) (.slice (some ⟨g, 0, none⟩) m c) (W.setCell ⟨g, i * 4 + 3, none⟩ v) := by
  obtain ⟨cs, hcl, hM, hcc, hfr⟩ := R_elemN h.row nodez i hi
  obtain ⟨v1, v2, v3, rfl, h1, h2, h3⟩ := kNode_openM hM
  have hM' : kNode.M W w1.heap.size (fun k => True ∧ k ≠ g) (withKids (nd xs i) q) [.int .i64 (nd xs i).kind, v1, v2, v] :=
    kNode_mkM h1 h2 (Kd.R_mono (Kd.R_tight rfl hv) (fun k hk => ⟨trivial, fun e => R_apart hv h.row (by decide) k hk (by rw [e]; rfl)⟩))
  obtain ⟨hs, hg⟩ := R_segN h.row i hi (seg := [v]) (j := 3) hcl hcc (Nat.le_refl 4) (x' := withKids (nd xs i) q) (okp := fun k => True ∧ k ≠ g) hM' (fun k hk => hk)
  have e : W.setCells g (i * kNode.sz + 3) [v] = W.setCell ⟨g, i * 4 + 3, none⟩ v := rfl
  rw [e] at hs hg
  have hgw := Kd.R_base h.row g rfl
  refine ⟨⟨_, hcc 3 _ rfl⟩, hfr 3, below_set h.below hgw, blk_grown h.out hg (fun e => ?_), hs⟩
  exact (Kd.R_ne h.row h.out (by decide)) e
theorem S_elem {w : World} {base m c : Nat} {A : Option Addr} {xs : List Node} (h : Kd.S kNode 26 w base (fun _ => True) (.slice A m c) xs) (j : Nat) (hj : j < xs.length) :
    ∃ g A1 c1 A2 c2 A3 c3, A = some ⟨g, 0, none⟩ ∧ m = xs.length ∧ w.cell? ⟨g, j * 4, none⟩ = some (.int .i64 (nd xs j).kind) ∧ w.cell? ⟨g, j * 4 + 1, none⟩ = some (.slice A1 (nd xs j).ints.length c1) ∧ w.cell? ⟨g, j * 4 + 2, none⟩ = some (.slice A2 (nd xs j).texts.length c2) ∧ w.cell? ⟨g, j * 4 + 3, none⟩ = some (.slice A3 (nd xs j).kids.length c3) ∧
      (Kd.int .i64).R 2 w base (fun _ => True) (.slice A1 (nd xs j).ints.length c1) (nd xs j).ints ∧ Kd.string.R 9 w base (fun _ => True) (.slice A2 (nd xs j).texts.length c2) (nd xs j).texts ∧ (Kd.int .i64).R 3 w base (fun _ => True) (.slice A3 (nd xs j).kids.length c3) (nd xs j).kids := by
  have hR := Kd.S_R h
  have hm := (Kd.R_reads' hR).1
  obtain ⟨g, c', hv, -⟩ := Kd.R_form hR (by omega)
  injection hv with hA _ hc
  subst hA hc
  obtain ⟨cs, hcl, hM, hcc, hfr⟩ := R_elemN hR nodez j (by omega)
  obtain ⟨v1, v2, v3, rfl, h1, h2, h3⟩ := kNode_openM hM
  obtain ⟨A1, c1, rfl⟩ := Kd.R_slice h1
  obtain ⟨A2, c2, rfl⟩ := Kd.R_slice h2
  obtain ⟨A3, c3, rfl⟩ := Kd.R_slice h3
  exact ⟨g, A1, c1, A2, c2, A3, c3, rfl, hm, hcc 0 _ rfl, hcc 1 _ rfl, hcc 2 _ rfl, hcc 3 _ rfl, Kd.R_mono h1 (fun _ _ => trivial), Kd.R_mono h2 (fun _ _ => trivial), Kd.R_mono h3 (fun _ _ => trivial)⟩
theorem upN_len (n : Node) : (upN n).length = upLen n := by rw [upN_eq]; exact upK_len n 0 n.kids
end Go.Proofs.YtglfebpgdghlfaaDoor.L
end
section
namespace Go.Proofs.YtglfebpgdghlfaaDoor.L
open Go.RowKit Go.ChangeShapes Go.WideShapes Go.Proofs.YtglfebpgdghlfaaDoorW.PrintWords Go.Proofs.YtglfebpgdghlfaaDoorW.PrintLast Go.Proofs.YtglfebpgdghlfaaDoorW.PrintMore
attribute [local go_sem] max2_int min2_int max_two min_two max_three min_three max_four min_four
open Go.Proofs.YtglfebpgdghlfaaDoor.PUpgradeUps
def refRes (s : Scene) : Scene := ⟨canonL (r18S s), ((ord (r18S s)).length : Int) - 1⟩
end Go.Proofs.YtglfebpgdghlfaaDoor.L
end
section
namespace Go.Proofs.YtglfebpgdghlfaaDoor.L
open Go.RowKit Go.ChangeShapes Go.WideShapes Go.Proofs.YtglfebpgdghlfaaDoorW.PrintWords Go.Proofs.YtglfebpgdghlfaaDoorW.PrintLast Go.Proofs.YtglfebpgdghlfaaDoorW.PrintMore
attribute [local go_sem] max2_int min2_int max_two min_two max_three min_three max_four min_four
def aS : Scene := ⟨[⟨2, [1, 2, 3, 4], [], [1]⟩, ⟨6, [9], [], []⟩], 0⟩
def aT : Scene := ⟨[⟨7, [9, 9, 9, 1], [], []⟩, ⟨8, [4, 4, 4], [], [0]⟩, ⟨2, [1, 2, 3], [], [1]⟩], 2⟩
theorem aS_up : upS aS = ⟨[⟨2, [1, 2, 3], [], [1]⟩, ⟨8, [4, 4, 4], [], [2]⟩, ⟨7, [9, 9, 9, 1], [], []⟩], 0⟩ := by kernel_rfl
theorem aS_can : canonL (upS aS) = aT.nodes := by rw [aS_up]; kernel_rfl
theorem C_nums (T : TypeId) (W : World) (g : Nat) (hg : W.heap.size = g) (ps : List Int) (n : Nat) (hn : ps.length = n) (hm : ps.length ≤ 9223372036854775807) {cs : Array Value} (hcs : cs = (ps.flatMap fun x => [.int .i64 x]).toArray) : (Kd.int .i64).C (W.alloc (.cells cs T)) (some ⟨g, 0, none⟩) n ps := by
  subst hn
  exact (Kd.R_reads' (R_nums T W 0 g hg ps (by omega) hm hcs)).2.2
theorem K_node {W : World} (n : Node) {A1 A2 A3 : Option Addr} {l1 l2 l3 c1 c2 c3 : Nat} (e1 : l1 = n.ints.length) (e2 : l2 = n.texts.length) (e3 : l3 = n.kids.length) (h1 : n.ints.length ≤ c1) (h2 : n.texts.length ≤ c2) (h3 : n.kids.length ≤ c3)
    (hi : (Kd.int .i64).C W A1 n.ints.length n.ints) (ht : Kd.string.C W A2 n.texts.length n.texts) (hk : (Kd.int .i64).C W A3 n.kids.length n.kids) : kNode.K W n [.int .i64 n.kind, .slice A1 l1 c1, .slice A2 l2 c2, .slice A3 l3 c3] := by
  subst e1 e2 e3
  exact kNode_mk ⟨h1, h2, h3, hi, ht, hk⟩
def aW (w : World) : World := (((w.alloc (.cells #[.int .i64 1, .int .i64 2, .int .i64 3, .int .i64 4] 2)).alloc (.cells #[.int .i64 1] 3)).alloc (.cells #[.int .i64 9] 2))
theorem aS_C (w : World) : kNode.C ((aW w).alloc (.cells #[.int .i64 2, .slice (some ⟨w.heap.size, 0, none⟩) 4 4, .slice none 0 0, .slice (some ⟨w.heap.size + 1, 0, none⟩) 1 1, .int .i64 6, .slice (some ⟨w.heap.size + 1 + 1, 0, none⟩) 1 1, .slice none 0 0, .slice none 0 0] 26)) (some ⟨w.heap.size + 1 + 1 + 1, 0, none⟩) 2 aS.nodes := by
  refine C_lits kNode (aW w) 26 _ (by simp [aW]) aS.nodes [.int .i64 2, .slice (some ⟨w.heap.size, 0, none⟩) 4 4, .slice none 0 0, .slice (some ⟨w.heap.size + 1, 0, none⟩) 1 1, .int .i64 6, .slice (some ⟨w.heap.size + 1 + 1, 0, none⟩) 1 1, .slice none 0 0, .slice none 0 0] ?_ (by decide) rfl
  refine ⟨_, _, (show _ = [_, _, _, _] ++ [_, _, _, _] from rfl), K_node ⟨2, [1, 2, 3, 4], [], [1]⟩ rfl rfl rfl (by decide) (by decide) (by decide) ?_ (C_nil _ _) ?_, _, _, (show _ = [_, _, _, _] ++ [] from rfl), K_node ⟨6, [9], [], []⟩ rfl rfl rfl (by decide) (by decide) (by decide) ?_ (C_nil _ _) (C_nil _ _), rfl⟩
  · exact Kd.C_alloc (Kd.C_alloc (C_nums _ w _ rfl [1, 2, 3, 4] _ rfl (by decide) rfl) _) _
  · exact Kd.C_alloc (C_nums _ _ _ (by simp) [1] _ rfl (by decide) rfl) _
  · exact C_nums _ _ _ (by simp) [9] _ rfl (by decide) rfl
def bW (w : World) : World := (((((w.alloc (.cells #[.int .i64 9, .int .i64 9, .int .i64 9, .int .i64 1] 2)).alloc (.cells #[.int .i64 4, .int .i64 4, .int .i64 4] 2)).alloc (.cells #[.int .i64 0] 3)).alloc (.cells #[.int .i64 1, .int .i64 2, .int .i64 3] 2)).alloc (.cells #[.int .i64 1] 3))
theorem aT_C (w : World) (g : Nat) (hg : w.heap.size = g) : kNode.C ((bW w).alloc (.cells #[.int .i64 7, .slice (some ⟨g, 0, none⟩) 4 4, .slice none 0 0, .slice none 0 0, .int .i64 8, .slice (some ⟨g + 1, 0, none⟩) 3 3, .slice none 0 0, .slice (some ⟨g + 1 + 1, 0, none⟩) 1 1, .int .i64 2, .slice (some ⟨g + 1 + 1 + 1, 0, none⟩) 3 3, .slice none 0 0, .slice (some ⟨g + 1 + 1 + 1 + 1, 0, none⟩) 1 1] 26)) (some ⟨g + 1 + 1 + 1 + 1 + 1, 0, none⟩) 3 aT.nodes := by
  subst hg
  refine C_lits kNode (bW w) 26 _ (by simp [bW]) aT.nodes [.int .i64 7, .slice (some ⟨w.heap.size, 0, none⟩) 4 4, .slice none 0 0, .slice none 0 0, .int .i64 8, .slice (some ⟨w.heap.size + 1, 0, none⟩) 3 3, .slice none 0 0, .slice (some ⟨w.heap.size + 1 + 1, 0, none⟩) 1 1, .int .i64 2, .slice (some ⟨w.heap.size + 1 + 1 + 1, 0, none⟩) 3 3, .slice none 0 0, .slice (some ⟨w.heap.size + 1 + 1 + 1 + 1, 0, none⟩) 1 1] ?_ (by decide) rfl
  refine ⟨_, _, (show _ = [_, _, _, _] ++ [_, _, _, _, _, _, _, _] from rfl), K_node ⟨7, [9, 9, 9, 1], [], []⟩ rfl rfl rfl (by decide) (by decide) (by decide) ?_ (C_nil _ _) (C_nil _ _), _, _, (show _ = [_, _, _, _] ++ [_, _, _, _] from rfl), K_node ⟨8, [4, 4, 4], [], [0]⟩ rfl rfl rfl (by decide) (by decide) (by decide) ?_ (C_nil _ _) ?_,
    _, _, (show _ = [_, _, _, _] ++ [] from rfl), K_node ⟨2, [1, 2, 3], [], [1]⟩ rfl rfl rfl (by decide) (by decide) (by decide) ?_ (C_nil _ _) ?_, rfl⟩
  · exact Kd.C_alloc (Kd.C_alloc (Kd.C_alloc (Kd.C_alloc (C_nums _ w _ rfl [9, 9, 9, 1] _ rfl (by decide) rfl) _) _) _) _
  · exact Kd.C_alloc (Kd.C_alloc (Kd.C_alloc (C_nums _ _ _ (by simp) [4, 4, 4] _ rfl (by decide) rfl) _) _) _
  · exact Kd.C_alloc (Kd.C_alloc (C_nums _ _ _ (by simp) [0] _ rfl (by decide) rfl) _) _
  · exact Kd.C_alloc (C_nums _ _ _ (by simp) [1, 2, 3] _ rfl (by decide) rfl) _
  · exact C_nums _ _ _ (by simp) [1] _ rfl (by decide) rfl
theorem rise_rch {ns : List Node} (h : ∀ p : Nat, p < ns.length → ∀ k ∈ kids ns p, (p : Int) < k ∧ k < ns.length) {a : Nat} {l : List Int} (hl : ∀ k ∈ l, (a : Int) < k ∧ k < ns.length) {x : Int} (hr : Rch ns l x) : (a : Int) < x ∧ x < ns.length := by
  induction hr with
  | base hk => exact hl _ hk
  | step _ hk ih =>
    rename_i i k _
    obtain ⟨q, rfl⟩ : ∃ q : Nat, i = (q : Int) := ⟨i.toNat, by omega⟩
    have := h q (by omega) k hk
    omega
theorem rise_cyc {ns : List Node} (h : ∀ p : Nat, p < ns.length → ∀ k ∈ kids ns p, (p : Int) < k ∧ k < ns.length) (p : Nat) (hp : p < ns.length) : ¬ Cyc ns p := fun hc => by
  have := rise_rch h (h p hp) hc
  omega
theorem aS_right : Right aS := by
  have hk : ∀ p : Nat, p < aS.nodes.length → ∀ k ∈ kids aS.nodes p, (p : Int) < k ∧ k < aS.nodes.length := by decide
  refine ⟨by decide, by decide, fun p hp k hk' => ?_, rise_cyc hk, fun p hp => ?_⟩
  · have := hk p hp k hk'; omega
  · have h0 : Rch aS.nodes [aS.root] ((0 : Nat) : Int) := .base (by decide)
    match p, hp with
    | 0, _ => exact h0
    | 1, _ => exact .step h0 (by decide)
    | p + 2, h => exact absurd h (by show ¬ p + 2 < 2; omega)
theorem aU_right : Right (upS aS) := by
  rw [aS_up]
  have hk : ∀ p : Nat, p < 3 → ∀ k ∈ kids [⟨2, [1, 2, 3], [], [1]⟩, ⟨8, [4, 4, 4], [], [2]⟩, ⟨7, [9, 9, 9, 1], [], []⟩] p, (p : Int) < k ∧ k < 3 := by decide
  refine ⟨by decide, by decide, fun p hp k hk' => ?_, rise_cyc hk, fun p hp => ?_⟩
  · have := hk p hp k hk'; show 0 ≤ k ∧ k < 3; omega
  · have h0 : Rch [⟨2, [1, 2, 3], [], [1]⟩, ⟨8, [4, 4, 4], [], [2]⟩, ⟨7, [9, 9, 9, 1], [], []⟩] [0] ((0 : Nat) : Int) := .base (by decide)
    have h1 : Rch [⟨2, [1, 2, 3], [], [1]⟩, ⟨8, [4, 4, 4], [], [2]⟩, ⟨7, [9, 9, 9, 1], [], []⟩] [0] ((1 : Nat) : Int) := .step h0 (by decide)
    match p, hp with
    | 0, _ => exact h0
    | 1, _ => exact h1
    | 2, _ => exact .step h1 (by decide)
    | p + 3, h => exact absurd h (by show ¬ p + 3 < 3; omega)
theorem aS_typed : (typedS oldTab aS.nodes).1 = 0 := by kernel_rfl
theorem aS_err : upErr aS = 0 := by
  unfold upErr
  rw [if_pos aS_typed, if_pos (gcheck_right.2 aS_right)]
  exact gcheck_right.2 aU_right
theorem aS_res : upRes aS = aT := by
  unfold upRes canonR
  rw [if_pos aS_typed, if_pos (gcheck_right.2 aS_right), if_pos (gcheck_right.2 aU_right), aS_can]
  rw [aS_up]
  rfl
theorem a7_up : upR ⟨7, [], [], []⟩ = ([], 9) := by kernel_rfl
theorem aS_small : ∀ i : Nat, i < aS.nodes.length → Small (nd aS.nodes i) := fun i hi => by
  match i, hi with
  | 0, _ => exact ⟨by decide, by decide, by decide⟩
  | 1, _ => exact ⟨by decide, by decide, by decide⟩
  | i + 2, h => exact absurd h (by show ¬ i + 2 < 2; omega)
theorem aT_small : ∀ i : Nat, i < aT.nodes.length → Small (nd aT.nodes i) := fun i hi => by
  match i, hi with
  | 0, _ => exact ⟨by decide, by decide, by decide⟩
  | 1, _ => exact ⟨by decide, by decide, by decide⟩
  | 2, _ => exact ⟨by decide, by decide, by decide⟩
  | i + 3, h => exact absurd h (by show ¬ i + 3 < 3; omega)
theorem aS_texts : ∀ i : Nat, i < aS.nodes.length → TextsSmall (nd aS.nodes i) := fun i hi => by
  match i, hi with
  | 0, _ => exact fun j hj => absurd hj (by show ¬ j < 0; omega)
  | 1, _ => exact fun j hj => absurd hj (by show ¬ j < 0; omega)
  | i + 2, h => exact absurd h (by show ¬ i + 2 < 2; omega)
theorem aS_rows : rows aS.nodes ≤ 130000 := by decide
set_option maxRecDepth 100000 in
set_option maxHeartbeats 4000000 in
theorem awake_any (w : World) (hT : Tabs w) : Calls Tryd.prog 11 #[] w fun e w' => e = .returned (.bool true) ∧ Below w.heap.size w w' := by
  have HT := Aside0.mk hT
  have HS1 := Aside0.mk (aS_C w)
  have HBa : Aside0 (Below w.heap.size w (aW w)) := ⟨below_alloc (below_alloc (below_alloc (Below.refl _ _) _) _) _⟩
  have hua := Tryd.underlying39
  have hun := Tryd.underlying26
  clear hT
  go_enter Tryd.func11, Tryd.ntmps11
  go_wp2_with fail
  refine (up_any (some ⟨w.heap.size + 1 + 1 + 1, 0, none⟩) 2 aS _ (Kd.C_alloc HS1.out _) (HT.out.below (below_alloc (below_alloc HBa.out _) _)) aS_small aS_texts aS_rows).mono ?_
  rintro e w1 ⟨A1, c1, rfl, hR1, hB1⟩
  rw [aS_res] at hR1 ⊢
  rw [aS_err]
  have HB1 := Aside0.mk (below_step (below_alloc (below_alloc HBa.out _) _) hB1)
  have HC1 := Aside0.mk (Kd.R_reads' hR1).2.2
  have HX1 := Aside0.mk (show (w1.alloc (.cells #[.slice A1 3 c1, .int .i64 2] 39)).heap[w1.heap.size]? = some (.cells #[.slice A1 3 c1, .int .i64 2] 39 (0, 0)) from by simpa using heap_alloc_new w1 _)
  clear hR1 hB1
  have HS2 := Aside0.mk (aT_C (w1.alloc (.cells #[.slice A1 3 c1, .int .i64 2] 39)) (w1.heap.size + 1) (by simp))
  have HBb : Aside0 (Below (w1.alloc (.cells #[.slice A1 3 c1, .int .i64 2] 39)).heap.size (w1.alloc (.cells #[.slice A1 3 c1, .int .i64 2] 39)) (bW (w1.alloc (.cells #[.slice A1 3 c1, .int .i64 2] 39)))) := ⟨below_alloc (below_alloc (below_alloc (below_alloc (below_alloc (Below.refl _ _) _) _) _) _) _⟩
  go_wp2_with fail
  refine (upnode_any ⟨7, [], [], []⟩ none 0 none 0 none 0 _ ⟨by decide, by decide, by decide, C_nil _ _, C_nil _ _, C_nil _ _⟩ ⟨by decide, by decide, by decide⟩ (fun j hj => absurd hj (by show ¬ j < 0; omega)) ?_).mono ?_
  · exact HT.out.below (below_alloc (below_alloc (below_step (below_step HB1.out (below_alloc (Below.refl _ _) _)) HBb.out) _) _)
  rintro e w2 ⟨A2, c2, rfl, hR2, hB2⟩
  rw [a7_up]
  have HB2 := Aside0.mk (below_step (below_alloc (below_alloc (below_step (below_step HB1.out (below_alloc (Below.refl _ _) (.cells #[.slice A1 3 c1, .int .i64 2] 39))) HBb.out) (.cells #[.int .i64 7, .slice (some ⟨w1.heap.size + 1, 0, none⟩) 4 4, .slice none 0 0, .slice none 0 0, .int .i64 8, .slice (some ⟨w1.heap.size + 1 + 1, 0, none⟩) 3 3, .slice none 0 0, .slice (some ⟨w1.heap.size + 1 + 1 + 1, 0, none⟩) 1 1, .int .i64 2, .slice (some ⟨w1.heap.size + 1 + 1 + 1 + 1, 0, none⟩) 3 3, .slice none 0 0, .slice (some ⟨w1.heap.size + 1 + 1 + 1 + 1 + 1, 0, none⟩) 1 1] 26)) (.cells #[.slice (some ⟨w1.heap.size + 1 + 1 + 1 + 1 + 1 + 1, 0, none⟩) 3 3, .int .i64 2] 39)) hB2)
  have HBt : Aside0 (Below (w1.alloc (.cells #[.slice A1 3 c1, .int .i64 2] 39)).heap.size (w1.alloc (.cells #[.slice A1 3 c1, .int .i64 2] 39)) w2) := ⟨below_step (below_alloc (below_alloc HBb.out _) _) hB2⟩
  have x0 := pw_cell_below HBt.out (blk_cell HX1.out 0)
  have x1 := pw_cell_below HBt.out (blk_cell HX1.out 1)
  have HY : Aside0 (((((bW (w1.alloc (.cells #[.slice A1 3 c1, .int .i64 2] 39))).alloc (.cells #[.int .i64 7, .slice (some ⟨w1.heap.size + 1, 0, none⟩) 4 4, .slice none 0 0, .slice none 0 0, .int .i64 8, .slice (some ⟨w1.heap.size + 1 + 1, 0, none⟩) 3 3, .slice none 0 0, .slice (some ⟨w1.heap.size + 1 + 1 + 1, 0, none⟩) 1 1, .int .i64 2, .slice (some ⟨w1.heap.size + 1 + 1 + 1 + 1, 0, none⟩) 3 3, .slice none 0 0, .slice (some ⟨w1.heap.size + 1 + 1 + 1 + 1 + 1, 0, none⟩) 1 1] 26)).alloc (.cells #[.slice (some ⟨w1.heap.size + 1 + 1 + 1 + 1 + 1 + 1, 0, none⟩) 3 3, .int .i64 2] 39))).heap[w1.heap.size + 1 + 1 + 1 + 1 + 1 + 1 + 1]? = some (.cells #[.slice (some ⟨w1.heap.size + 1 + 1 + 1 + 1 + 1 + 1, 0, none⟩) 3 3, .int .i64 2] 39 (0, 0))) := ⟨by
    have := heap_alloc_new ((bW (w1.alloc (.cells #[.slice A1 3 c1, .int .i64 2] 39))).alloc (.cells #[.int .i64 7, .slice (some ⟨w1.heap.size + 1, 0, none⟩) 4 4, .slice none 0 0, .slice none 0 0, .int .i64 8, .slice (some ⟨w1.heap.size + 1 + 1, 0, none⟩) 3 3, .slice none 0 0, .slice (some ⟨w1.heap.size + 1 + 1 + 1, 0, none⟩) 1 1, .int .i64 2, .slice (some ⟨w1.heap.size + 1 + 1 + 1 + 1, 0, none⟩) 3 3, .slice none 0 0, .slice (some ⟨w1.heap.size + 1 + 1 + 1 + 1 + 1, 0, none⟩) 1 1] 26)) (.cells #[.slice (some ⟨w1.heap.size + 1 + 1 + 1 + 1 + 1 + 1, 0, none⟩) 3 3, .int .i64 2] 39)
    simpa [bW] using this⟩
  have y0 := pw_cell_below hB2 (blk_cell HY.out 0)
  have y1 := pw_cell_below hB2 (blk_cell HY.out 1)
  have HCt := Aside0.mk (Kd.C_below (Kd.C_alloc HC1.out (.cells #[.slice A1 3 c1, .int .i64 2] 39)) HBt.out)
  have HCw := Aside0.mk (Kd.C_below (Kd.C_alloc HS2.out (.cells #[.slice (some ⟨w1.heap.size + 1 + 1 + 1 + 1 + 1 + 1, 0, none⟩) 3 3, .int .i64 2] 39)) hB2)
  clear hR2 hB2
  go_wp2_with fail
  refine (sameS_any A1 c1 aT (some ⟨w1.heap.size + 1 + 1 + 1 + 1 + 1 + 1, 0, none⟩) 3 aT w2 HCt.out HCw.out aT_small).mono ?_
  rintro e w3 ⟨rfl, hB3⟩
  rw [sameS_yes rfl]
  have HB3 := Aside0.mk (below_step HB2.out hB3)
  clear hB3 x0 x1 y0 y1
  go_wp2
  go_ret
  exact ⟨rfl, HB3.out⟩
end Go.Proofs.YtglfebpgdghlfaaDoor.L
end
section
namespace Go.Proofs.YtglfebpgdghlfaaDoor.L
open Go.RowKit Go.ChangeShapes Go.WideShapes Go.Proofs.YtglfebpgdghlfaaDoorW.PrintWords Go.Proofs.YtglfebpgdghlfaaDoorW.PrintLast Go.Proofs.YtglfebpgdghlfaaDoorW.PrintMore
attribute [local go_sem] max2_int min2_int max_two min_two max_three min_three max_four min_four
theorem great_small {n : Node} (h : greatN n = false) : Small n ∧ TextsSmall n := by
  have h' := of_decide_eq_false h
  have h1 : ¬ 100 < n.ints.length := fun e => h' (.inl e)
  have h2 : ¬ 100 < n.texts.length := fun e => h' (.inr (.inl e))
  have h3 : ¬ 300 < n.kids.length := fun e => h' (.inr (.inr (.inl e)))
  refine ⟨⟨by omega, by omega, by omega⟩, fun j hj => ?_⟩
  have h4 : ¬ 500 < (str n.texts j).size := fun e => h' (.inr (.inr (.inr ⟨j, hj, e⟩)))
  omega
theorem upN_small {n : Node} (h : Small n) : ∀ x ∈ upN n, Small x := by
  obtain ⟨h1, h2, h3⟩ := h
  intro x hx
  unfold upN at hx
  by_cases k1 : n.kind = 1
  · rw [if_pos k1] at hx
    obtain rfl := List.mem_singleton.1 hx
    exact ⟨by simp, by simp, h3⟩
  · rw [if_neg k1] at hx
    by_cases k2 : n.kind = 2
    · rw [if_pos k2] at hx
      rcases List.mem_cons.1 hx with rfl | hx
      · exact ⟨by simp; omega, by simp, by simp⟩
      · obtain rfl := List.mem_singleton.1 hx
        exact ⟨by simp, by simp, h3⟩
    · rw [if_neg k2] at hx
      by_cases k3 : n.kind = 3
      · rw [if_pos k3] at hx
        obtain rfl := List.mem_singleton.1 hx
        exact ⟨by simp, h2, h3⟩
      · rw [if_neg k3] at hx
        by_cases k4 : n.kind = 4
        · rw [if_pos k4] at hx
          obtain rfl := List.mem_singleton.1 hx
          exact ⟨h1, h2, h3⟩
        · rw [if_neg k4] at hx
          by_cases k5 : n.kind = 5
          · rw [if_pos k5] at hx
            obtain rfl := List.mem_singleton.1 hx
            exact ⟨by simp, by simp, h3⟩
          · rw [if_neg k5] at hx
            obtain rfl := List.mem_singleton.1 hx
            exact ⟨by simp, by simp, h3⟩
end Go.Proofs.YtglfebpgdghlfaaDoor.L
end
section
namespace Go.Proofs.YtglfebpgdghlfaaDoor.L
open Go.RowKit Go.ChangeShapes Go.WideShapes Go.Proofs.YtglfebpgdghlfaaDoorW.PrintWords Go.Proofs.YtglfebpgdghlfaaDoorW.PrintLast Go.Proofs.YtglfebpgdghlfaaDoorW.PrintMore
attribute [local go_sem] max2_int min2_int max_two min_two max_three min_three max_four min_four
set_option maxRecDepth 100000 in
set_option maxHeartbeats 4000000 in
theorem rtyped_1 (A : Option Addr) (c : Nat) (s : Scene) (w : World) (h : kNode.C w A s.nodes.length s.nodes) (hS : ∀ i : Nat, i < s.nodes.length → Small (nd s.nodes i)) (hTS : ∀ i : Nat, i < s.nodes.length → TextsSmall (nd s.nodes i)) :
    Calls Tryd.prog 21 #[.agg #[.slice A s.nodes.length c, .int .i64 s.root], .int .i64 1] w fun e w' => e = .returned (.tuple #[.int .i64 (typedS oldTab s.nodes).1, .int .i64 (typedS oldTab s.nodes).2]) ∧ Below w.heap.size w w' := by
  have HR := Aside0.mk h
  have HS := Aside0.mk hS
  have HTS := Aside0.mk hTS
  have b0 := h.2.1
  have HB := Aside0.mk (below_alloc (Below.refl w.heap.size w) (.cells #[.slice A s.nodes.length c, .int .i64 s.root] 39))
  have k0 := box_cell w _ rfl #[.slice A s.nodes.length c, .int .i64 s.root] 39 0 (.slice A s.nodes.length c) rfl
  have HK := Aside0.mk k0
  have hu := Tryd.underlying39
  have hun := Tryd.underlying26
  have hus := Tryd.underlying66
  clear h hS hTS
  go_enter Tryd.func21, Tryd.ntmps21
  go_wp2
  clear k0
  go_loopw [6] (fun v6 W => ∃ i : Nat, i ≤ s.nodes.length ∧ v6 = .int .i64 i ∧ Aside0 (∀ j : Nat, j < i → nodeT oldTab (nd s.nodes j) = 0) ∧ Aside0 (Below w.heap.size w W) ∧ Aside0 (W.cell? ⟨w.heap.size, 0, none⟩ = some (.slice A s.nodes.length c))) (fun v6 _ => s.nodes.length - (intOf v6).toNat)
  case atStart => exact ⟨0, by omega, rfl, ⟨fun j h => by omega⟩, HB, HK⟩
  case round =>
    clear HK HB
    obtain ⟨i, hi, rfl, HA, HW, HK⟩ := hrel
    have k0 := HK.out
    by_cases hlt : i < s.nodes.length
    · obtain ⟨adn, A1, c1, A2, c2, A3, c3, rfl, x0, x1, x2, x3, hN⟩ := at_node HR.out i hlt
      replace x0 := pw_cell_below HW.out x0
      replace x1 := pw_cell_below HW.out x1
      replace x2 := pw_cell_below HW.out x2
      replace x3 := pw_cell_below HW.out x3
      have HN := Aside0.mk hN
      clear hN
      go_wp2_with fail
      refine (rspec_1 (nd s.nodes i).kind _).mono ?_
      rintro e w6 ⟨A4, c4, rfl, hS6, -, hB6⟩
      have HB6 := Aside0.mk (below_step HW.out hB6)
      replace k0 := pw_cell_below hB6 k0
      replace x0 := pw_cell_below hB6 x0
      replace x1 := pw_cell_below hB6 x1
      replace x2 := pw_cell_below hB6 x2
      replace x3 := pw_cell_below hB6 x3
      cases hf : findS oldTab (nd s.nodes i).kind with
      | none =>
        have HE := Aside0.mk (typedS_bad (tab := oldTab) hlt HA.out (by unfold nodeT; rw [hf]; exact (by decide : ¬ (9 : Int) = 0)))
        have HE2 := Aside0.mk (show nodeT oldTab (nd s.nodes i) = 9 from by unfold nodeT; rw [hf])
        clear hf hS6 hB6 x0 x1 x2 x3
        go_wp2
        go_ret2
        exact ⟨ret_pair (by rw [HE.out, HE2.out]), below_step HB6.out (below_alloc (Below.refl _ _) _)⟩
      | some sp =>
        have HE2 := Aside0.mk (show nodeT oldTab (nd s.nodes i) = nodeErr (nd s.nodes i) sp from by unfold nodeT; rw [hf])
        rw [hf] at hS6
        have hbs := below_alloc (Below.refl w6.heap.size w6) (.cells #[.slice A4 sp.ints.length c4, .int .i64 sp.texts, .int .i64 sp.least, .int .i64 sp.most] 66)
        have q0 := box_cell w6 _ rfl #[.slice A4 sp.ints.length c4, .int .i64 sp.texts, .int .i64 sp.least, .int .i64 sp.most] 66 0 (.slice A4 sp.ints.length c4) rfl
        have q1 := box_cell w6 _ rfl #[.slice A4 sp.ints.length c4, .int .i64 sp.texts, .int .i64 sp.least, .int .i64 sp.most] 66 1 (.int .i64 sp.texts) rfl
        have q2 := box_cell w6 _ rfl #[.slice A4 sp.ints.length c4, .int .i64 sp.texts, .int .i64 sp.least, .int .i64 sp.most] 66 2 (.int .i64 sp.least) rfl
        have q3 := box_cell w6 _ rfl #[.slice A4 sp.ints.length c4, .int .i64 sp.texts, .int .i64 sp.least, .int .i64 sp.most] 66 3 (.int .i64 sp.most) rfl
        have HS6 := Aside0.mk (SpecC.below hS6 hbs)
        have HB7 := Aside0.mk (below_step HB6.out hbs)
        replace k0 := pw_cell_below hbs k0
        replace x0 := pw_cell_below hbs x0
        replace x1 := pw_cell_below hbs x1
        replace x2 := pw_cell_below hbs x2
        replace x3 := pw_cell_below hbs x3
        clear hf hS6 hB6 hbs
        go_wp2
        go_region_held3 (fun W => W.cell? ⟨w.heap.size, 0, none⟩ = some (.slice (some adn) s.nodes.length c) ∧ W.cell? (adn.add (i * 4)) = some (.int .i64 (nd s.nodes i).kind) ∧ W.cell? ⟨(adn.add (i * 4)).block, (adn.add (i * 4)).off + 1, none⟩ = some (.slice A1 (nd s.nodes i).ints.length c1) ∧ W.cell? ⟨(adn.add (i * 4)).block, (adn.add (i * 4)).off + 2, none⟩ = some (.slice A2 (nd s.nodes i).texts.length c2) ∧ W.cell? ⟨(adn.add (i * 4)).block, (adn.add (i * 4)).off + 3, none⟩ = some (.slice A3 (nd s.nodes i).kids.length c3) ∧
            W.cell? ⟨w6.heap.size, 0, none⟩ = some (.slice A4 sp.ints.length c4) ∧ W.cell? ⟨w6.heap.size, 1, none⟩ = some (.int .i64 sp.texts) ∧ W.cell? ⟨w6.heap.size, 2, none⟩ = some (.int .i64 sp.least) ∧ W.cell? ⟨w6.heap.size, 3, none⟩ = some (.int .i64 sp.most))
          (first
            | (go_split_ands
               (repeat' apply And.intro)
               all_goals first
                 | with_reducible assumption
                 | with_reducible exact pw_cell_below hB (by assumption)
                 | (simp [*]; done)))
          (first
            | (go_at_call 41; refine (rcheck_any (nd s.nodes i) A1 c1 A2 c2 A3 c3 sp A4 c4 _ (HN.out.below (below_drew HB7.out)) (SpecC.below HS6.out (below_drew (Below.refl _ _))) (HTS.out i hlt) (HS.out i hlt)).mono ?_; rintro e w8 ⟨rfl, hB8⟩; have hB := hB8))
        have HB8 := Aside0.mk (below_step (below_drew HB7.out) hB)
        have HK8 := Aside0.mk (pw_cell_below hB (show (w6.alloc _).drew.cell? _ = _ from k0))
        clear hB x0 x1 x2 x3 q0 q1 q2 q3 k0
        by_cases hz : nodeErr (nd s.nodes i) sp = 0
        · have HA2 := Aside0.mk (ext_lt HA.out (HE2.out.trans hz))
          rw [hz]
          clear hz
          go_wp2
          go_roundw
          case rel => exact ⟨i + 1, by omega, by go_num, HA2, HB8, HK8⟩
          case measure => simp [intOf]; omega
        · have HE := Aside0.mk (typedS_bad (tab := oldTab) hlt HA.out (by rw [HE2.out]; exact hz))
          have dz : (nodeErr (nd s.nodes i) sp != 0) = true := by simpa using hz
          clear hz
          go_wp2
          go_ret2
          exact ⟨ret_pair (by rw [HE.out, HE2.out]), HB8.out⟩
    · obtain rfl : i = s.nodes.length := by omega
      have HE := Aside0.mk (typedS_ok (tab := oldTab) HA.out)
      go_wp2
      go_ret2
      exact ⟨ret_pair HE.out, HW.out⟩
end Go.Proofs.YtglfebpgdghlfaaDoor.L
end
section
namespace Go.Proofs.YtglfebpgdghlfaaDoor.L
open Go.RowKit Go.ChangeShapes Go.WideShapes Go.Proofs.YtglfebpgdghlfaaDoorW.PrintWords Go.Proofs.YtglfebpgdghlfaaDoorW.PrintLast Go.Proofs.YtglfebpgdghlfaaDoorW.PrintMore
attribute [local go_sem] max2_int min2_int max_two min_two max_three min_three max_four min_four
open Go.Proofs.YtglfebpgdghlfaaDoor.PUpgradeUps
theorem nd_mem (l : List Node) (k : Nat) (hk : k < l.length) : nd l k ∈ l := by
  unfold nd
  rw [List.getD_eq_getElem?_getD, List.getElem?_eq_getElem hk]
  exact List.getElem_mem hk
theorem greatS_small {s : Scene} (h : greatS s = false) : s.nodes.length ≤ 60 ∧ (∀ i : Nat, i < s.nodes.length → Small (nd s.nodes i)) ∧ (∀ i : Nat, i < s.nodes.length → TextsSmall (nd s.nodes i)) ∧ (∀ i : Nat, i < s.nodes.length → (nd s.nodes i).kids.length ≤ 300) := by
  have h' := of_decide_eq_false h
  have h1 : ¬ 60 < s.nodes.length := fun e => h' (.inl e)
  have hg : ∀ i : Nat, i < s.nodes.length → greatN (nd s.nodes i) = false := fun i hi => Bool.eq_false_iff.2 (fun e => h' (.inr (.inr ⟨i, hi, e⟩)))
  refine ⟨by omega, fun i hi => (great_small (hg i hi)).1, fun i hi => (great_small (hg i hi)).2, fun i hi => ?_⟩
  have h2 := of_decide_eq_false (hg i hi)
  have h3 : ¬ 300 < (nd s.nodes i).kids.length := fun e => h2 (.inr (.inr (.inl e)))
  omega
theorem sum_le_of {f : Nat → Nat} {b : Nat} : ∀ l : List Nat, (∀ x ∈ l, f x ≤ b) → (l.map f).sum ≤ l.length * b
  | [], _ => by simp
  | x :: l, h => by
    have := sum_le_of (f := f) (b := b) l (fun y hy => h y (by simp [hy]))
    have := h x (by simp)
    rw [List.map_cons, List.sum_cons, List.length_cons, Nat.succ_mul]
    omega
theorem rows_le {ns : List Node} {b : Nat} (h : ∀ i : Nat, i < ns.length → (nd ns i).kids.length ≤ b) : rows ns ≤ ns.length * (b + 1) := by
  unfold rows
  have := sum_le_of (f := wt ns) (b := b + 1) (List.range ns.length) (fun x hx => by
    have := h x (List.mem_range.1 hx)
    unfold wt
    omega)
  rwa [List.length_range] at this
theorem r18_small {s : Scene} (hr : Right s) (hS : ∀ i : Nat, i < s.nodes.length → Small (nd s.nodes i)) : ∀ i : Nat, i < (r18S s).nodes.length → Small (nd (r18S s).nodes i) := by
  intro x hx
  have hx' : x < s.nodes.length + cnt s.nodes s.nodes.length := by have : (r18S s).nodes.length = s.nodes.length + cnt s.nodes s.nodes.length := r18_len _ _; omega
  obtain ⟨p, j, hp, hj, rfl⟩ := r_find s.nodes hx'
  show Small (nd (r18 s.nodes s.nodes.length) (rpos s.nodes p j))
  rw [nd_r18 s.nodes hp hj]
  have hu := upN_small (hS p hp)
  have hlen := upN_len (nd s.nodes p)
  have hpos := upLen_pos (nd s.nodes p)
  have hmem : ∀ k, k < (upN (nd s.nodes p)).length → nd (upN (nd s.nodes p)) k ∈ upN (nd s.nodes p) := fun k hk => nd_mem _ k hk
  have h0 : Small (hd0 s.nodes p) := hu _ (hmem 0 (by omega))
  by_cases hj0 : j = 0
  · rw [if_pos hj0]
    split
    · exact ⟨h0.1, h0.2.1, by show ([_] : List Int).length ≤ 1000000; simp⟩
    · exact h0
  · rw [if_neg hj0]
    exact hu _ (hmem 1 (by omega))
theorem up_is_ref {s : Scene} (hty : (typedS oldTab s.nodes).1 = 0) (hr : Right s) : upErr s = 0 ∧ upRes s = refRes s := by
  have hu := upS_right hr
  have hz := gcheck_right.2 hu
  obtain ⟨hc, hd, hp⟩ := r18_canon hr
  refine ⟨by unfold upErr; rw [if_pos hty, if_pos (gcheck_right.2 hr)]; exact hz, ?_⟩
  unfold upRes canonR refRes
  rw [if_pos hty, if_pos (gcheck_right.2 hr), if_pos hz, hc]
  have hl : (ord (r18S s)).length = (upS s).nodes.length := by
    have h1 : (canonL (upS s)).length = (ord (upS s)).length := by simp [canonL]
    have h2 : (canonL (r18S s)).length = (ord (r18S s)).length := by simp [canonL]
    rw [← h2, ← hc, h1, ord_len hu]
  rw [hl]
theorem typedS_all {ns : List Node} (h : (typedS oldTab ns).1 = 0) : ∀ i : Nat, i < ns.length → nodeT oldTab (nd ns i) = 0 := by
  intro i hi
  refine Classical.byContradiction fun hn => ?_
  -- the first that is bad
  have key : ∀ m, m ≤ ns.length → (∀ j : Nat, j < m → nodeT oldTab (nd ns j) = 0) ∨ ∃ k, k < m ∧ (∀ j : Nat, j < k → nodeT oldTab (nd ns j) = 0) ∧ ¬ nodeT oldTab (nd ns k) = 0 := fun m => by
    induction m with
    | zero => exact fun _ => .inl (fun j hj => by omega)
    | succ m ih =>
      intro hm
      rcases ih (by omega) with h1 | ⟨k, h1, h2, h3⟩
      · by_cases hb : nodeT oldTab (nd ns m) = 0
        · exact .inl (ext_lt (P := fun j : Nat => nodeT oldTab (nd ns j) = 0) h1 hb)
        · exact .inr ⟨m, by omega, h1, hb⟩
      · exact .inr ⟨k, by omega, h2, h3⟩
  rcases key ns.length (Nat.le_refl _) with h1 | ⟨k, h1, h2, h3⟩
  · exact hn (h1 i hi)
  · have := typedS_bad (tab := oldTab) h1 h2 h3
    rw [this] at h
    exact h3 h
theorem refRes_small {s : Scene} (hr : Right s) (hS : ∀ i : Nat, i < s.nodes.length → Small (nd s.nodes i)) : ∀ i : Nat, i < (refRes s).nodes.length → Small (nd (refRes s).nodes i) := by
  intro i hi
  obtain ⟨_, hd, hp⟩ := r18_canon hr
  have hm : nd (refRes s).nodes i ∈ canonL (r18S s) := by
    unfold nd
    rw [List.getD_eq_getElem?_getD, List.getElem?_eq_getElem hi]
    exact List.getElem_mem hi
  generalize nd (refRes s).nodes i = x at hm
  obtain ⟨a, ha, rfl⟩ := List.mem_map.1 hm
  have hpl := (ord_met' hd hp).shut.pl a ha
  have h1 := r18_small hr hS a.toNat (by have := hpl.1; have := hpl.2; omega)
  exact ⟨h1.1, h1.2.1, by show ((nd (r18S s).nodes a.toNat).kids.map _).length ≤ 1000000; rw [List.length_map]; exact h1.2.2⟩
end Go.Proofs.YtglfebpgdghlfaaDoor.L
end
section
namespace Go.Proofs.YtglfebpgdghlfaaDoor.L
open Go.RowKit Go.ChangeShapes Go.WideShapes Go.Proofs.YtglfebpgdghlfaaDoorW.PrintWords Go.Proofs.YtglfebpgdghlfaaDoorW.PrintLast Go.Proofs.YtglfebpgdghlfaaDoorW.PrintMore
attribute [local go_sem] max2_int min2_int max_two min_two max_three min_three max_four min_four
def maxl (l : List Nat) : Nat := l.foldl max 0
theorem maxl_snoc (l : List Nat) (x : Nat) : maxl (l ++ [x]) = max (maxl l) x := by unfold maxl; rw [List.foldl_append]; rfl
theorem foldl_max_le {l : List Nat} {b x : Nat} (hb : b ≤ x) (h : ∀ y ∈ l, y ≤ x) : l.foldl max b ≤ x := by
  induction l generalizing b with
  | nil => exact hb
  | cons y l ih => exact ih (Nat.max_le.2 ⟨hb, h y (by simp)⟩) (fun z hz => h z (by simp [hz]))
theorem maxl_le {l : List Nat} {x : Nat} (h : ∀ y ∈ l, y ≤ x) : maxl l ≤ x := foldl_max_le (Nat.zero_le _) h
theorem foldl_max_ge {l : List Nat} {b : Nat} : b ≤ l.foldl max b ∧ ∀ y ∈ l, y ≤ l.foldl max b := by
  induction l generalizing b with
  | nil => exact ⟨Nat.le_refl _, fun y hy => by simp at hy⟩
  | cons z l ih =>
    obtain ⟨h1, h2⟩ := ih (b := max b z)
    refine ⟨Nat.le_trans (Nat.le_max_left _ _) h1, fun y hy => ?_⟩
    rcases List.mem_cons.1 hy with rfl | hy
    · exact Nat.le_trans (Nat.le_max_right _ _) h1
    · exact h2 y hy
theorem le_maxl {l : List Nat} {y : Nat} (h : y ∈ l) : y ≤ maxl l := foldl_max_ge.2 y h
def hgt (ns : List Node) : Nat → Int → Nat
  | 0, _ => 0
  | f + 1, a => maxl ((kids ns a).map (hgt ns f)) + 1
theorem hgt_fuel {ns : List Node} (h : Dag ns) : ∀ (f g : Nat) (a : Int), Pl ns a → reachN ns a < f → reachN ns a < g → hgt ns f a = hgt ns g a
  | 0, _, _, _, hf, _ => by omega
  | f + 1, 0, _, _, _, hg => by omega
  | f + 1, g + 1, a, ha, hf, hg => by
    unfold hgt
    congr 2
    exact List.map_congr_left (fun k hk => hgt_fuel h f g k (h.kid ha hk) (by have := h.lower ha hk; omega) (by have := h.lower ha hk; omega))
def H (ns : List Node) (a : Int) : Nat := hgt ns (ns.length + 1) a
theorem H_eq {ns : List Node} (h : Dag ns) {a : Int} (ha : Pl ns a) : H ns a = maxl ((kids ns a).map (H ns)) + 1 := by
  unfold H
  conv => lhs; unfold hgt
  congr 2
  refine List.map_congr_left (fun k hk => hgt_fuel h _ _ k (h.kid ha hk) ?_ ?_)
  · have := h.lower ha hk; have := reachN_le ns a; omega
  · have := reachN_le ns k; omega
theorem H_le {ns : List Node} (h : Dag ns) : ∀ (N : Nat) (a : Int), reachN ns a < N → Pl ns a → H ns a ≤ N
  | 0, _, hN, _ => by omega
  | N + 1, a, hN, ha => by
    rw [H_eq h ha]
    refine Nat.succ_le_succ (maxl_le (fun y hy => ?_))
    obtain ⟨k, hk, rfl⟩ := List.mem_map.1 hy
    exact H_le h N k (by have := h.lower ha hk; omega) (h.kid ha hk)
theorem H_bound {ns : List Node} (h : Dag ns) {a : Int} (ha : Pl ns a) : H ns a ≤ ns.length + 1 := H_le h _ a (Nat.lt_succ_of_le (reachN_le ns a)) ha
noncomputable def depthS (s : Scene) : Int := if (gcheck s).1 = 0 then (H s.nodes s.root : Int) else 0
structure DpInv (ns : List Node) (L : List Int) (i j : Nat) (deep : List Int) : Prop where
  len : deep.length = ns.length
  tell : ∀ p : Nat, p < ns.length → (p : Int) ∈ L.take i → rd deep (p : Int) = (H ns (p : Int) : Int)
  rest : ∀ p : Nat, p < ns.length → ¬ (p : Int) ∈ L.take i → rd deep (p : Int) = if rd L (i : Int) = (p : Int) ∧ i < L.length then (maxl (((kids ns (p : Int)).take j).map (H ns)) : Int) else 0
theorem rd_setN {l : List Int} {q p : Nat} {v : Int} (hq : q < l.length) : rd (l.set q v) (p : Int) = if p = q then v else rd l (p : Int) := by
  unfold rd
  rw [Int.toNat_natCast, List.getD_eq_getElem?_getD, List.getD_eq_getElem?_getD, List.getElem?_set]
  by_cases e : p = q
  · subst e; rw [if_pos rfl, if_pos rfl, if_pos hq]; rfl
  · rw [if_neg e, if_neg (fun h => e h.symm)]
theorem DpInv.start (ns : List Node) (L : List Int) : DpInv ns L 0 0 (List.replicate ns.length 0) := by
  have hz : ∀ p : Nat, rd (List.replicate ns.length 0) (p : Int) = 0 := fun p => by
    unfold rd
    rw [Int.toNat_natCast, List.getD_eq_getElem?_getD, List.getElem?_replicate]
    split <;> rfl
  refine ⟨by simp, fun p _ h => by simp at h, fun p _ _ => ?_⟩
  rw [hz]
  split
  · rw [List.take_zero]; rfl
  · rfl
theorem take_not {L : List Int} (hnd : L.Nodup) {i : Nat} (hi : i < L.length) : ¬ rd L (i : Int) ∈ L.take i := fun hm => by
  obtain ⟨m, hm', e⟩ := List.getElem_of_mem hm
  rw [List.length_take] at hm'
  rw [List.getElem_take, rd_eq hi] at e
  have := (List.getElem_inj hnd).1 e
  omega
theorem DpInv.kid {ns : List Node} {L : List Int} {i j q k : Nat} {deep : List Int} (hT : Topo ns L) (h : DpInv ns L i j deep) (hi : i < L.length) (hq : rd L (i : Int) = (q : Int)) (hqn : q < ns.length) (hj : j < (kids ns (q : Int)).length) (hk : rd (kids ns (q : Int)) (j : Int) = (k : Int)) (hkn : k < ns.length) :
    rd deep (q : Int) = (maxl (((kids ns (q : Int)).take j).map (H ns)) : Int) ∧ rd deep (k : Int) = (H ns (k : Int) : Int) ∧ DpInv ns L i (j + 1) (deep.set q ((max (maxl (((kids ns (q : Int)).take j).map (H ns))) (H ns (k : Int)) : Nat) : Int)) := by
  have hnq : ¬ (q : Int) ∈ L.take i := by rw [← hq]; exact take_not hT.nd hi
  have h1 := h.rest q hqn hnq
  rw [if_pos ⟨hq, hi⟩] at h1
  have hkm : (k : Int) ∈ L.take i := by
    refine hT.ahead i hi _ ?_
    rw [hq, ← hk]
    exact rd_mem hj
  refine ⟨h1, h.tell k hkn hkm, by rw [List.length_set]; exact h.len, fun p hp hm => ?_, fun p hp hm => ?_⟩
  · rw [rd_setN (by rw [h.len]; exact hqn), if_neg (fun e => hnq (by rw [← e]; exact hm))]
    exact h.tell p hp hm
  · rw [rd_setN (by rw [h.len]; exact hqn)]
    by_cases e : p = q
    · subst e
      rw [if_pos rfl, if_pos ⟨hq, hi⟩, take_succ_rd hj, List.map_append, hk]
      show _ = ((maxl (_ ++ [H ns (k : Int)]) : Nat) : Int)
      rw [maxl_snoc]
    · have h2 := h.rest p hp hm
      rw [if_neg (fun hh => e (by have := hh.1; rw [hq] at this; omega))] at h2
      rw [if_neg e, if_neg (fun hh => e (by have := hh.1; rw [hq] at this; omega))]
      exact h2
theorem DpInv.node {ns : List Node} {L : List Int} {i q : Nat} {deep : List Int} (hd : Dag ns) (hT : Topo ns L) (h : DpInv ns L i (kids ns (q : Int)).length deep) (hi : i < L.length) (hq : rd L (i : Int) = (q : Int)) (hqn : q < ns.length) :
    rd deep (q : Int) + 1 = (H ns (q : Int) : Int) ∧ DpInv ns L (i + 1) 0 (deep.set q (H ns (q : Int) : Int)) := by
  have hnq : ¬ (q : Int) ∈ L.take i := by rw [← hq]; exact take_not hT.nd hi
  have h1 := h.rest q hqn hnq
  rw [if_pos ⟨hq, hi⟩, List.take_length] at h1
  have hH := H_eq hd (a := (q : Int)) ⟨by omega, by omega⟩
  have htk : L.take (i + 1) = L.take i ++ [(q : Int)] := by rw [take_succ_rd hi, hq]
  refine ⟨by rw [h1, hH]; rfl, by rw [List.length_set]; exact h.len, fun p hp hm => ?_, fun p hp hm => ?_⟩
  · rw [rd_setN (by rw [h.len]; exact hqn)]
    by_cases e : p = q
    · subst e; rw [if_pos rfl]
    · rw [if_neg e]
      rw [htk] at hm
      rcases List.mem_append.1 hm with hm | hm
      · exact h.tell p hp hm
      · exact absurd (List.mem_singleton.1 hm) (fun e' => e (by omega))
  · rw [htk] at hm
    have e : ¬ p = q := fun e => hm (by rw [e]; simp)
    rw [rd_setN (by rw [h.len]; exact hqn), if_neg e, List.take_zero]
    have h2 := h.rest p hp (fun hh => hm (List.mem_append_left _ hh))
    rw [if_neg (fun hh => e (by have := hh.1; rw [hq] at this; omega))] at h2
    rw [h2]
    split <;> rfl
structure DpRel (s : Scene) (L : List Int) (w : World) (A : Option Addr) (c g cd : Nat) (Ao : Option Addr) (co i j : Nat) (deep : List Int) (W : World) : Prop where
  inv : DpInv s.nodes L i j deep
  row : (Kd.int .i64).R 3 W w.heap.size (fun _ => True) (.slice (some ⟨g, 0, none⟩) s.nodes.length cd) deep
  ord : (Kd.int .i64).R 3 W w.heap.size (fun k => k ≠ g) (.slice Ao L.length co) L
  box : W.heap[w.heap.size]? = some (.cells #[.slice A s.nodes.length c, .int .i64 s.root] 39 (0, 0))
  below : Below w.heap.size w W
theorem DpRel.drew {s : Scene} {L : List Int} {w : World} {A : Option Addr} {c g cd : Nat} {Ao : Option Addr} {co i j : Nat} {deep : List Int} {W : World} (h : DpRel s L w A c g cd Ao co i j deep W) : DpRel s L w A c g cd Ao co i j deep W.drew :=
  ⟨h.inv, Kd.R_drew h.row, Kd.R_drew h.ord, h.box, below_drew h.below⟩
theorem DpRel.put {s : Scene} {L : List Int} {w : World} {A : Option Addr} {c g cd : Nat} {Ao : Option Addr} {co i j i' j' q : Nat} {deep : List Int} {W : World} {v : Int} (h : DpRel s L w A c g cd Ao co i j deep W) (hq : q < s.nodes.length) (hi : DpInv s.nodes L i' j' (deep.set q v)) :
    DpRel s L w A c g cd Ao co i' j' (deep.set q v) (W.setCell ⟨g, q, none⟩ (.int .i64 v)) := by
  obtain ⟨s1, s2, s3⟩ := ints_store h.row q hq v
  exact ⟨hi, s1, Kd.R_far (p := ⟨g, q, none⟩) h.ord (fun k hk => hk) _, blk_grown h.box s2 (Kd.R_ne h.row h.box (by decide)), below_set h.below s3⟩
set_option maxRecDepth 100000 in
set_option maxHeartbeats 8000000 in
theorem depth_any (A : Option Addr) (c : Nat) (s : Scene) (w : World) (h : kNode.C w A s.nodes.length s.nodes) (hM : rows s.nodes ≤ 400000) :
    Calls Tryd.prog 52 #[.agg #[.slice A s.nodes.length c, .int .i64 s.root]] w fun e w' => e = .returned (.int .i64 (depthS s)) ∧ Below w.heap.size w w' := by
  have HR := Aside0.mk h
  have HM := Aside0.mk hM
  have b0 := h.2.1
  have HB := Aside0.mk (below_alloc (Below.refl w.heap.size w) (.cells #[.slice A s.nodes.length c, .int .i64 s.root] 39))
  have HX := Aside0.mk (show (w.alloc (.cells #[.slice A s.nodes.length c, .int .i64 s.root] 39)).heap[w.heap.size]? = some (.cells #[.slice A s.nodes.length c, .int .i64 s.root] 39 (0, 0)) from by simpa using heap_alloc_new w _)
  have k0 := box_cell w _ rfl #[.slice A s.nodes.length c, .int .i64 s.root] 39 0 (.slice A s.nodes.length c) rfl
  have k1 := box_cell w _ rfl #[.slice A s.nodes.length c, .int .i64 s.root] 39 1 (.int .i64 s.root) rfl
  have hu := Tryd.underlying39
  have hun := Tryd.underlying26
  clear h hM
  go_enter Tryd.func52, Tryd.ntmps52
  go_wp2_with fail
  refine (gcheck_any A c s _ (Kd.C_below HR.out HB.out) HM.out).mono ?_
  rintro e w1 ⟨rfl, hB1⟩
  have HB1 := Aside0.mk (below_step HB.out hB1)
  have HX1 := Aside0.mk ((hB1.block _ (blk_lt HX.out)).trans HX.out)
  replace k0 := pw_cell_below hB1 k0
  replace k1 := pw_cell_below hB1 k1
  clear hB1 HX
  by_cases hz : (gcheck s).1 = 0
  · have HRt := Aside0.mk (gcheck_right.1 hz)
    have HE : Aside0 (depthS s = (H s.nodes s.root : Int)) := ⟨by unfold depthS; rw [if_pos hz]⟩
    have hnM : s.nodes.length ≤ 400000 := Nat.le_trans (len_rows _) HM.out
    have hn0 : 0 < s.nodes.length := by have := HRt.out.r0; have := HRt.out.r1; omega
    rw [hz]
    clear hz
    go_wp2_with (first
      | (refine Kd.R_make (Kd.int .i64) (w0 := w) w.heap.size 3 rfl (N := 20) rfl 24 _ _ rfl (s.nodes.length : Int) rfl rfl Tryd.underlying24 (.int .i64 0) 8 info_int rfl (by decide) (by omega) 0 (ok := fun _ => True) (okp := fun _ => True) rfl (fun _ hk => hk) trivial (by omega) (by omega) HB1.out HB1.out.size ?_; intro v2 w2 ho2 hb2 hg2 hn2; rw [Int.toNat_natCast] at ho2; obtain ⟨go, co, hv2, -, hgo, -⟩ := Kd.R_form ho2 (by rw [List.length_replicate]; exact hn0); rw [List.length_replicate] at hv2; subst hv2; have HO := Aside0.mk ho2; have HB2 := Aside0.mk hb2; have HX2 := Aside0.mk (blk_grown HX1.out hg2 (by simp)); have q0 := cell_grown hg2 k0 (by simp); have q1 := cell_grown hg2 k1 (by simp); clear ho2 hb2 hg2 hn2))
    clear k0 k1
    refine (order_any A c s w2 (Kd.C_below HR.out HB2.out) HRt.out.pl hn0 (by have := HM.out; omega)).mono ?_
    rintro e w3 ⟨L, A3, c3, rfl, hT, hR3, hB3⟩
    have HT := Aside0.mk hT
    have HI := Aside0.mk (show DpRel s L w A c go co A3 c3 0 0 (List.replicate s.nodes.length 0) w3 from ⟨DpInv.start _ _, by
      have h := Kd.R_below HO.out hB3
      exact h, Kd.R_lower (Kd.R_mono (Kd.R_bound hR3) (ok' := fun k => k ≠ go) (fun k hk => by have h1 := Kd.R_lt HO.out go rfl; have h2 := hk.2.1; omega)) HB2.out.size, (hB3.block _ (blk_lt HX2.out)).trans HX2.out, below_step HB2.out hB3⟩)
    have hLl : L.length ≤ s.nodes.length := nodup_len hT.nd hT.pl
    clear q0 q1 hR3 hB3 HO hT
    go_wp2
    go_loopw [24] (fun v24 W => ∃ i : Nat, i ≤ L.length ∧ v24 = .int .i64 i ∧ ∃ deep, Aside0 (DpRel s L w A c go co A3 c3 i 0 deep W)) (fun v24 _ => L.length - (intOf v24).toNat)
    case atStart => exact ⟨0, by omega, rfl, _, HI⟩
    case round =>
      clear HI
      obtain ⟨i, hi, rfl, deep, HI⟩ := hrel
      by_cases hlt : i < L.length
      · have hpq := HT.out.pl _ (rd_mem hlt)
        obtain ⟨q, hq⟩ : ∃ q : Nat, rd L (i : Int) = (q : Int) := ⟨(rd L (i : Int)).toNat, by omega⟩
        have hqn : q < s.nodes.length := by omega
        have HQ := Aside0.mk hq
        obtain ⟨ad, rfl, hx⟩ := at_nat (Kd.R_reads' HI.out.ord).2.2 i hlt
        rw [hq] at hx
        obtain ⟨adn, A1, c1, A2, c2, A5, c5, rfl, x0, x1, x2, x3, hN⟩ := at_node HR.out q hqn
        replace x3 := pw_cell_below HI.out.below x3
        have HN := Aside0.mk hN
        have o0 : wr.cell? ⟨w.heap.size, 0, none⟩ = some (.slice (some adn) s.nodes.length c) := (blk_cell HI.out.box 0).trans rfl
        have HKl := Aside0.mk (show (nd s.nodes q).kids.length ≤ 400000 from by
          have h1 : wt s.nodes q = (nd s.nodes q).kids.length + 1 := rfl
          have h2 := left_cons (ns := s.nodes) (vs := []) (x := q) hqn (by simp)
          rw [left_nil] at h2
          have := HM.out
          omega)
        have hkl := HKl.out
        clear hq hpq hN x0 x1 x2
        go_wp2
        clear x3 o0 hx
        go_loopw [35] (fun v35 W => ∃ j : Nat, j ≤ (nd s.nodes q).kids.length ∧ v35 = .int .i64 j ∧ ∃ deep, Aside0 (DpRel s L w (some adn) c go co (some ad) c3 i j deep W)) (fun v35 _ => (nd s.nodes q).kids.length - (intOf v35).toNat)
        case atStart => exact ⟨0, by omega, rfl, deep, HI⟩
        case round =>
          clear HI
          obtain ⟨j, hj, rfl, deep, HJ⟩ := hrel
          by_cases hjl : j < (nd s.nodes q).kids.length
          · have hkm := HRt.out.pl q hqn _ (rd_mem hjl)
            obtain ⟨k, hk⟩ : ∃ k : Nat, rd (nd s.nodes q).kids (j : Int) = (k : Int) := ⟨(rd (nd s.nodes q).kids (j : Int)).toNat, by omega⟩
            have hkn : k < s.nodes.length := by omega
            obtain ⟨adk, rfl, z0⟩ := at_nat (HN.out.below HJ.out.below).k j hjl
            rw [hk] at z0
            have hkq : kids s.nodes (q : Int) = (nd s.nodes q).kids := kids_nat _ _
            obtain ⟨e1, e2, e3⟩ := HJ.out.inv.kid HT.out hlt HQ.out hqn (by rw [hkq]; exact hjl) (by rw [hkq]; exact hk) hkn
            obtain ⟨y1, y1f⟩ := ints_cell HJ.out.row q hqn
            obtain ⟨y2, y2f⟩ := ints_cell HJ.out.row k hkn
            rw [e1] at y1
            rw [e2] at y2
            have HP := Aside0.mk (HJ.out.put hqn e3)
            generalize maxl (((kids s.nodes (q : Int)).take j).map (H s.nodes)) = a1 at y1 HP
            generalize H s.nodes (k : Int) = a2 at y2 HP
            have HMx : Aside0 (((max a1 a2 : Nat) : Int) = if a1 < a2 then (a2 : Int) else (a1 : Int)) := ⟨by split <;> omega⟩
            rw [HMx.out] at HP
            clear hkm hk hkq e1 e2 e3
            go_wp2
            go_region
            all_goals
              have HS4 := Aside0.mk HP.out.drew
              clear y1 y1f y2 y2f z0
              go_wp2
              go_roundw
              case rel => exact ⟨j + 1, by omega, by go_num, _, HS4⟩
              case measure => simp [intOf]; omega
          · obtain rfl : j = (nd s.nodes q).kids.length := by omega
            have hkq : kids s.nodes (q : Int) = (nd s.nodes q).kids := kids_nat _ _
            have hinv := HJ.out.inv
            rw [← hkq] at hinv
            obtain ⟨e1, e3⟩ := hinv.node HRt.out.dag HT.out hlt HQ.out hqn
            obtain ⟨y1, y1f⟩ := ints_cell HJ.out.row q hqn
            have HP := Aside0.mk (HJ.out.put hqn e3)
            have hb := H_bound HRt.out.dag (a := (q : Int)) ⟨by omega, by omega⟩
            generalize H s.nodes (q : Int) = a2 at e1 HP hb
            generalize rd deep (q : Int) = a1 at e1 y1
            have hw : IntKind.i64.wrap (a1 + 1) = (a2 : Int) := by rw [e1]; exact wrap_i (by omega) (by omega)
            clear hinv hkq e1 e3
            go_wp2
            go_roundw
            case rel => exact ⟨i + 1, by omega, by go_num, _, HP⟩
            case measure => simp [intOf]; omega
      · obtain rfl : i = L.length := by omega
        have h0 := HRt.out.r0
        have h1 := HRt.out.r1
        obtain ⟨r, hr⟩ : ∃ r : Nat, s.root = (r : Int) := ⟨s.root.toNat, by omega⟩
        have hrn : r < s.nodes.length := by omega
        have hin : (r : Int) ∈ L.take L.length := by rw [List.take_length]; exact Topo.cyclic HRt.out.pl HT.out HRt.out.cyc r hrn
        have e1 := HI.out.inv.tell r hrn hin
        obtain ⟨y1, y1f⟩ := ints_cell HI.out.row r hrn
        have o1 : wr.cell? ⟨w.heap.size, 1, none⟩ = some (.int .i64 s.root) := (blk_cell HI.out.box 1).trans rfl
        rw [e1] at y1
        rw [hr] at o1 HE
        clear h0 h1 hr hin e1
        go_wp2
        go_ret
        exact ⟨ret_int HE.out.symm, HI.out.below⟩
  · have HE : Aside0 (depthS s = 0) := ⟨by unfold depthS; rw [if_neg hz]⟩
    have dz : ((gcheck s).1 != 0) = true := by simpa using hz
    clear hz
    go_wp2
    go_ret
    exact ⟨ret_int HE.out.symm, HB1.out⟩
end Go.Proofs.YtglfebpgdghlfaaDoor.L
end
section
namespace Go.Proofs.YtglfebpgdghlfaaDoor.L
open Go.RowKit Go.ChangeShapes Go.WideShapes Go.Proofs.YtglfebpgdghlfaaDoorW.PrintWords Go.Proofs.YtglfebpgdghlfaaDoorW.PrintLast Go.Proofs.YtglfebpgdghlfaaDoorW.PrintMore
attribute [local go_sem] max2_int min2_int max_two min_two max_three min_three max_four min_four
theorem maxl_mono {f g : Int → Nat} : ∀ l : List Int, (∀ k ∈ l, f k ≤ g k) → maxl (l.map f) ≤ maxl (l.map g) := fun l h => maxl_le (fun y hy => by
  obtain ⟨k, hk, rfl⟩ := List.mem_map.1 hy
  exact Nat.le_trans (h k hk) (le_maxl (List.mem_map_of_mem hk)))
theorem maxl_two {f g : Int → Nat} (l : List Int) (h : ∀ k ∈ l, g k ≤ 2 * f k) : maxl (l.map g) ≤ 2 * maxl (l.map f) := maxl_le (fun y hy => by
  obtain ⟨k, hk, rfl⟩ := List.mem_map.1 hy
  have := h k hk
  have := le_maxl (List.mem_map_of_mem (f := f) hk)
  omega)
theorem Iso.depth {ns ms : List Node} {f : Int → Int} (h : Iso ns ms f) (hd : Dag ns) (hm : Dag ms) : ∀ (N : Nat) (x : Int), reachN ms x < N → Pl ms x → L.H ns (f x) = L.H ms x
  | 0, _, hN, _ => by omega
  | N + 1, x, hN, hx => by
    rw [H_eq hd (h.pl x hx), H_eq hm hx, h.kids hx, List.map_map]
    congr 2
    exact List.map_congr_left (fun k hk => Iso.depth h hd hm N k (by have := hm.lower hx hk; omega) (hm.kid hx hk))
theorem up_depth {s : Scene} (hr : Right s) : ∀ (N p : Nat), reachN s.nodes (p : Int) < N → p < s.nodes.length →
    H s.nodes (p : Int) ≤ H (upS s).nodes ((pos s.nodes p + 0 : Nat) : Int) ∧ H (upS s).nodes ((pos s.nodes p + 0 : Nat) : Int) ≤ 2 * H s.nodes (p : Int)
  | 0, _, hN, _ => by omega
  | N + 1, p, hN, hp => by
    have hd := hr.dag
    have hu := (upS_right hr).dag
    have hU : (upS s).nodes = mix s.nodes s.nodes.length s.nodes.length := rfl
    have hpl : Pl s.nodes (p : Int) := ⟨by omega, by omega⟩
    have hplU : ∀ j, j < upLen (nd s.nodes p) → Pl (upS s).nodes ((pos s.nodes p + j : Nat) : Int) := fun j hj => ⟨by omega, by
      have h1 := up_pos_lt s.nodes hp hj
      have h2 : (upS s).nodes.length = pos s.nodes s.nodes.length := U_len _
      omega⟩
    have hk : ∀ k ∈ kids s.nodes (p : Int), H s.nodes k ≤ H (upS s).nodes (pos s.nodes k.toNat : Int) ∧ H (upS s).nodes (pos s.nodes k.toNat : Int) ≤ 2 * H s.nodes k := fun k hk => by
      have hkp := hd.kid hpl hk
      have hlo := hd.lower hpl hk
      obtain ⟨q, rfl⟩ : ∃ q : Nat, k = (q : Int) := ⟨k.toNat, by have := hkp.1; omega⟩
      have := up_depth hr N q (by omega) (by have := hkp.2; omega)
      rw [Int.toNat_natCast]
      exact this
    have hHs := H_eq hd hpl
    have hkn : kids s.nodes (p : Int) = (nd s.nodes p).kids := by unfold kids; rw [Int.toNat_natCast]
    have h1 := maxl_mono (f := H s.nodes) (g := fun k => H (upS s).nodes (pos s.nodes k.toNat : Int)) (kids s.nodes (p : Int)) (fun k hk' => (hk k hk').1)
    have h2 := maxl_two (f := H s.nodes) (g := fun k => H (upS s).nodes (pos s.nodes k.toNat : Int)) (kids s.nodes (p : Int)) (fun k hk' => (hk k hk').2)
    -- the node whose kids are the node's
    have hlast : ∀ j, j < upLen (nd s.nodes p) → ¬ (isTr (nd s.nodes p) = true ∧ j = 0) → H (upS s).nodes ((pos s.nodes p + j : Nat) : Int) = maxl ((kids s.nodes (p : Int)).map (fun k => H (upS s).nodes (pos s.nodes k.toNat : Int))) + 1 := fun j hj hn => by
      rw [H_eq hu (hplU j hj)]
      congr 2
      rw [hU, kidsU s.nodes hp hj, if_neg hn, hkn]
      unfold mapK
      rw [List.map_map]
      rfl
    by_cases ht : isTr (nd s.nodes p) = true
    · have hl := tr_len ht
      have e1 := hlast 1 (by omega) (fun h => by have := h.2; omega)
      have e0 : H (upS s).nodes ((pos s.nodes p + 0 : Nat) : Int) = H (upS s).nodes ((pos s.nodes p + 1 : Nat) : Int) + 1 := by
        rw [H_eq hu (hplU 0 (by omega)), hU, kidsU s.nodes hp (by omega), if_pos ⟨ht, rfl⟩]
        show max 0 _ + 1 = _
        rw [Nat.max_eq_right (Nat.zero_le _)]
      omega
    · have e1 := hlast 0 (upLen_pos _) (fun h => ht h.1)
      omega
theorem canon_iso {s : Scene} (h : Right s) : Iso (canonL s) s.nodes (fun x => (idx s x : Int)) := by
  have hlen : (canonL s).length = s.nodes.length := by
    have := ord_len h
    simp [canonL, this]
  refine ⟨hlen, fun x hx => ?_, fun x y hx hy he => ?_, fun x hx => ?_⟩
  · obtain ⟨q, rfl⟩ : ∃ q : Nat, x = (q : Int) := ⟨x.toNat, by have := hx.1; omega⟩
    have := (at_idx h (p := q) (by have := hx.2; omega)).1
    exact ⟨by omega, by omega⟩
  · obtain ⟨q, rfl⟩ : ∃ q : Nat, x = (q : Int) := ⟨x.toNat, by have := hx.1; omega⟩
    obtain ⟨r, rfl⟩ : ∃ r : Nat, y = (r : Int) := ⟨y.toNat, by have := hy.1; omega⟩
    have := idx_inj h (p := q) (q := r) (by have := hx.2; omega) (by have := hy.2; omega) (by
      have he' : (idx s (q : Int) : Int) = (idx s (r : Int) : Int) := he
      omega)
    rw [this]
  · obtain ⟨q, rfl⟩ : ∃ q : Nat, x = (q : Int) := ⟨x.toNat, by have := hx.1; omega⟩
    obtain ⟨h1, h2⟩ := at_idx h (p := q) (by have := hx.2; omega)
    show nd (canonL s) ((idx s (q : Int) : Int)).toNat = _
    rw [Int.toNat_natCast]
    have hl : idx s (q : Int) < (ord s).length := by rw [ord_len h]; exact h1
    unfold canonL
    unfold nd
    rw [List.getD_eq_getElem?_getD, List.getElem?_map, List.getElem?_eq_getElem hl]
    have h3 : (ord s)[idx s (q : Int)] = (q : Int) := (rd_eq hl).symm.trans h2
    rw [h3]
    rfl
theorem canon_root {s : Scene} (h : Right s) : (s.nodes.length : Int) - 1 = (idx s s.root : Int) := by
  have hpl : Pl s.nodes s.root := ⟨h.r0, h.r1⟩
  have ho : ord s = ML s.nodes (kids s.nodes s.root) [] ++ [s.root] := by
    show M s.nodes s.root [] = _
    exact M_out h.dag hpl (by simp)
  have hl := ord_len h
  have hnd := ord_nodup h
  rw [ho] at hl hnd
  rw [List.length_append, List.length_singleton] at hl
  have hni : ¬ s.root ∈ ML s.nodes (kids s.nodes s.root) [] := fun hm => by
    exact (List.nodup_append.1 hnd).2.2 s.root hm s.root (by simp) rfl
  unfold idx
  rw [ho, List.idxOf_append, if_neg hni]
  simp
  omega
theorem canon_right {s : Scene} (h : Right s) : Right ⟨canonL s, (s.nodes.length : Int) - 1⟩ := by
  have hi := canon_iso h
  have hlen : (canonL s).length = s.nodes.length := hi.len
  have hn : 0 < s.nodes.length := by have := h.r0; have := h.r1; omega
  have hsur : ∀ m : Nat, m < (canonL s).length → ∃ q : Nat, q < s.nodes.length ∧ (m : Int) = (idx s (q : Int) : Int) := fun m hm => by
    obtain ⟨q, hq, hqn⟩ := ord_at h (m := m) (by omega)
    refine ⟨q, hqn, ?_⟩
    have := idx_at h (m := m) (by omega)
    rw [hq] at this
    rw [this]
  refine ⟨by show 0 ≤ (s.nodes.length : Int) - 1; omega, by show (s.nodes.length : Int) - 1 < ((canonL s).length : Int); omega, fun m hm k hk => ?_, fun m hm hc => ?_, fun m hm => ?_⟩
  · obtain ⟨q, hq, e⟩ := hsur m hm
    have hkk : k ∈ kids (canonL s) (idx s (q : Int) : Int) := by rw [← e]; unfold kids; rw [Int.toNat_natCast]; exact hk
    rw [hi.kids ⟨by omega, by omega⟩] at hkk
    obtain ⟨x, hx, rfl⟩ := List.mem_map.1 hkk
    exact hi.pl x (kids_pl h.pl ⟨by omega, by omega⟩ x hx)
  · obtain ⟨q, hq, e⟩ := hsur m hm
    have hqp : Pl s.nodes (q : Int) := ⟨by omega, by omega⟩
    have back : ∀ (l : List Int), (∀ k ∈ l, Pl s.nodes k) → ∀ y, Rch (canonL s) (l.map (fun x => (idx s x : Int))) y → ∃ x, Pl s.nodes x ∧ y = (idx s x : Int) ∧ Rch s.nodes l x := fun l hl y hy => by
      induction hy with
      | base hk =>
        obtain ⟨x, hx, rfl⟩ := List.mem_map.1 hk
        exact ⟨x, hl x hx, rfl, .base hx⟩
      | step _ hk ih =>
        obtain ⟨x, hx, rfl, hrx⟩ := ih
        rw [hi.kids hx] at hk
        obtain ⟨z, hz, rfl⟩ := List.mem_map.1 hk
        exact ⟨z, kids_pl h.pl hx z hz, rfl, .step hrx hz⟩
    have hc' : Rch (canonL s) (kids (canonL s) (m : Int)) (m : Int) := hc
    rw [e, hi.kids hqp] at hc'
    obtain ⟨x, hx, ex, hrx⟩ := back _ (kids_pl h.pl hqp) _ hc'
    have := hi.inj _ _ hqp hx ex
    rw [← this] at hrx
    exact h.cyc q hq hrx
  · obtain ⟨q, hq, e⟩ := hsur m hm
    rw [e]
    have h1 := (hi.rch h.pl (l := [s.root]) (fun k hk => by rw [List.mem_singleton.1 hk]; exact ⟨h.r0, h.r1⟩) (h.all q hq)).1
    show Rch (canonL s) [(s.nodes.length : Int) - 1] _
    rw [canon_root h]
    exact h1
theorem upRes_depth {s : Scene} (hty : (typedS oldTab s.nodes).1 = 0) (hr : Right s) : Right (upRes s) ∧ depthS s ≤ depthS (upRes s) ∧ depthS (upRes s) ≤ 2 * depthS s := by
  have hu := upS_right hr
  have hres : upRes s = ⟨canonL (upS s), ((upS s).nodes.length : Int) - 1⟩ := by
    unfold upRes canonR
    rw [if_pos hty, if_pos (gcheck_right.2 hr), if_pos (gcheck_right.2 hu)]
  have hc := canon_right hu
  rw [← hres] at hc
  have h0 := hr.r0
  have h1 := hr.r1
  obtain ⟨r, hrr⟩ : ∃ r : Nat, s.root = (r : Int) := ⟨s.root.toNat, by omega⟩
  have hroot : (upS s).root = ((pos s.nodes r + 0 : Nat) : Int) := by
    show ((pos s.nodes s.root.toNat : Nat) : Int) = _
    rw [hrr]; rfl
  have hd := up_depth hr _ r (Nat.lt_succ_self _) (by omega)
  have hi := canon_iso hu
  have e : H (upRes s).nodes (upRes s).root = H (upS s).nodes (upS s).root := by
    rw [hres]
    show H (canonL (upS s)) (((upS s).nodes.length : Int) - 1) = _
    rw [canon_root hu]
    refine hi.depth ?_ hu.dag _ _ (Nat.lt_succ_self _) ⟨hu.r0, hu.r1⟩
    have := hc.dag
    rw [hres] at this
    exact this
  refine ⟨hc, ?_, ?_⟩
  · unfold depthS
    rw [if_pos (gcheck_right.2 hr), if_pos (gcheck_right.2 hc), e, hroot, hrr]
    omega
  · unfold depthS
    rw [if_pos (gcheck_right.2 hr), if_pos (gcheck_right.2 hc), e, hroot, hrr]
    omega
end Go.Proofs.YtglfebpgdghlfaaDoor.L
end
section
namespace Go.Proofs.YtglfebpgdghlfaaDoor.L
open Go.RowKit Go.ChangeShapes Go.WideShapes Go.Proofs.YtglfebpgdghlfaaDoorW.PrintWords Go.Proofs.YtglfebpgdghlfaaDoorW.PrintLast Go.Proofs.YtglfebpgdghlfaaDoorW.PrintMore
attribute [local go_sem] max2_int min2_int max_two min_two max_three min_three max_four min_four
open Classical in
noncomputable def mstep (st : List ByteArray × Nat) (t : ByteArray) : List ByteArray × Nat := if t ∈ st.1 then st else (t :: st.1, st.2 + t.size)
noncomputable def meas (l : List ByteArray) : List ByteArray × Nat := l.foldl mstep ([], 0)
theorem meas_snoc (l : List ByteArray) (t : ByteArray) : meas (l ++ [t]) = mstep (meas l) t := by unfold meas; rw [List.foldl_append]; rfl
def szs (l : List ByteArray) : Nat := (l.map ByteArray.size).sum
structure MsInv (l : List ByteArray) (st : List ByteArray × Nat) : Prop where
  nd : st.1.Nodup
  mem : ∀ x, x ∈ st.1 ↔ x ∈ l
  sum : st.2 = szs st.1
  len : st.1.length ≤ l.length
theorem meas_inv : ∀ l : List ByteArray, MsInv l (meas l) := by
  have key : ∀ (l pre : List ByteArray) (st : List ByteArray × Nat), MsInv pre st → MsInv (pre ++ l) (l.foldl mstep st) := by
    intro l
    induction l with
    | nil => intro pre st h; rw [List.append_nil]; exact h
    | cons t l ih =>
      intro pre st h
      rw [List.foldl_cons, show pre ++ t :: l = (pre ++ [t]) ++ l by simp]
      refine ih _ _ ?_
      unfold mstep
      by_cases hin : t ∈ st.1
      · rw [if_pos hin]
        refine ⟨h.nd, fun x => ?_, h.sum, by rw [List.length_append]; have := h.len; omega⟩
        rw [h.mem x, List.mem_append, List.mem_singleton]
        exact ⟨.inl, fun hh => hh.elim id (fun e => by rw [e]; exact (h.mem t).1 hin)⟩
      · rw [if_neg hin]
        refine ⟨List.nodup_cons.2 ⟨hin, h.nd⟩, fun x => ?_, ?_, by rw [List.length_append]; have := h.len; simp; omega⟩
        · show x ∈ t :: st.1 ↔ _
          rw [List.mem_cons, h.mem x, List.mem_append, List.mem_singleton]
          exact ⟨fun hh => hh.elim .inr .inl, fun hh => hh.elim .inr .inl⟩
        · show st.2 + t.size = szs (t :: st.1)
          unfold szs
          rw [List.map_cons, List.sum_cons, h.sum]
          unfold szs
          omega
  intro l
  have := key l [] ([], 0) ⟨List.nodup_nil, fun x => Iff.rfl, rfl, Nat.le_refl _⟩
  rwa [List.nil_append] at this
theorem szs_le : ∀ (a b : List ByteArray), a.Nodup → (∀ x ∈ a, x ∈ b) → szs a ≤ szs b
  | [], b, _, _ => Nat.zero_le _
  | x :: a, b, hn, hs => by
    have hx := hs x (by simp)
    obtain ⟨hxa, hna⟩ := List.nodup_cons.1 hn
    obtain ⟨u, v, rfl⟩ := List.append_of_mem hx
    have ih := szs_le a (u ++ v) hna (fun y hy => by
      rcases List.mem_append.1 (hs y (by simp [hy])) with h | h
      · exact List.mem_append_left _ h
      · rcases List.mem_cons.1 h with e | h
        · exact absurd hy (by rw [e]; exact hxa)
        · exact List.mem_append_right _ h)
    unfold szs at ih ⊢
    rw [List.map_append, List.sum_append] at ih ⊢
    rw [List.map_cons, List.sum_cons, List.map_cons, List.sum_cons]
    omega
def texs (ns : List Node) : List ByteArray := ns.flatMap (fun n => n.texts)
noncomputable def textSum (ns : List Node) : Nat := (meas (texs ns)).2
theorem textSum_le {ns ms : List Node} {extra : List ByteArray} (h : ∀ x ∈ texs ns, x ∈ extra ++ texs ms) : textSum ns ≤ szs extra + textSum ms := by
  have h1 := meas_inv (texs ns)
  have h2 := meas_inv (texs ms)
  unfold textSum
  rw [h1.sum, h2.sum]
  have h3 := szs_le _ (extra ++ (meas (texs ms)).1) h1.nd (fun x hx => by
    have := h x ((h1.mem x).1 hx)
    rcases List.mem_append.1 this with h' | h'
    · exact List.mem_append_left _ h'
    · exact List.mem_append_right _ ((h2.mem x).2 h'))
  refine Nat.le_trans h3 (Nat.le_of_eq ?_)
  unfold szs
  rw [List.map_append, List.sum_append]
theorem mem_texs {ns : List Node} {x : ByteArray} : x ∈ texs ns ↔ ∃ p : Nat, p < ns.length ∧ x ∈ (nd ns p).texts := by
  unfold texs
  rw [List.mem_flatMap]
  refine ⟨fun ⟨n, hn, hx⟩ => ?_, fun ⟨p, hp, hx⟩ => ?_⟩
  · obtain ⟨p, hp, rfl⟩ := List.getElem_of_mem hn
    refine ⟨p, hp, ?_⟩
    unfold nd
    rw [List.getD_eq_getElem?_getD, List.getElem?_eq_getElem hp]
    exact hx
  · refine ⟨nd ns p, ?_, hx⟩
    unfold nd
    rw [List.getD_eq_getElem?_getD, List.getElem?_eq_getElem hp]
    exact List.getElem_mem hp
theorem iso_texs {ns ms : List Node} {f : Int → Int} (h : Iso ns ms f) (hsur : ∀ m : Nat, m < ns.length → ∃ q : Nat, q < ms.length ∧ (m : Int) = f (q : Int)) {x : ByteArray} : x ∈ texs ns ↔ x ∈ texs ms := by
  rw [mem_texs, mem_texs]
  have e : ∀ q : Nat, q < ms.length → (nd ns (f (q : Int)).toNat).texts = (nd ms q).texts := fun q hq => by
    rw [h.nd (q : Int) ⟨by omega, by omega⟩, Int.toNat_natCast]
  refine ⟨fun ⟨m, hm, hx⟩ => ?_, fun ⟨q, hq, hx⟩ => ?_⟩
  · obtain ⟨q, hq, he⟩ := hsur m hm
    refine ⟨q, hq, ?_⟩
    have := e q hq
    rw [← he, Int.toNat_natCast] at this
    rw [← this]; exact hx
  · have hp := h.pl (q : Int) ⟨by omega, by omega⟩
    exact ⟨(f (q : Int)).toNat, by have := hp.1; have := hp.2; omega, by rw [e q hq]; exact hx⟩
theorem canon_texs {s : Scene} (h : Right s) {x : ByteArray} : x ∈ texs (canonL s) ↔ x ∈ texs s.nodes := by
  have hi := canon_iso h
  refine iso_texs hi (fun m hm => ?_)
  have hlen := hi.len
  obtain ⟨q, hq, hqn⟩ := ord_at h (m := m) (by omega)
  refine ⟨q, hqn, ?_⟩
  have := idx_at h (m := m) (by omega)
  rw [hq] at this
  show (m : Int) = ((idx s (q : Int) : Nat) : Int)
  rw [this]
def sansB : ByteArray := ⟨#[115, 97, 110, 115]⟩
theorem typed_texts {n : Node} (h : nodeT oldTab n = 0) : (n.kind = 1 ∧ n.texts = []) ∨ (n.kind = 2 ∧ n.texts = []) ∨ (n.kind = 3 ∧ n.texts.length = 1) ∨ (n.kind = 4 ∧ n.texts.length = 1) ∨ (n.kind = 5 ∧ n.texts.length = 1) ∨ (n.kind = 6 ∧ n.texts = []) := by
  unfold nodeT at h
  cases hf : findS oldTab n.kind with
  | none => rw [hf] at h; exact absurd h (show ¬ (9 : Int) = 0 by decide)
  | some sp =>
    rw [hf] at h
    have hk := old_kind hf
    have hl := fun {k : Int} {y : Spec} (hk : n.kind = k) (hy : findS oldTab k = some y) => (node_len hf h hk hy).2
    have h6 : n.kind = 1 ∨ n.kind = 2 ∨ n.kind = 3 ∨ n.kind = 4 ∨ n.kind = 5 ∨ n.kind = 6 := by omega
    rcases h6 with e | e | e | e | e | e
    · exact .inl ⟨e, List.eq_nil_of_length_eq_zero (by have : (n.texts.length : Int) = 0 := hl e rfl; omega)⟩
    · exact .inr (.inl ⟨e, List.eq_nil_of_length_eq_zero (by have : (n.texts.length : Int) = 0 := hl e rfl; omega)⟩)
    · exact .inr (.inr (.inl ⟨e, by have : (n.texts.length : Int) = 1 := hl e rfl; omega⟩))
    · exact .inr (.inr (.inr (.inl ⟨e, by have : (n.texts.length : Int) = 1 := hl e rfl; omega⟩)))
    · exact .inr (.inr (.inr (.inr (.inl ⟨e, by have : (n.texts.length : Int) = 1 := hl e rfl; omega⟩))))
    · exact .inr (.inr (.inr (.inr (.inr ⟨e, List.eq_nil_of_length_eq_zero (by have : (n.texts.length : Int) = 0 := hl e rfl; omega)⟩))))
theorem one_text {l : List ByteArray} (h : l.length = 1) : l = [str l 0] := by
  match l, h with
  | [x], _ => rfl
theorem upK_texts {n : Node} (h : nodeT oldTab n = 0) (b : Int) (q : List Int) : (∀ x ∈ n.texts, x ∈ (nd (upK n b q) 0).texts) ∧ ∀ j, j < upLen n → ∀ x ∈ (nd (upK n b q) j).texts, x ∈ [ByteArray.empty, sansB] ++ n.texts := by
  have hul := upK_len n b q
  rcases typed_texts h with ⟨e, ht⟩ | ⟨e, ht⟩ | ⟨e, ht⟩ | ⟨e, ht⟩ | ⟨e, ht⟩ | ⟨e, ht⟩
  · have hu : upK n b q = [⟨1, [], [ByteArray.empty], q⟩] := by unfold upK; rw [e]; rfl
    rw [hu] at hul ⊢
    rw [ht]
    refine ⟨fun x hx => by simp at hx, fun j hj x hx => ?_⟩
    obtain rfl : j = 0 := by rw [← hul] at hj; simp at hj; omega
    have hx' : x ∈ [ByteArray.empty] := hx
    rw [List.mem_singleton.1 hx']; simp
  · have hu : upK n b q = [⟨2, n.ints.take 3, [], [b]⟩, ⟨8, [rd n.ints 3, rd n.ints 3, rd n.ints 3], [], q⟩] := by unfold upK; rw [e]; rfl
    rw [hu] at hul ⊢
    rw [ht]
    refine ⟨fun x hx => by simp at hx, fun j hj x hx => ?_⟩
    have h2 : j = 0 ∨ j = 1 := by rw [← hul] at hj; simp at hj; omega
    rcases h2 with rfl | rfl
    · have hx' : x ∈ ([] : List ByteArray) := hx
      simp at hx'
    · have hx' : x ∈ ([] : List ByteArray) := hx
      simp at hx'
  · have hu : upK n b q = [⟨3, [rd n.ints 0, rd n.ints 0, rd n.ints 0], n.texts, q⟩] := by unfold upK; rw [e]; rfl
    rw [hu] at hul ⊢
    refine ⟨fun x hx => hx, fun j hj x hx => ?_⟩
    obtain rfl : j = 0 := by rw [← hul] at hj; simp at hj; omega
    exact List.mem_append_right _ hx
  · have hu : upK n b q = [⟨4, n.ints, n.texts, q⟩] := by unfold upK; rw [e]; rfl
    rw [hu] at hul ⊢
    refine ⟨fun x hx => hx, fun j hj x hx => ?_⟩
    obtain rfl : j = 0 := by rw [← hul] at hj; simp at hj; omega
    exact List.mem_append_right _ hx
  · have hu : upK n b q = [⟨5, [65536], [str n.texts 0, sansB], q⟩] := by unfold upK; rw [e]; rfl
    rw [hu] at hul ⊢
    have h1 := one_text ht
    refine ⟨fun x hx => ?_, fun j hj x hx => ?_⟩
    · rw [h1] at hx
      show x ∈ [str n.texts 0, sansB]
      rw [List.mem_singleton.1 hx]; simp
    · obtain rfl : j = 0 := by rw [← hul] at hj; simp at hj; omega
      have hx' : x ∈ [str n.texts 0, sansB] := hx
      rcases List.mem_cons.1 hx' with rfl | hx'
      · refine List.mem_append_right _ ?_
        rw [h1]
        show str n.texts 0 ∈ [str n.texts 0]
        simp
      · rw [List.mem_singleton.1 hx']; simp
  · have hu : upK n b q = [⟨7, [rd n.ints 0, rd n.ints 0, rd n.ints 0, 1], [], q⟩] := by unfold upK; rw [e]; rfl
    rw [hu] at hul ⊢
    rw [ht]
    refine ⟨fun x hx => by simp at hx, fun j hj x hx => ?_⟩
    obtain rfl : j = 0 := by rw [← hul] at hj; simp at hj; omega
    have hx' : x ∈ ([] : List ByteArray) := hx
    simp at hx'
theorem upS_texs {s : Scene} (hty : ∀ i : Nat, i < s.nodes.length → nodeT oldTab (nd s.nodes i) = 0) : (∀ x ∈ texs s.nodes, x ∈ texs (upS s).nodes) ∧ ∀ x ∈ texs (upS s).nodes, x ∈ [ByteArray.empty, sansB] ++ texs s.nodes := by
  have hlen : (upS s).nodes.length = pos s.nodes s.nodes.length := U_len _
  refine ⟨fun x hx => ?_, fun x hx => ?_⟩
  · obtain ⟨p, hp, hx⟩ := mem_texs.1 hx
    refine mem_texs.2 ⟨pos s.nodes p + 0, by rw [hlen]; exact up_pos_lt s.nodes hp (upLen_pos _), ?_⟩
    show x ∈ (nd (mix s.nodes s.nodes.length s.nodes.length) (pos s.nodes p + 0)).texts
    rw [nd_mix s.nodes _ _ p 0 hp (Nat.le_refl _) (upLen_pos _)]
    exact (upK_texts (hty p hp) _ _).1 x hx
  · obtain ⟨y, hy, hx⟩ := mem_texs.1 hx
    obtain ⟨p, j, hp, hj, rfl⟩ := pos_find s.nodes s.nodes.length y (by omega)
    have hx' : x ∈ (nd (mix s.nodes s.nodes.length s.nodes.length) (pos s.nodes p + j)).texts := hx
    rw [nd_mix s.nodes _ _ p j hp (Nat.le_refl _) hj] at hx'
    rcases List.mem_append.1 ((upK_texts (hty p hp) _ _).2 j hj x hx') with h | h
    · exact List.mem_append_left _ h
    · exact List.mem_append_right _ (mem_texs.2 ⟨p, hp, h⟩)
theorem upRes_text {s : Scene} (hty : (typedS oldTab s.nodes).1 = 0) (htn : ∀ i : Nat, i < s.nodes.length → nodeT oldTab (nd s.nodes i) = 0) (hr : Right s) : textSum s.nodes ≤ textSum (upRes s).nodes ∧ textSum (upRes s).nodes ≤ textSum s.nodes + 4 := by
  have hu := upS_right hr
  have hres : (upRes s).nodes = canonL (upS s) := by
    unfold upRes canonR
    rw [if_pos hty, if_pos (gcheck_right.2 hr), if_pos (gcheck_right.2 hu)]
  obtain ⟨h1, h2⟩ := upS_texs htn
  rw [hres]
  refine ⟨?_, ?_⟩
  · have := textSum_le (ns := s.nodes) (ms := canonL (upS s)) (extra := []) (fun x hx => by rw [List.nil_append]; exact (canon_texs hu).2 (h1 x hx))
    have e : szs [] = 0 := rfl
    omega
  · have := textSum_le (ns := canonL (upS s)) (ms := s.nodes) (extra := [ByteArray.empty, sansB]) (fun x hx => h2 x ((canon_texs hu).1 hx))
    have e : szs [ByteArray.empty, sansB] = 4 := rfl
    omega
end Go.Proofs.YtglfebpgdghlfaaDoor.L
end
section
namespace Go.Proofs.YtglfebpgdghlfaaDoor.L
open Go.RowKit Go.ChangeShapes Go.WideShapes Go.Proofs.YtglfebpgdghlfaaDoorW.PrintWords Go.Proofs.YtglfebpgdghlfaaDoorW.PrintLast Go.Proofs.YtglfebpgdghlfaaDoorW.PrintMore
attribute [local go_sem] max2_int min2_int max_two min_two max_three min_three max_four min_four
theorem texs_le {b : Nat} : ∀ ns : List Node, (∀ n ∈ ns, n.texts.length ≤ b) → (texs ns).length ≤ ns.length * b
  | [], _ => by simp [texs]
  | n :: ns, h => by
    have h1 := texs_le ns (fun y hy => h y (by simp [hy]))
    have h2 := h n (by simp)
    have h3 : texs (n :: ns) = n.texts ++ texs ns := rfl
    rw [h3, List.length_append, List.length_cons, Nat.succ_mul]
    omega
theorem mem_nd {ns : List Node} {n : Node} (h : n ∈ ns) : ∃ i : Nat, i < ns.length ∧ n = nd ns i := by
  obtain ⟨i, hi, e⟩ := List.getElem_of_mem h
  refine ⟨i, hi, ?_⟩
  unfold nd
  rw [List.getD_eq_getElem?_getD, List.getElem?_eq_getElem hi]
  exact e.symm
theorem texs_small {ns : List Node} (h : ∀ i : Nat, i < ns.length → TextsSmall (nd ns i)) : ∀ x ∈ texs ns, x.size ≤ 1000000 := by
  intro x hx
  obtain ⟨p, hp, hx⟩ := mem_texs.1 hx
  obtain ⟨j, hj, e⟩ := List.getElem_of_mem hx
  have := h p hp j hj
  have e2 : str (nd ns p).texts j = x := by unfold str; rw [List.getD_eq_getElem?_getD, List.getElem?_eq_getElem hj]; exact e
  rwa [e2] at this
theorem r18_kids_le {s : Scene} (hK : ∀ i : Nat, i < s.nodes.length → (nd s.nodes i).kids.length ≤ 300) : ∀ x : Nat, x < (r18S s).nodes.length → (nd (r18S s).nodes x).kids.length ≤ 300 := by
  intro x hx
  have hlen : (r18S s).nodes.length = s.nodes.length + cnt s.nodes s.nodes.length := r18_len _ _
  obtain ⟨p, j, hp, hj, rfl⟩ := r_find s.nodes (x := x) (by omega)
  have h1 := r18_kids s.nodes hp hj
  unfold kids at h1
  rw [Int.toNat_natCast] at h1
  show (nd (r18 s.nodes s.nodes.length) (rpos s.nodes p j)).kids.length ≤ 300
  rw [h1]
  split
  · simp
  · exact hK p hp
theorem upRes_len {s : Scene} (hty : (typedS oldTab s.nodes).1 = 0) (hr : Right s) : (upRes s).nodes.length ≤ 2 * s.nodes.length := by
  have hu := upS_right hr
  have hres : (upRes s).nodes = canonL (upS s) := by
    unfold upRes canonR
    rw [if_pos hty, if_pos (gcheck_right.2 hr), if_pos (gcheck_right.2 hu)]
  rw [hres]
  unfold canonL
  rw [List.length_map, ord_len hu]
  have h1 : (upS s).nodes.length = pos s.nodes s.nodes.length := U_len _
  rw [h1]
  exact pos_le _ _
theorem upRes_kids {s : Scene} (hty : (typedS oldTab s.nodes).1 = 0) (hr : Right s) (hK : ∀ i : Nat, i < s.nodes.length → (nd s.nodes i).kids.length ≤ 300) : ∀ i : Nat, i < (upRes s).nodes.length → (nd (upRes s).nodes i).kids.length ≤ 300 := by
  rw [(up_is_ref hty hr).2]
  intro i hi
  obtain ⟨_, hd, hp⟩ := r18_canon hr
  have hm : nd (refRes s).nodes i ∈ canonL (r18S s) := nd_mem _ i hi
  generalize nd (refRes s).nodes i = x at hm
  obtain ⟨a, ha, rfl⟩ := List.mem_map.1 hm
  have hpl := (ord_met' hd hp).shut.pl a ha
  have h1 := r18_kids_le hK a.toNat (by have := hpl.1; have := hpl.2; omega)
  show ((nd (r18S s).nodes a.toNat).kids.map _).length ≤ 300
  rw [List.length_map]; exact h1
theorem upRes_texs {s : Scene} (hty : (typedS oldTab s.nodes).1 = 0) (htn : ∀ i : Nat, i < s.nodes.length → nodeT oldTab (nd s.nodes i) = 0) (hr : Right s) : ∀ x ∈ texs (upRes s).nodes, x ∈ [ByteArray.empty, sansB] ++ texs s.nodes := by
  have hu := upS_right hr
  have hres : (upRes s).nodes = canonL (upS s) := by
    unfold upRes canonR
    rw [if_pos hty, if_pos (gcheck_right.2 hr), if_pos (gcheck_right.2 hu)]
  rw [hres]
  exact fun x hx => (upS_texs htn).2 x ((canon_texs hu).1 hx)
theorem upRes_sizes {s : Scene} (hty : (typedS oldTab s.nodes).1 = 0) (hr : Right s) (hg : greatS s = false) :
    rows (upRes s).nodes ≤ 400000 ∧ (∀ x ∈ texs (upRes s).nodes, x.size ≤ 1000000) ∧ (texs (upRes s).nodes).length ≤ 1000000000 := by
  obtain ⟨hn, hS, hTS, hK⟩ := greatS_small hg
  have hl := upRes_len hty hr
  have hsm : ∀ i : Nat, i < (upRes s).nodes.length → Small (nd (upRes s).nodes i) := by
    rw [(up_is_ref hty hr).2]; exact refRes_small hr hS
  refine ⟨?_, ?_, ?_⟩
  · have h1 := rows_le (upRes_kids hty hr hK)
    have h2 : (upRes s).nodes.length * (300 + 1) ≤ 120 * 301 := Nat.mul_le_mul (by omega) (by omega)
    omega
  · intro x hx
    rcases List.mem_append.1 (upRes_texs hty (typedS_all hty) hr x hx) with h | h
    · simp at h
      rcases h with rfl | rfl
      · exact Nat.zero_le _
      · show 4 ≤ 1000000; omega
    · exact texs_small hTS x h
  · have h1 := texs_le (b := 1000000) (upRes s).nodes (fun n hn => by
      obtain ⟨i, hi, rfl⟩ := mem_nd hn
      exact (hsm i hi).2.1)
    have h2 : (upRes s).nodes.length * 1000000 ≤ 120 * 1000000 := Nat.mul_le_mul (by omega) (by omega)
    omega
theorem own_sizes {s : Scene} (hg : greatS s = false) : rows s.nodes ≤ 130000 ∧ (∀ x ∈ texs s.nodes, x.size ≤ 1000000) ∧ (texs s.nodes).length ≤ 1000000000 := by
  obtain ⟨hn, hS, hTS, hK⟩ := greatS_small hg
  refine ⟨?_, texs_small hTS, ?_⟩
  · have h1 := rows_le hK
    have h2 : s.nodes.length * (300 + 1) ≤ 60 * 301 := Nat.mul_le_mul (by omega) (by omega)
    omega
  · have h1 := texs_le (b := 1000000) s.nodes (fun n hn => by
      obtain ⟨i, hi, rfl⟩ := mem_nd hn
      exact (hS i hi).2.1)
    have h2 : s.nodes.length * 1000000 ≤ 60 * 1000000 := Nat.mul_le_mul (by omega) (by omega)
    omega
end Go.Proofs.YtglfebpgdghlfaaDoor.L
end
section
namespace Go.Proofs.YtglfebpgdghlfaaDoor.L
open Go.RowKit Go.ChangeShapes Go.WideShapes Go.Proofs.YtglfebpgdghlfaaDoorW.PrintWords Go.Proofs.YtglfebpgdghlfaaDoorW.PrintLast Go.Proofs.YtglfebpgdghlfaaDoorW.PrintMore
attribute [local go_sem] max2_int min2_int max_two min_two max_three min_three max_four min_four
theorem ord_iota {s : Scene} (h : Right s) : (ord s).map (fun x => (idx s x : Int)) = iota s.nodes.length := by
  have hl := ord_len h
  refine List.ext_getElem (by rw [List.length_map, hl, iota_len]) (fun m h1 h2 => ?_)
  rw [List.length_map] at h1
  rw [List.getElem_map]
  have h3 := idx_at h (m := m) (by omega)
  rw [rd_eq h1] at h3
  rw [h3]
  have h4 := iota_rd s.nodes.length m (by omega)
  rw [rd_eq h2] at h4
  exact h4.symm
theorem canon_ord {s : Scene} (h : Right s) : ord ⟨canonL s, (s.nodes.length : Int) - 1⟩ = iota s.nodes.length := by
  have hi := canon_iso h
  have := (hi.ord (s := ⟨canonL s, (s.nodes.length : Int) - 1⟩) h.pl ⟨h.r0, h.r1⟩ (canon_root h)).1
  rw [this]
  exact ord_iota h
theorem idxOf_iota (n p : Nat) (h : p < n) : (iota n).idxOf (p : Int) = p := by
  have hp : p < (iota n).length := by rw [iota_len]; exact h
  have hnd : (iota n).Nodup := by
    unfold iota
    refine List.pairwise_map.2 (List.Pairwise.imp ?_ List.nodup_range)
    intro a b hab e
    exact hab (by omega)
  have e : (iota n)[p] = (p : Int) := by have := iota_rd n p h; rwa [rd_eq hp] at this
  have := hnd.idxOf_getElem p hp
  rwa [e] at this
theorem canon_isC {s : Scene} (h : Right s) : isC ⟨canonL s, (s.nodes.length : Int) - 1⟩ = true := by
  have hr := canon_right h
  have hlen : (canonL s).length = s.nodes.length := (canon_iso h).len
  have hn : 0 < s.nodes.length := by have := h.r0; have := h.r1; omega
  have hnum : nums ⟨canonL s, (s.nodes.length : Int) - 1⟩ = iota s.nodes.length := by
    unfold nums
    rw [if_pos (gcheck_right.2 hr)]
    unfold numsL
    show (List.range (canonL s).length).map _ = _
    rw [hlen]
    unfold iota
    refine List.map_congr_left (fun p hp => ?_)
    unfold idx
    rw [canon_ord h, idxOf_iota _ _ (List.mem_range.1 hp)]
  refine decide_eq_true ?_
  rw [hnum, iota_len]
  exact ⟨rfl, hn⟩
end Go.Proofs.YtglfebpgdghlfaaDoor.L
end
