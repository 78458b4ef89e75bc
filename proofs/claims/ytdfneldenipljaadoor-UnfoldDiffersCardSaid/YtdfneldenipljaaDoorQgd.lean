/- Part 4 of the texts that the rows of this seat rest on, joined by a program: what its functions come to. Conditions: those that each theorem states. -/
import Derived.Test.YtdfneldenipljaaDoorQgc
import Derived.BigQuiet
import Derived.Test.YtdfneldenipljaaDoorCards
import Derived.Test.YtdfneldenipljaaDoorTie
import Derived.OpenShut
import Derived.ChangeOld
import Derived.SizedLaws
import Derived.LaidMore
import Derived.Lay
import Derived.SevenTiedAt
import Derived.Stop.Joined
import Derived.Lib.LaidU8
import Derived.Lib.LaidPrint
import Derived.Lib.LaidTab
set_option linter.unusedVariables false
set_option linter.unusedSimpArgs false
section
-- PRINTED BY print.sh 35421559b90ae4d0a3588c463048766b98c2df88dd9212a6774a882060cdf62d: not written by this session
namespace Go.Proofs.YtdfneldenipljaaDoor.PClassNumbers
open Go.RowKit Go.Proofs.YtdfneldenipljaaDoorW.PrintWords Go.Proofs.YtdfneldenipljaaDoorW.PrintLast Go.Proofs.YtdfneldenipljaaDoorW.PrintMore
attribute [local go_sem] max2_int min2_int max_two min_two max_three min_three max_four min_four   -- for this text's walks alone
set_option linter.unusedVariables false
set_option linter.unusedSimpArgs false
mutual
def dioramaref09_Check.l0 : Nat → Int → List (S52) → Int → Option (Int × Int)
  | 0, _, _, _ => none
  | k + 1, x5, x265000, x265001 => if x5 < (x265000.length : Int) then ((dioramaref09_Led.f k x265000 x265001 x5).bind fun t267 => (if 0 ≤ x5 then (if x5 < (t267.length : Int) then (if rdOf false t267 x5 = true then (some (14, x5)) else (dioramaref09_Check.l0 k (wrap64 (x5 + 1)) x265000 x265001)) else (none)) else (none))) else ((dioramaref09_Led.f k x265000 x265001 x265001).bind fun t271 => (dioramaref09_Check.l1 k t271 0 x265000 x265001))
def dioramaref09_Check.l1 : Nat → List Bool → Int → List (S52) → Int → Option (Int × Int)
  | 0, _, _, _, _ => none
  | k + 1, x6, x7, x265000, x265001 => if x7 < (x265000.length : Int) then (if x7 = x265001 then (dioramaref09_Check.l1 k x6 (wrap64 (x7 + 1)) x265000 x265001) else (if 0 ≤ x7 then (if x7 < (x6.length : Int) then (if rdOf false x6 x7 = true then (dioramaref09_Check.l1 k x6 (wrap64 (x7 + 1)) x265000 x265001) else (some (15, x7))) else (none)) else (none))) else (some (0, 0))
end
def dioramaref09_Check.f (k : Nat) (l0_0 : List (S52)) (a0_1 : Int) : Option (Int × Int) := (dioramaref09_Place.f l0_0 a0_1 a0_1).bind fun t265 => (if t265 = true then ((dioramaref09_Refs.f k l0_0 a0_1).bind fun t266 => (if t266 ≥ 0 then (some (13, t266)) else (dioramaref09_Check.l0 k 0 l0_0 a0_1))) else (some (13, (-1))))
set_option maxHeartbeats 8000000 in
set_option maxRecDepth 100000 in
theorem dioramaref09_Check.calls (k : Nat) (A0_0 : Option Addr) (c0_0 : Nat) (l0_0 : List (S52)) (a0_1 : Int) (r1 : Int) (r2 : Int) (w : World) (hr0_0 : Kd.C k52 w A0_0 l0_0.length l0_0) (hc0_0 : l0_0.length ≤ c0_0) (h : dioramaref09_Check.f k l0_0 a0_1 = some (r1, r2)) :
    Calls Tryd.prog 31 #[.agg #[.slice A0_0 l0_0.length c0_0, .int .i64 a0_1]] w fun e w' => e = .returned (.tuple #[.int .i64 r1, .int .i64 r2]) ∧ Below w.heap.size w w' := by
  have hu34 := Tryd.underlying34
  have HR0_0 := Aside0.mk hr0_0
  have HC0_0 := Aside0.mk hc0_0
  clear hr0_0 hc0_0
  have HB := Aside0.mk (Below.refl w.heap.size w)
  have H : ((dioramaref09_Place.f l0_0 a0_1 a0_1).bind fun t265 => (if t265 = true then ((dioramaref09_Refs.f k l0_0 a0_1).bind fun t266 => (if t266 ≥ 0 then (some (13, t266)) else (dioramaref09_Check.l0 k 0 l0_0 a0_1))) else (some (13, (-1))))) = some (r1, r2) := h
  clear h
  replace H := Option.bind_eq_some_iff.mp H
  obtain ⟨t265, A20, H⟩ := H
  replace H : (if t265 = true then ((dioramaref09_Refs.f k l0_0 a0_1).bind fun t266 => (if t266 ≥ 0 then (some (13, t266)) else (dioramaref09_Check.l0 k 0 l0_0 a0_1))) else (some (13, (-1)))) = some (r1, r2) := H
  have A2 := Aside0.mk A20
  clear A20
  by_cases c3 : t265 = true
  · subst c3
    have H1 : ((dioramaref09_Refs.f k l0_0 a0_1).bind fun t266 => (if t266 ≥ 0 then (some (13, t266)) else (dioramaref09_Check.l0 k 0 l0_0 a0_1))) = some (r1, r2) := by rw [if_pos rfl] at H; exact H
    clear H
    have H := H1
    clear H1
    replace H := Option.bind_eq_some_iff.mp H
    obtain ⟨t266, A40, H⟩ := H
    replace H : (if t266 ≥ 0 then (some (13, t266)) else (dioramaref09_Check.l0 k 0 l0_0 a0_1)) = some (r1, r2) := H
    have A4 := Aside0.mk A40
    clear A40
    by_cases c5 : t266 ≥ 0
    · rw [if_pos c5] at H
      have c5b0 : decide (0 ≤ t266) = true := decide_eq_true c5
      clear c5
      simp only [Option.some.injEq, Prod.mk.injEq] at H
      obtain ⟨rfl, rfl⟩ := H
      go_enter Tryd.func31, Tryd.ntmps31
      go_wp2_with (first | ((with_reducible refine gate_dst (N := 1) rfl ?_); refine box_event ?hg (N := 1) ?hd (cs := #[.slice A0_0 l0_0.length c0_0, .int .i64 a0_1]) (t := 34) ?hr ?_; (case hd => rfl); (case hg => rfl); (case hr => first | (go_simp; done) | (go_simp; rfl)); intro gb264 hg w6 hbox hb; have n0_ := Aside0.mk (below_step (by repeat (first | (with_reducible first | exact HB.out | apply below_alloc | apply pw_below_drewN | apply below_drew1) | exact HB.out)) hb); have n1_ := Aside0.mk (hbox); have n2_ := Aside0.mk ((by rw [hg]; exact (below_size (by repeat (first | (with_reducible first | exact HB.out | apply below_alloc | apply pw_below_drewN | apply below_drew1) | exact HB.out))) : w.heap.size ≤ gb264)); have n3_ := Aside0.mk ((by rw [hg]; exact (below_size (by repeat (first | (with_reducible first | exact HB.out | apply below_alloc | apply pw_below_drewN | apply below_drew1) | exact HB.out))) : w.heap.size ≤ gb264)); clear HB; have HB := n0_; have BK264 := n1_; have GW264 := n2_; have GE264 := n3_; clear n0_ n1_ n2_ n3_; clear hb hbox hg; have hcz7_0 : w6.cell? ⟨gb264, 0, none⟩ = some (.slice A0_0 l0_0.length c0_0) := (blk_cell BK264.out 0).trans rfl; have hcz7_1 : w6.cell? ⟨gb264, 1, none⟩ = some (.int .i64 a0_1) := (blk_cell BK264.out 1).trans rfl; have hfz7_0 := blk_frozen BK264.out 0; have hfz7_1 := blk_frozen BK264.out 1) | ((with_reducible refine gate_callee (f := 43) rfl ?_); refine goesL_ (some 11) rfl rfl Tryd.func43 (by kernel_rfl) rfl #[.agg #[.slice A0_0 l0_0.length c0_0, .int .i64 a0_1], .int .i64 a0_1] rfl (by (try simp only [List.map_toArray, List.map_cons, List.map_nil]); first | done | rfl | (simp only [List.length_drop, List.length_take]; rfl)) ?_; (with_reducible refine (dioramaref09_Place.calls _ _ l0_0 a0_1 a0_1 true _ ?side1 ?side2 A2.out).mono ?_); (case side1 => repeat (first | exact (Kd.C_below HR0_0.out HB.out) | (with_reducible refine Kd.C_alloc ?_ _) | (with_reducible refine Kd.C_drewN ?_ _) | (with_reducible refine Kd.C_drew ?_))); (case side2 => exact HC0_0.out); rintro e w8 ⟨rfl, hb⟩; refine ⟨_, rfl, ?_⟩; have n0_ := Aside0.mk (blk_below (g := gb264) (o := .cells #[.slice A0_0 l0_0.length c0_0, .int .i64 a0_1] 34 (0, 0)) (by (with_reducible repeat (first | refine blk_drewN ?_ _ | refine blk_drew ?_ | refine blk_alloc ?_ _)); exact BK264.out) hb); have n1_ := Aside0.mk (below_step (by repeat (first | (with_reducible first | exact HB.out | apply below_alloc | apply pw_below_drewN | apply below_drew1 | refine below_set ?_ GE264.out) | exact HB.out)) hb); clear BK264; clear HB; have BK264 := n0_; have HB := n1_; clear n0_ n1_; (try clear hb); (try clear hb2); (try clear hk); (try clear hi); have hcz9_0 : w8.cell? ⟨gb264, 0, none⟩ = some (.slice A0_0 l0_0.length c0_0) := (blk_cell BK264.out 0).trans rfl; have hcz9_1 : w8.cell? ⟨gb264, 1, none⟩ = some (.int .i64 a0_1) := (blk_cell BK264.out 1).trans rfl; have hfz9_0 := blk_frozen BK264.out 0; have hfz9_1 := blk_frozen BK264.out 1) | ((with_reducible refine gate_callee (f := 44) rfl ?_); refine goesL_ (some 14) rfl rfl Tryd.func44 (by kernel_rfl) rfl #[.agg #[.slice A0_0 l0_0.length c0_0, .int .i64 a0_1]] rfl (by (try simp only [List.map_toArray, List.map_cons, List.map_nil]); first | done | rfl | (simp only [List.length_drop, List.length_take]; rfl)) ?_; (with_reducible refine (dioramaref09_Refs.calls k _ _ l0_0 a0_1 t266 _ ?side1 ?side2 A4.out).mono ?_); (case side1 => repeat (first | exact (Kd.C_below HR0_0.out HB.out) | (with_reducible refine Kd.C_alloc ?_ _) | (with_reducible refine Kd.C_drewN ?_ _) | (with_reducible refine Kd.C_drew ?_))); (case side2 => exact HC0_0.out); rintro e w10 ⟨rfl, hb⟩; refine ⟨_, rfl, ?_⟩; have n0_ := Aside0.mk (blk_below (g := gb264) (o := .cells #[.slice A0_0 l0_0.length c0_0, .int .i64 a0_1] 34 (0, 0)) (by (with_reducible repeat (first | refine blk_drewN ?_ _ | refine blk_drew ?_ | refine blk_alloc ?_ _)); exact BK264.out) hb); have n1_ := Aside0.mk (below_step (by repeat (first | (with_reducible first | exact HB.out | apply below_alloc | apply pw_below_drewN | apply below_drew1 | refine below_set ?_ GE264.out) | exact HB.out)) hb); clear BK264; clear HB; have BK264 := n0_; have HB := n1_; clear n0_ n1_; (try clear hb); (try clear hb2); (try clear hk); (try clear hi)))
      go_ret2
      exact ⟨by first | rfl | (simp [errW_none, errW_some] <;> rfl) | (simp [*, errW_none, errW_some] <;> rfl), by repeat (first | (with_reducible first | exact HB.out | apply below_alloc | apply pw_below_drewN | apply below_drew1 | refine below_set ?_ GE264.out) | exact HB.out)⟩
    · rw [if_neg c5] at H
      have c5b0 : decide (0 ≤ t266) = false := decide_eq_false c5
      clear c5
      have H' := Aside0.mk H
      clear H
      go_enter Tryd.func31, Tryd.ntmps31
      go_wp2_with (first | ((with_reducible refine gate_dst (N := 1) rfl ?_); refine box_event ?hg (N := 1) ?hd (cs := #[.slice A0_0 l0_0.length c0_0, .int .i64 a0_1]) (t := 34) ?hr ?_; (case hd => rfl); (case hg => rfl); (case hr => first | (go_simp; done) | (go_simp; rfl)); intro gb264 hg w11 hbox hb; have n0_ := Aside0.mk (below_step (by repeat (first | (with_reducible first | exact HB.out | apply below_alloc | apply pw_below_drewN | apply below_drew1) | exact HB.out)) hb); have n1_ := Aside0.mk (hbox); have n2_ := Aside0.mk ((by rw [hg]; exact (below_size (by repeat (first | (with_reducible first | exact HB.out | apply below_alloc | apply pw_below_drewN | apply below_drew1) | exact HB.out))) : w.heap.size ≤ gb264)); have n3_ := Aside0.mk ((by rw [hg]; exact (below_size (by repeat (first | (with_reducible first | exact HB.out | apply below_alloc | apply pw_below_drewN | apply below_drew1) | exact HB.out))) : w.heap.size ≤ gb264)); clear HB; have HB := n0_; have BK264 := n1_; have GW264 := n2_; have GE264 := n3_; clear n0_ n1_ n2_ n3_; clear hb hbox hg; have hcz12_0 : w11.cell? ⟨gb264, 0, none⟩ = some (.slice A0_0 l0_0.length c0_0) := (blk_cell BK264.out 0).trans rfl; have hcz12_1 : w11.cell? ⟨gb264, 1, none⟩ = some (.int .i64 a0_1) := (blk_cell BK264.out 1).trans rfl; have hfz12_0 := blk_frozen BK264.out 0; have hfz12_1 := blk_frozen BK264.out 1) | ((with_reducible refine gate_callee (f := 43) rfl ?_); refine goesL_ (some 11) rfl rfl Tryd.func43 (by kernel_rfl) rfl #[.agg #[.slice A0_0 l0_0.length c0_0, .int .i64 a0_1], .int .i64 a0_1] rfl (by (try simp only [List.map_toArray, List.map_cons, List.map_nil]); first | done | rfl | (simp only [List.length_drop, List.length_take]; rfl)) ?_; (with_reducible refine (dioramaref09_Place.calls _ _ l0_0 a0_1 a0_1 true _ ?side1 ?side2 A2.out).mono ?_); (case side1 => repeat (first | exact (Kd.C_below HR0_0.out HB.out) | (with_reducible refine Kd.C_alloc ?_ _) | (with_reducible refine Kd.C_drewN ?_ _) | (with_reducible refine Kd.C_drew ?_))); (case side2 => exact HC0_0.out); rintro e w13 ⟨rfl, hb⟩; refine ⟨_, rfl, ?_⟩; have n0_ := Aside0.mk (blk_below (g := gb264) (o := .cells #[.slice A0_0 l0_0.length c0_0, .int .i64 a0_1] 34 (0, 0)) (by (with_reducible repeat (first | refine blk_drewN ?_ _ | refine blk_drew ?_ | refine blk_alloc ?_ _)); exact BK264.out) hb); have n1_ := Aside0.mk (below_step (by repeat (first | (with_reducible first | exact HB.out | apply below_alloc | apply pw_below_drewN | apply below_drew1 | refine below_set ?_ GE264.out) | exact HB.out)) hb); clear BK264; clear HB; have BK264 := n0_; have HB := n1_; clear n0_ n1_; (try clear hb); (try clear hb2); (try clear hk); (try clear hi); have hcz14_0 : w13.cell? ⟨gb264, 0, none⟩ = some (.slice A0_0 l0_0.length c0_0) := (blk_cell BK264.out 0).trans rfl; have hcz14_1 : w13.cell? ⟨gb264, 1, none⟩ = some (.int .i64 a0_1) := (blk_cell BK264.out 1).trans rfl; have hfz14_0 := blk_frozen BK264.out 0; have hfz14_1 := blk_frozen BK264.out 1) | ((with_reducible refine gate_callee (f := 44) rfl ?_); refine goesL_ (some 14) rfl rfl Tryd.func44 (by kernel_rfl) rfl #[.agg #[.slice A0_0 l0_0.length c0_0, .int .i64 a0_1]] rfl (by (try simp only [List.map_toArray, List.map_cons, List.map_nil]); first | done | rfl | (simp only [List.length_drop, List.length_take]; rfl)) ?_; (with_reducible refine (dioramaref09_Refs.calls k _ _ l0_0 a0_1 t266 _ ?side1 ?side2 A4.out).mono ?_); (case side1 => repeat (first | exact (Kd.C_below HR0_0.out HB.out) | (with_reducible refine Kd.C_alloc ?_ _) | (with_reducible refine Kd.C_drewN ?_ _) | (with_reducible refine Kd.C_drew ?_))); (case side2 => exact HC0_0.out); rintro e w15 ⟨rfl, hb⟩; refine ⟨_, rfl, ?_⟩; have n0_ := Aside0.mk (blk_below (g := gb264) (o := .cells #[.slice A0_0 l0_0.length c0_0, .int .i64 a0_1] 34 (0, 0)) (by (with_reducible repeat (first | refine blk_drewN ?_ _ | refine blk_drew ?_ | refine blk_alloc ?_ _)); exact BK264.out) hb); have n1_ := Aside0.mk (below_step (by repeat (first | (with_reducible first | exact HB.out | apply below_alloc | apply pw_below_drewN | apply below_drew1 | refine below_set ?_ GE264.out) | exact HB.out)) hb); clear BK264; clear HB; have BK264 := n0_; have HB := n1_; clear n0_ n1_; (try clear hb); (try clear hb2); (try clear hk); (try clear hi)))
      go_loopg [5] k (fun kq v5 w' => ∃ (x5_1 : Int), v5 = .int .i64 x5_1 ∧ Aside0 (dioramaref09_Check.l0 kq x5_1 l0_0 a0_1 = some (r1, r2)) ∧ Aside0 (kq ≤ k) ∧ Aside0 (w'.heap[gb264]? = some (.cells #[(.slice A0_0 l0_0.length c0_0), .int .i64 a0_1] 34 (0, 0))) ∧ Aside0 (Below w.heap.size w w'))
      case atStart => exact ⟨(0), (by first | rfl | (simp; done) | (simp [*]; done)), H', ⟨Nat.le_refl _⟩, ⟨by (with_reducible repeat (first | refine blk_drewN ?_ _ | refine blk_drew ?_ | refine blk_alloc ?_ _)); exact BK264.out⟩, ⟨by repeat (first | (with_reducible first | exact HB.out | apply below_alloc | apply pw_below_drewN | apply below_drew1 | refine below_set ?_ GE264.out) | exact HB.out)⟩⟩
      case round =>
        clear H'
        try clear p2
        try clear c3
        try clear c4
        try clear c5
        try clear c5b0
        try clear hcz12_0
        try clear hcz12_1
        try clear hcz14_0
        try clear hcz14_1
        try clear hcz7_0
        try clear hcz7_1
        try clear hcz9_0
        try clear hcz9_1
        try clear hfz12_0
        try clear hfz12_1
        try clear hfz14_0
        try clear hfz14_1
        try clear hfz7_0
        try clear hfz7_1
        try clear hfz9_0
        try clear hfz9_1
        obtain ⟨x5_1, rfl, HA, HK1, BK264, HB⟩ := hrel
        cases gk with
        | zero => exact absurd HA.out (by simp [dioramaref09_Check.l0])
        | succ k1 =>
          have H := HA.out
          clear HA
          simp only [dioramaref09_Check.l0] at H
          by_cases c16 : x5_1 < (l0_0.length : Int)
          · rw [if_pos c16] at H
            have c16b0 : decide (x5_1 < (l0_0.length : Int)) = true := decide_eq_true c16
            clear c16
            replace H := Option.bind_eq_some_iff.mp H
            obtain ⟨t267, A170, H⟩ := H
            replace H : (if 0 ≤ x5_1 then (if x5_1 < (t267.length : Int) then (if rdOf false t267 x5_1 = true then (some (14, x5_1)) else (dioramaref09_Check.l0 k1 (wrap64 (x5_1 + 1)) l0_0 a0_1)) else (none)) else (none)) = some (r1, r2) := H
            have A17 := Aside0.mk A170
            clear A170
            by_cases c18 : 0 ≤ x5_1
            · rw [if_pos c18] at H
              have c18b0 : decide (0 ≤ x5_1) = true := decide_eq_true c18
              clear c18
              by_cases c19 : x5_1 < (t267.length : Int)
              · rw [if_pos c19] at H
                have c19b0 : decide (x5_1 < (t267.length : Int)) = true := decide_eq_true c19
                clear c19
                obtain ⟨bq20, hbq20⟩ : ∃ b_ : Bool, b_ = (rdOf false t267 x5_1) := ⟨_, rfl⟩
                replace H : (if bq20 = true then (some (14, x5_1)) else (dioramaref09_Check.l0 k1 (wrap64 (x5_1 + 1)) l0_0 a0_1)) = some (r1, r2) := by rw [← hbq20] at H; exact H
                have Nbq20 := Aside0.mk hbq20
                clear hbq20
                by_cases c21 : bq20 = true
                · subst c21
                  have H1 : (some (14, x5_1)) = some (r1, r2) := by rw [if_pos rfl] at H; exact H
                  clear H
                  have H := H1
                  clear H1
                  simp only [Option.some.injEq, Prod.mk.injEq] at H
                  obtain ⟨rfl, rfl⟩ := H
                  have hcz22_0 : wr.cell? ⟨gb264, 0, none⟩ = some (.slice A0_0 l0_0.length c0_0) := (blk_cell BK264.out 0).trans rfl
                  have hcz22_1 : wr.cell? ⟨gb264, 1, none⟩ = some (.int .i64 a0_1) := (blk_cell BK264.out 1).trans rfl
                  have hfz22_0 := blk_frozen BK264.out 0
                  have hfz22_1 := blk_frozen BK264.out 1
                  go_wp2_with (first | ((with_reducible refine gate_callee (f := 45) rfl ?_); refine goesL_ (some 27) rfl rfl Tryd.func45 (by kernel_rfl) rfl #[.agg #[.slice A0_0 l0_0.length c0_0, .int .i64 a0_1], .int .i64 x5_1] rfl (by (try simp only [List.map_toArray, List.map_cons, List.map_nil]); first | done | rfl | (simp only [List.length_drop, List.length_take]; rfl)) ?_; (with_reducible refine (dioramaref09_Led.calls k1 _ _ l0_0 a0_1 x5_1 t267 _ ?side1 ?side2 A17.out).mono ?_); (case side1 => repeat (first | exact (Kd.C_below HR0_0.out HB.out) | (with_reducible refine Kd.C_alloc ?_ _) | (with_reducible refine Kd.C_drewN ?_ _) | (with_reducible refine Kd.C_drew ?_))); (case side2 => exact HC0_0.out); rintro e w23 ⟨v268, rfl, ho0, hb⟩; refine ⟨_, rfl, ?_⟩; have n0_ := Aside0.mk (Kd.R_lower ho0 (below_size (by repeat (first | (with_reducible first | exact HB.out | apply below_alloc | apply pw_below_drewN | apply below_drew1 | refine below_set ?_ GE264.out) | exact HB.out)))); have n1_ := Aside0.mk (blk_below (g := gb264) (o := .cells #[.slice A0_0 l0_0.length c0_0, .int .i64 a0_1] 34 (0, 0)) (by (with_reducible repeat (first | refine blk_drewN ?_ _ | refine blk_drew ?_ | refine blk_alloc ?_ _)); exact BK264.out) hb); have n2_ := Aside0.mk (below_step (by repeat (first | (with_reducible first | exact HB.out | apply below_alloc | apply pw_below_drewN | apply below_drew1 | refine below_set ?_ GE264.out) | exact HB.out)) hb); clear BK264; clear HB; have HO269 := n0_; have BK264 := n1_; have HB := n2_; clear n0_ n1_ n2_; (try clear hb); (try clear hb2); (try clear hk); (try clear hi); (try clear ho0); obtain ⟨Ao24, co24, eo24⟩ := Kd.R_slice HO269.out; subst eo24; have p270 : 0 ≤ (x5_1 : Int) := of_decide_eq_true (by first | (with_reducible assumption) | assumption); have q270 : x5_1 < (t267.length : Int) := of_decide_eq_true (by first | (with_reducible assumption) | assumption); obtain ⟨ad270, e270, hx270_0⟩ := Kd.at_bool (Kd.R_reads' HO269.out).2.2 x5_1 p270 q270; (try rw [← Nbq20.out] at hx270_0); cases e270; replace p270 := eq_true p270; replace q270 := eq_true q270))
                  go_ret2
                  exact ⟨by first | rfl | (simp [errW_none, errW_some] <;> rfl) | (simp [*, errW_none, errW_some] <;> rfl), by repeat (first | (with_reducible first | exact HB.out | apply below_alloc | apply pw_below_drewN | apply below_drew1 | refine below_set ?_ GE264.out) | exact HB.out)⟩
                · replace c21 := Bool.eq_false_iff.mpr c21
                  subst c21
                  have H1 : (dioramaref09_Check.l0 k1 (wrap64 (x5_1 + 1)) l0_0 a0_1) = some (r1, r2) := by rw [if_neg (show ¬ (false = true) by decide)] at H; exact H
                  clear H
                  have H := H1
                  clear H1
                  have H' := Aside0.mk H
                  clear H
                  have hcz25_0 : wr.cell? ⟨gb264, 0, none⟩ = some (.slice A0_0 l0_0.length c0_0) := (blk_cell BK264.out 0).trans rfl
                  have hcz25_1 : wr.cell? ⟨gb264, 1, none⟩ = some (.int .i64 a0_1) := (blk_cell BK264.out 1).trans rfl
                  have hfz25_0 := blk_frozen BK264.out 0
                  have hfz25_1 := blk_frozen BK264.out 1
                  go_wp2_with (first | ((with_reducible refine gate_callee (f := 45) rfl ?_); refine goesL_ (some 27) rfl rfl Tryd.func45 (by kernel_rfl) rfl #[.agg #[.slice A0_0 l0_0.length c0_0, .int .i64 a0_1], .int .i64 x5_1] rfl (by (try simp only [List.map_toArray, List.map_cons, List.map_nil]); first | done | rfl | (simp only [List.length_drop, List.length_take]; rfl)) ?_; (with_reducible refine (dioramaref09_Led.calls k1 _ _ l0_0 a0_1 x5_1 t267 _ ?side1 ?side2 A17.out).mono ?_); (case side1 => repeat (first | exact (Kd.C_below HR0_0.out HB.out) | (with_reducible refine Kd.C_alloc ?_ _) | (with_reducible refine Kd.C_drewN ?_ _) | (with_reducible refine Kd.C_drew ?_))); (case side2 => exact HC0_0.out); rintro e w26 ⟨v268, rfl, ho0, hb⟩; refine ⟨_, rfl, ?_⟩; have n0_ := Aside0.mk (Kd.R_lower ho0 (below_size (by repeat (first | (with_reducible first | exact HB.out | apply below_alloc | apply pw_below_drewN | apply below_drew1 | refine below_set ?_ GE264.out) | exact HB.out)))); have n1_ := Aside0.mk (blk_below (g := gb264) (o := .cells #[.slice A0_0 l0_0.length c0_0, .int .i64 a0_1] 34 (0, 0)) (by (with_reducible repeat (first | refine blk_drewN ?_ _ | refine blk_drew ?_ | refine blk_alloc ?_ _)); exact BK264.out) hb); have n2_ := Aside0.mk (below_step (by repeat (first | (with_reducible first | exact HB.out | apply below_alloc | apply pw_below_drewN | apply below_drew1 | refine below_set ?_ GE264.out) | exact HB.out)) hb); clear BK264; clear HB; have HO269 := n0_; have BK264 := n1_; have HB := n2_; clear n0_ n1_ n2_; (try clear hb); (try clear hb2); (try clear hk); (try clear hi); (try clear ho0); obtain ⟨Ao27, co27, eo27⟩ := Kd.R_slice HO269.out; subst eo27; have p270 : 0 ≤ (x5_1 : Int) := of_decide_eq_true (by first | (with_reducible assumption) | assumption); have q270 : x5_1 < (t267.length : Int) := of_decide_eq_true (by first | (with_reducible assumption) | assumption); obtain ⟨ad270, e270, hx270_0⟩ := Kd.at_bool (Kd.R_reads' HO269.out).2.2 x5_1 p270 q270; (try rw [← Nbq20.out] at hx270_0); cases e270; replace p270 := eq_true p270; replace q270 := eq_true q270))
                  go_roundg k1
                  case measure => have := HK1.out; omega
                  case rel => exact ⟨(wrap64 (x5_1 + 1)), (by first | rfl | (simp; done) | (simp [*]; done)), H', ⟨by have := HK1.out; omega⟩, ⟨by (with_reducible repeat (first | refine blk_drewN ?_ _ | refine blk_drew ?_ | refine blk_alloc ?_ _)); exact BK264.out⟩, ⟨by repeat (first | (with_reducible first | exact HB.out | apply below_alloc | apply pw_below_drewN | apply below_drew1 | refine below_set ?_ GE264.out) | exact HB.out)⟩⟩
              · rw [if_neg c19] at H
                exact absurd H (by simp)
            · rw [if_neg c18] at H
              exact absurd H (by simp)
          · rw [if_neg c16] at H
            have c16b0 : decide (x5_1 < (l0_0.length : Int)) = false := decide_eq_false c16
            clear c16
            replace H := Option.bind_eq_some_iff.mp H
            obtain ⟨t271, A280, H⟩ := H
            replace H : (dioramaref09_Check.l1 k1 t271 0 l0_0 a0_1) = some (r1, r2) := H
            have A28 := Aside0.mk A280
            clear A280
            have H' := Aside0.mk H
            clear H
            have hcz29_0 : wr.cell? ⟨gb264, 0, none⟩ = some (.slice A0_0 l0_0.length c0_0) := (blk_cell BK264.out 0).trans rfl
            have hcz29_1 : wr.cell? ⟨gb264, 1, none⟩ = some (.int .i64 a0_1) := (blk_cell BK264.out 1).trans rfl
            have hfz29_0 := blk_frozen BK264.out 0
            have hfz29_1 := blk_frozen BK264.out 1
            go_wp2_with (first | ((with_reducible refine gate_callee (f := 45) rfl ?_); refine goesL_ (some 35) rfl rfl Tryd.func45 (by kernel_rfl) rfl #[.agg #[.slice A0_0 l0_0.length c0_0, .int .i64 a0_1], .int .i64 a0_1] rfl (by (try simp only [List.map_toArray, List.map_cons, List.map_nil]); first | done | rfl | (simp only [List.length_drop, List.length_take]; rfl)) ?_; (with_reducible refine (dioramaref09_Led.calls k1 _ _ l0_0 a0_1 a0_1 t271 _ ?side1 ?side2 A28.out).mono ?_); (case side1 => repeat (first | exact (Kd.C_below HR0_0.out HB.out) | (with_reducible refine Kd.C_alloc ?_ _) | (with_reducible refine Kd.C_drewN ?_ _) | (with_reducible refine Kd.C_drew ?_))); (case side2 => exact HC0_0.out); rintro e w30 ⟨v272, rfl, ho0, hb⟩; refine ⟨_, rfl, ?_⟩; have n0_ := Aside0.mk (Kd.R_lower ho0 (below_size (by repeat (first | (with_reducible first | exact HB.out | apply below_alloc | apply pw_below_drewN | apply below_drew1 | refine below_set ?_ GE264.out) | exact HB.out)))); have n1_ := Aside0.mk (blk_below (g := gb264) (o := .cells #[.slice A0_0 l0_0.length c0_0, .int .i64 a0_1] 34 (0, 0)) (by (with_reducible repeat (first | refine blk_drewN ?_ _ | refine blk_drew ?_ | refine blk_alloc ?_ _)); exact BK264.out) hb); have n2_ := Aside0.mk (below_step (by repeat (first | (with_reducible first | exact HB.out | apply below_alloc | apply pw_below_drewN | apply below_drew1 | refine below_set ?_ GE264.out) | exact HB.out)) hb); clear BK264; clear HB; have HO273 := n0_; have BK264 := n1_; have HB := n2_; clear n0_ n1_ n2_; (try clear hb); (try clear hb2); (try clear hk); (try clear hi); (try clear ho0)))
            go_loopg [7] k1 (fun kq v7 w' => ∃ (x7_2 : Int), v7 = .int .i64 x7_2 ∧ Aside0 (dioramaref09_Check.l1 kq t271 x7_2 l0_0 a0_1 = some (r1, r2)) ∧ Aside0 (kq ≤ k1) ∧ Aside0 (Kd.R Kd.bool 4 w' w.heap.size (fun _ => True) v272 t271) ∧ Aside0 (w'.heap[gb264]? = some (.cells #[(.slice A0_0 l0_0.length c0_0), .int .i64 a0_1] 34 (0, 0))) ∧ Aside0 (Below w.heap.size w w'))
            case atStart => exact ⟨(0), (by first | rfl | (simp; done) | (simp [*]; done)), H', ⟨Nat.le_refl _⟩, ⟨by (with_reducible repeat (first | apply Kd.R_alloc | apply Kd.R_drewN | apply Kd.R_drew)); exact HO273.out⟩, ⟨by (with_reducible repeat (first | refine blk_drewN ?_ _ | refine blk_drew ?_ | refine blk_alloc ?_ _)); exact BK264.out⟩, ⟨by repeat (first | (with_reducible first | exact HB.out | apply below_alloc | apply pw_below_drewN | apply below_drew1 | refine below_set ?_ GE264.out) | exact HB.out)⟩⟩
            case round =>
              clear H'
              try clear c1
              try clear c2
              try clear p2
              try clear q2
              try clear hx2
              try clear c3
              try clear c4
              try clear c5
              try clear c5b0
              try clear p6
              try clear c16
              try clear c16b0
              try clear c18
              try clear c18b0
              try clear c19
              try clear c19b0
              try clear q20
              try clear c21
              try clear p27
              try clear q27
              try clear hx27
              try clear hcz12_0
              try clear hcz12_1
              try clear hcz14_0
              try clear hcz14_1
              try clear hcz22_0
              try clear hcz22_1
              try clear hcz25_0
              try clear hcz25_1
              try clear hcz29_0
              try clear hcz29_1
              try clear hcz7_0
              try clear hcz7_1
              try clear hcz9_0
              try clear hcz9_1
              try clear hfz12_0
              try clear hfz12_1
              try clear hfz14_0
              try clear hfz14_1
              try clear hfz22_0
              try clear hfz22_1
              try clear hfz25_0
              try clear hfz25_1
              try clear hfz29_0
              try clear hfz29_1
              try clear hfz7_0
              try clear hfz7_1
              try clear hfz9_0
              try clear hfz9_1
              try clear hx270_0
              try clear p2
              try clear p270
              try clear q270
              obtain ⟨x7_2, rfl, HA, HK2, HO_6, BK264, HB⟩ := hrel
              cases gk with
              | zero => exact absurd HA.out (by simp [dioramaref09_Check.l1])
              | succ k2 =>
                have H := HA.out
                clear HA
                simp only [dioramaref09_Check.l1] at H
                by_cases c31 : x7_2 < (l0_0.length : Int)
                · rw [if_pos c31] at H
                  have c31b0 : decide (x7_2 < (l0_0.length : Int)) = true := decide_eq_true c31
                  clear c31
                  by_cases c32 : x7_2 = a0_1
                  · rw [if_pos c32] at H
                    have c32b0 : (x7_2 == a0_1) = true := beq_iff_eq.mpr c32
                    have c32b1 : (x7_2 != a0_1) = false := bne_eq_false_iff_eq.mpr c32
                    clear c32
                    have H' := Aside0.mk H
                    clear H
                    have hcz33_0 : wr.cell? ⟨gb264, 0, none⟩ = some (.slice A0_0 l0_0.length c0_0) := (blk_cell BK264.out 0).trans rfl
                    have hcz33_1 : wr.cell? ⟨gb264, 1, none⟩ = some (.int .i64 a0_1) := (blk_cell BK264.out 1).trans rfl
                    have hfz33_0 := blk_frozen BK264.out 0
                    have hfz33_1 := blk_frozen BK264.out 1
                    go_wp2
                    go_roundg k2
                    case measure => have := HK1.out; have := HK2.out; omega
                    case rel => exact ⟨(wrap64 (x7_2 + 1)), (by first | rfl | (simp; done) | (simp [*]; done)), H', ⟨by have := HK1.out; have := HK2.out; omega⟩, ⟨by (with_reducible repeat (first | apply Kd.R_alloc | apply Kd.R_drewN | apply Kd.R_drew)); exact HO_6.out⟩, ⟨by (with_reducible repeat (first | refine blk_drewN ?_ _ | refine blk_drew ?_ | refine blk_alloc ?_ _)); exact BK264.out⟩, ⟨by repeat (first | (with_reducible first | exact HB.out | apply below_alloc | apply pw_below_drewN | apply below_drew1 | refine below_set ?_ GE264.out) | exact HB.out)⟩⟩
                  · rw [if_neg c32] at H
                    have c32b0 : (x7_2 == a0_1) = false := beq_eq_false_iff_ne.mpr c32
                    have c32b1 : (x7_2 != a0_1) = true := bne_iff_ne.mpr c32
                    by_cases c34 : 0 ≤ x7_2
                    · rw [if_pos c34] at H
                      have c34b0 : decide (0 ≤ x7_2) = true := decide_eq_true c34
                      clear c34
                      by_cases c35 : x7_2 < (t271.length : Int)
                      · rw [if_pos c35] at H
                        have c35b0 : decide (x7_2 < (t271.length : Int)) = true := decide_eq_true c35
                        clear c35
                        obtain ⟨bq36, hbq36⟩ : ∃ b_ : Bool, b_ = (rdOf false t271 x7_2) := ⟨_, rfl⟩
                        replace H : (if bq36 = true then (dioramaref09_Check.l1 k2 t271 (wrap64 (x7_2 + 1)) l0_0 a0_1) else (some (15, x7_2))) = some (r1, r2) := by rw [← hbq36] at H; exact H
                        have Nbq36 := Aside0.mk hbq36
                        clear hbq36
                        by_cases c37 : bq36 = true
                        · subst c37
                          have H1 : (dioramaref09_Check.l1 k2 t271 (wrap64 (x7_2 + 1)) l0_0 a0_1) = some (r1, r2) := by rw [if_pos rfl] at H; exact H
                          clear H
                          have H := H1
                          clear H1
                          have H' := Aside0.mk H
                          clear H
                          have hcz38_0 : wr.cell? ⟨gb264, 0, none⟩ = some (.slice A0_0 l0_0.length c0_0) := (blk_cell BK264.out 0).trans rfl
                          have hcz38_1 : wr.cell? ⟨gb264, 1, none⟩ = some (.int .i64 a0_1) := (blk_cell BK264.out 1).trans rfl
                          have hfz38_0 := blk_frozen BK264.out 0
                          have hfz38_1 := blk_frozen BK264.out 1
                          obtain ⟨Ao39, co39, eo39⟩ := Kd.R_slice HO_6.out
                          subst eo39
                          have p274 : 0 ≤ (x7_2 : Int) := of_decide_eq_true (by first | (with_reducible assumption) | assumption)
                          have q274 : x7_2 < (t271.length : Int) := of_decide_eq_true (by first | (with_reducible assumption) | assumption)
                          obtain ⟨ad274, e274, hx274_0⟩ := Kd.at_bool (Kd.R_reads' HO_6.out).2.2 x7_2 p274 q274
                          (try rw [← Nbq36.out] at hx274_0)
                          cases e274
                          replace p274 := eq_true p274
                          replace q274 := eq_true q274
                          go_wp2
                          go_roundg k2
                          case measure => have := HK1.out; have := HK2.out; omega
                          case rel => exact ⟨(wrap64 (x7_2 + 1)), (by first | rfl | (simp; done) | (simp [*]; done)), H', ⟨by have := HK1.out; have := HK2.out; omega⟩, ⟨by (with_reducible repeat (first | apply Kd.R_alloc | apply Kd.R_drewN | apply Kd.R_drew)); exact HO_6.out⟩, ⟨by (with_reducible repeat (first | refine blk_drewN ?_ _ | refine blk_drew ?_ | refine blk_alloc ?_ _)); exact BK264.out⟩, ⟨by repeat (first | (with_reducible first | exact HB.out | apply below_alloc | apply pw_below_drewN | apply below_drew1 | refine below_set ?_ GE264.out) | exact HB.out)⟩⟩
                        · replace c37 := Bool.eq_false_iff.mpr c37
                          subst c37
                          have H1 : (some (15, x7_2)) = some (r1, r2) := by rw [if_neg (show ¬ (false = true) by decide)] at H; exact H
                          clear H
                          have H := H1
                          clear H1
                          simp only [Option.some.injEq, Prod.mk.injEq] at H
                          obtain ⟨rfl, rfl⟩ := H
                          have hcz40_0 : wr.cell? ⟨gb264, 0, none⟩ = some (.slice A0_0 l0_0.length c0_0) := (blk_cell BK264.out 0).trans rfl
                          have hcz40_1 : wr.cell? ⟨gb264, 1, none⟩ = some (.int .i64 a0_1) := (blk_cell BK264.out 1).trans rfl
                          have hfz40_0 := blk_frozen BK264.out 0
                          have hfz40_1 := blk_frozen BK264.out 1
                          obtain ⟨Ao41, co41, eo41⟩ := Kd.R_slice HO_6.out
                          subst eo41
                          have p274 : 0 ≤ (x7_2 : Int) := of_decide_eq_true (by first | (with_reducible assumption) | assumption)
                          have q274 : x7_2 < (t271.length : Int) := of_decide_eq_true (by first | (with_reducible assumption) | assumption)
                          obtain ⟨ad274, e274, hx274_0⟩ := Kd.at_bool (Kd.R_reads' HO_6.out).2.2 x7_2 p274 q274
                          (try rw [← Nbq36.out] at hx274_0)
                          cases e274
                          replace p274 := eq_true p274
                          replace q274 := eq_true q274
                          go_wp2
                          go_ret2
                          exact ⟨by first | rfl | (simp [errW_none, errW_some] <;> rfl) | (simp [*, errW_none, errW_some] <;> rfl), by repeat (first | (with_reducible first | exact HB.out | apply below_alloc | apply pw_below_drewN | apply below_drew1 | refine below_set ?_ GE264.out) | exact HB.out)⟩
                      · rw [if_neg c35] at H
                        exact absurd H (by simp)
                    · rw [if_neg c34] at H
                      exact absurd H (by simp)
                · rw [if_neg c31] at H
                  have c31b0 : decide (x7_2 < (l0_0.length : Int)) = false := decide_eq_false c31
                  clear c31
                  simp only [Option.some.injEq, Prod.mk.injEq] at H
                  obtain ⟨rfl, rfl⟩ := H
                  have hcz42_0 : wr.cell? ⟨gb264, 0, none⟩ = some (.slice A0_0 l0_0.length c0_0) := (blk_cell BK264.out 0).trans rfl
                  have hcz42_1 : wr.cell? ⟨gb264, 1, none⟩ = some (.int .i64 a0_1) := (blk_cell BK264.out 1).trans rfl
                  have hfz42_0 := blk_frozen BK264.out 0
                  have hfz42_1 := blk_frozen BK264.out 1
                  go_wp2
                  go_ret2
                  exact ⟨by first | rfl | (simp [errW_none, errW_some] <;> rfl) | (simp [*, errW_none, errW_some] <;> rfl), by repeat (first | (with_reducible first | exact HB.out | apply below_alloc | apply pw_below_drewN | apply below_drew1 | refine below_set ?_ GE264.out) | exact HB.out)⟩
  · replace c3 := Bool.eq_false_iff.mpr c3
    subst c3
    have H1 : (some (13, (-1))) = some (r1, r2) := by rw [if_neg (show ¬ (false = true) by decide)] at H; exact H
    clear H
    have H := H1
    clear H1
    simp only [Option.some.injEq, Prod.mk.injEq] at H
    obtain ⟨rfl, rfl⟩ := H
    go_enter Tryd.func31, Tryd.ntmps31
    go_wp2_with (first | ((with_reducible refine gate_dst (N := 1) rfl ?_); refine box_event ?hg (N := 1) ?hd (cs := #[.slice A0_0 l0_0.length c0_0, .int .i64 a0_1]) (t := 34) ?hr ?_; (case hd => rfl); (case hg => rfl); (case hr => first | (go_simp; done) | (go_simp; rfl)); intro gb264 hg w43 hbox hb; have n0_ := Aside0.mk (below_step (by repeat (first | (with_reducible first | exact HB.out | apply below_alloc | apply pw_below_drewN | apply below_drew1) | exact HB.out)) hb); have n1_ := Aside0.mk (hbox); have n2_ := Aside0.mk ((by rw [hg]; exact (below_size (by repeat (first | (with_reducible first | exact HB.out | apply below_alloc | apply pw_below_drewN | apply below_drew1) | exact HB.out))) : w.heap.size ≤ gb264)); have n3_ := Aside0.mk ((by rw [hg]; exact (below_size (by repeat (first | (with_reducible first | exact HB.out | apply below_alloc | apply pw_below_drewN | apply below_drew1) | exact HB.out))) : w.heap.size ≤ gb264)); clear HB; have HB := n0_; have BK264 := n1_; have GW264 := n2_; have GE264 := n3_; clear n0_ n1_ n2_ n3_; clear hb hbox hg; have hcz44_0 : w43.cell? ⟨gb264, 0, none⟩ = some (.slice A0_0 l0_0.length c0_0) := (blk_cell BK264.out 0).trans rfl; have hcz44_1 : w43.cell? ⟨gb264, 1, none⟩ = some (.int .i64 a0_1) := (blk_cell BK264.out 1).trans rfl; have hfz44_0 := blk_frozen BK264.out 0; have hfz44_1 := blk_frozen BK264.out 1) | ((with_reducible refine gate_callee (f := 43) rfl ?_); refine goesL_ (some 11) rfl rfl Tryd.func43 (by kernel_rfl) rfl #[.agg #[.slice A0_0 l0_0.length c0_0, .int .i64 a0_1], .int .i64 a0_1] rfl (by (try simp only [List.map_toArray, List.map_cons, List.map_nil]); first | done | rfl | (simp only [List.length_drop, List.length_take]; rfl)) ?_; (with_reducible refine (dioramaref09_Place.calls _ _ l0_0 a0_1 a0_1 false _ ?side1 ?side2 A2.out).mono ?_); (case side1 => repeat (first | exact (Kd.C_below HR0_0.out HB.out) | (with_reducible refine Kd.C_alloc ?_ _) | (with_reducible refine Kd.C_drewN ?_ _) | (with_reducible refine Kd.C_drew ?_))); (case side2 => exact HC0_0.out); rintro e w45 ⟨rfl, hb⟩; refine ⟨_, rfl, ?_⟩; have n0_ := Aside0.mk (blk_below (g := gb264) (o := .cells #[.slice A0_0 l0_0.length c0_0, .int .i64 a0_1] 34 (0, 0)) (by (with_reducible repeat (first | refine blk_drewN ?_ _ | refine blk_drew ?_ | refine blk_alloc ?_ _)); exact BK264.out) hb); have n1_ := Aside0.mk (below_step (by repeat (first | (with_reducible first | exact HB.out | apply below_alloc | apply pw_below_drewN | apply below_drew1 | refine below_set ?_ GE264.out) | exact HB.out)) hb); clear BK264; clear HB; have BK264 := n0_; have HB := n1_; clear n0_ n1_; (try clear hb); (try clear hb2); (try clear hk); (try clear hi)))
    go_ret2
    exact ⟨by first | rfl | (simp [errW_none, errW_some] <;> rfl) | (simp [*, errW_none, errW_some] <;> rfl), by repeat (first | (with_reducible first | exact HB.out | apply below_alloc | apply pw_below_drewN | apply below_drew1 | refine below_set ?_ GE264.out) | exact HB.out)⟩

end Go.Proofs.YtdfneldenipljaaDoor.PClassNumbers
end
section
namespace Go.Proofs.YtdfneldenipljaaDoor.L
open Go.RowKit Go.ChangeShapes Go.WideShapes Go.Proofs.YtdfneldenipljaaDoorW.PrintWords Go.Proofs.YtdfneldenipljaaDoorW.PrintLast Go.Proofs.YtdfneldenipljaaDoorW.PrintMore
attribute [local go_sem] max2_int min2_int max_two min_two max_three min_three max_four min_four
open Go.Proofs.YtdfneldenipljaaDoor.PClassNumbers
structure KidB (f : Int → Int) (n : Node) (v1 v2 v3 : Value) (j g : Nat) (W0 W : World) : Prop where
  below : Below W0.heap.size W0 W
  gb : W0.heap.size ≤ g
  box : W.heap[g]? = some (.cells #[.int .i64 n.kind, v1, v2, v3] 52 (0, 0))
  r1 : (Kd.int .i64).R 2 W W0.heap.size (fun _ => True) v1 n.ints
  r2 : Kd.string.R 9 W W0.heap.size (fun _ => True) v2 n.texts
  r3 : (Kd.int .i64).R 3 W W0.heap.size (fun _ => True) v3 (mapTake f n.kids j)
theorem KidB.drewN {f : Int → Int} {n : Node} {v1 v2 v3 : Value} {j g : Nat} {W0 W : World} (h : KidB f n v1 v2 v3 j g W0 W) (m : Nat) : KidB f n v1 v2 v3 j g W0 (W.drewN m) :=
  ⟨pw_below_drewN h.below m, h.gb, h.box, Kd.R_drewN h.r1 m, Kd.R_drewN h.r2 m, Kd.R_drewN h.r3 m⟩
theorem KidB.set {f : Int → Int} {n : Node} {v1 v2 : Value} {g' g c m : Nat} {j : Nat} {W0 W : World} (h : KidB f n v1 v2 (.slice (some ⟨g, 0, none⟩) m c) j g' W0 W) (hj : j < n.kids.length) :
    W.cell? ⟨g, j, none⟩ = some (.int .i64 (rd n.kids (j : Int))) ∧ W.frozen? ⟨g, j, none⟩ = false ∧ g ≠ g' ∧ KidB f n v1 v2 (.slice (some ⟨g, 0, none⟩) m c) (j + 1) g' W0 (W.setCell ⟨g, j, none⟩ (.int .i64 (f (rd n.kids (j : Int))))) := by
  have hm := (Kd.R_reads' h.r3).1
  rw [mapTake_len] at hm
  obtain ⟨c1, c2⟩ := ints_cell h.r3 j (by omega)
  obtain ⟨s1, s2, s3⟩ := ints_store h.r3 j (by omega) (f (rd n.kids (j : Int)))
  rw [mapTake_rd f _ _ hj] at c1
  rw [mapTake_set f _ _ hj] at s1
  obtain ⟨cells, hc⟩ := Kd.R_typed h.r3 g rfl
  have hne : g ≠ g' := fun e => by
    rw [e, h.box] at hc
    cases hc
  refine ⟨c1, c2, hne, below_set h.below s3, h.gb, blk_grown h.box s2 (fun e => ?_), Kd.R_grown1 h.r1 rfl s2 (Kd.R_ne h.r1 hc (by decide)), Kd.R_grown1 h.r2 rfl s2 (Kd.R_ne h.r2 hc (by decide)), s1⟩
  injection e with e
  exact hne e.symm
theorem KidB.drew {f : Int → Int} {n : Node} {v1 v2 v3 : Value} {j g : Nat} {W0 W : World} (h : KidB f n v1 v2 v3 j g W0 W) : KidB f n v1 v2 v3 j g W0 W.drew := h.drewN 1
end Go.Proofs.YtdfneldenipljaaDoor.L
end
section
namespace Go.Proofs.YtdfneldenipljaaDoor.L
open Go.RowKit Go.ChangeShapes Go.WideShapes Go.Proofs.YtdfneldenipljaaDoorW.PrintWords Go.Proofs.YtdfneldenipljaaDoorW.PrintLast Go.Proofs.YtdfneldenipljaaDoorW.PrintMore
attribute [local go_sem] max2_int min2_int max_two min_two max_three min_three max_four min_four
abbrev Hd3 := Option Addr × Nat × Nat
def hdV (p : Hd3) : Value := .slice p.1 p.2.1 p.2.2
def kRaw : Kd Hd3 := Kd.scalar hdV (fun _ => rfl)
def hdZ : Hd3 := (none, 0, 0)
def hdA (L : List Hd3) (k : Nat) : Value := hdV (L.getD k hdZ)
theorem raw_cell {W : World} {base g n cap e : Nat} {ok : Nat → Prop} {xs : List Hd3} (h : kRaw.R e W base ok (.slice (some ⟨g, 0, none⟩) n cap) xs) (i : Nat) (hi : i < n) : W.cell? ⟨g, i, none⟩ = some (hdA xs i) ∧ W.frozen? ⟨g, i, none⟩ = false := by
  obtain ⟨c, hcl, hM, hcc, hfr⟩ := R_elemN h hdZ i hi
  obtain rfl : c = [hdA xs i] := hM
  have h1 := hcc 0 _ rfl
  have h2 := hfr 0
  exact ⟨by simpa [show kRaw.sz = 1 from rfl] using h1, by simpa [show kRaw.sz = 1 from rfl] using h2⟩
theorem raw_store {W : World} {base g n cap e : Nat} {ok : Nat → Prop} {xs : List Hd3} (h : kRaw.R e W base ok (.slice (some ⟨g, 0, none⟩) n cap) xs) (i : Nat) (hi : i < n) (p : Hd3) :
    kRaw.R e (W.setCell ⟨g, i, none⟩ (hdV p)) base ok (.slice (some ⟨g, 0, none⟩) n cap) (xs.set i p) ∧ W.grownBy (W.setCell ⟨g, i, none⟩ (hdV p)) (some g) ∧ base ≤ g := by
  obtain ⟨c, hcl, hM, hcc, hfr⟩ := R_elemN h hdZ i hi
  obtain ⟨hs, hg⟩ := R_segN h i hi (seg := [hdV p]) (j := 0) hcl hcc (Nat.le_refl 1) (x' := p) (okp := fun _ => False) (by simp [hcl, show kRaw.sz = 1 from rfl, List.drop_eq_nil_of_le]; rfl) (fun _ h => h.elim)
  have e' : W.setCells g (i * kRaw.sz + 0) [hdV p] = W.setCell ⟨g, i, none⟩ (hdV p) := by
    rw [show kRaw.sz = 1 from rfl, Nat.mul_one]; rfl
  rw [e'] at hs hg
  exact ⟨hs, hg, Kd.R_base h g (by simp [Value.ownBlock])⟩
theorem hdA_set (L : List Hd3) (i j : Nat) (p : Hd3) (h : i < L.length) : hdA (L.set i p) j = if j = i then hdV p else hdA L j := by
  unfold hdA
  rw [List.getD_eq_getElem?_getD, List.getD_eq_getElem?_getD, List.getElem?_set]
  by_cases e : j = i
  · subst e; rw [if_pos rfl, if_pos rfl, if_pos h]; rfl
  · rw [if_neg e, if_neg (fun h => e h.symm)]
structure UOut (w : World) (mb go n co : Nat) (vs : List (List UInt8)) (i : Nat) (O : List (List Int)) (L : List Hd3) (W : World) : Prop where
  map : MapN Tryd.prog 9 W mb vs.length (numF vs)
  raw : kRaw.R 31 W w.heap.size (fun _ => True) (.slice (some ⟨go, 0, none⟩) n co) L
  len : L.length = n
  fin : ∀ k : Nat, k < i → (Kd.int .i64).R 3 W w.heap.size (fun _ => True) (hdA L k) (O.getD k [])
  nil : ∀ k : Nat, i ≤ k → hdA L k = .slice none 0 0
  below : Below w.heap.size w W
  ge : w.heap.size ≤ mb
structure UIn (w Wg : World) (mb go n co : Nat) (vs : List (List UInt8)) (i : Nat) (O : List (List Int)) (own : List Int) (L : List Hd3) (W : World) : Prop where
  map : MapN Tryd.prog 9 W mb vs.length (numF vs)
  raw : kRaw.R 31 W w.heap.size (fun _ => True) (.slice (some ⟨go, 0, none⟩) n co) L
  len : L.length = n
  fin : ∀ k : Nat, k < i → (Kd.int .i64).R 3 W w.heap.size (fun q => q < Wg.heap.size) (hdA L k) (O.getD k [])
  cur : (Kd.int .i64).R 3 W w.heap.size (fun q => Wg.heap.size ≤ q) (hdA L i) own
  nil : ∀ k : Nat, i < k → hdA L k = .slice none 0 0
  below : Below w.heap.size w W
  wge : Wg.heap.size ≤ W.heap.size
  ge : w.heap.size ≤ mb
section
variable {w Wg W W1 : World} {mb go n co i : Nat} {vs : List (List UInt8)} {O : List (List Int)} {own : List Int} {L : List Hd3}
theorem UOut.later (h : UOut w mb go n co vs i O L W) (hb : Below W.heap.size W W1) : UOut w mb go n co vs i O L W1 :=
  ⟨h.map.below hb, Kd.R_below h.raw hb, h.len, fun k hk => Kd.R_below (h.fin k hk) hb, h.nil, below_step h.below hb, h.ge⟩
theorem UIn.later (h : UIn w Wg mb go n co vs i O own L W) (hb : Below W.heap.size W W1) : UIn w Wg mb go n co vs i O own L W1 :=
  ⟨h.map.below hb, Kd.R_below h.raw hb, h.len, fun k hk => Kd.R_below (h.fin k hk) hb, Kd.R_below h.cur hb, h.nil, below_step h.below hb, Nat.le_trans h.wge hb.size, h.ge⟩
theorem UOut.enter (h : UOut w mb go n co vs i O L W) : UIn w W mb go n co vs i O [] L W :=
  ⟨h.map, h.raw, h.len, fun k hk => Kd.R_mono (Kd.R_bound (h.fin k hk)) (fun q hq => hq.2.2.1), by rw [h.nil i (Nat.le_refl _)]; exact Kd.R_nil _ _ _ _ _, fun k hk => h.nil k (Nat.le_of_lt hk), h.below, Nat.le_refl _, h.ge⟩
theorem UIn.leave (h : UIn w Wg mb go n co vs i O own L W) (ho : O.getD i [] = own) : UOut w mb go n co vs (i + 1) O L W :=
  ⟨h.map, h.raw, h.len, fun k hk => by
    by_cases e : k = i
    · subst e; rw [ho]; exact Kd.R_mono h.cur (fun _ _ => trivial)
    · exact Kd.R_mono (h.fin k (by omega)) (fun _ _ => trivial), fun k hk => h.nil k (by omega), h.below, h.ge⟩
theorem UIn.header (h : UIn w Wg mb go n co vs i O own L W) (hi : i < n) : ∃ A c, hdA L i = .slice A own.length c ∧ W.cell? ⟨go, i, none⟩ = some (.slice A own.length c) ∧ W.frozen? ⟨go, i, none⟩ = false ∧ (Kd.int .i64).C W A own.length own ∧ own.length ≤ c := by
  obtain ⟨A, c, e⟩ := Kd.R_slice h.cur
  have h1 := raw_cell h.raw i hi
  have h2 := h.cur
  rw [e] at h1 h2
  exact ⟨A, c, e, h1.1, h1.2, (Kd.R_reads' h2).2.2, (Kd.R_reads' h2).2.1⟩
theorem UIn.put {x : List UInt8} {W2 : World} (h : UIn w Wg mb go n co vs i O own L W) (hx : ¬ x ∈ vs) (hM : MapN Tryd.prog 9 W2 mb (vs.length + 1) (putF (numF vs) (.string x) (.int .i64 (vs.length : Int)))) (hg : W.grownBy W2 (some mb)) : UIn w Wg mb go n co (vs ++ [x]) i O own L W2 := by
  rw [numF_put hx] at hM
  exact ⟨by rw [List.length_append]; exact hM, R_past_map h.raw h.map.toF hg, h.len, fun k hk => R_past_map (h.fin k hk) h.map.toF hg, R_past_map h.cur h.map.toF hg, h.nil, below_map h.below h.below.size hg h.ge, Nat.le_trans h.wge hg.size, h.ge⟩
theorem UIn.push {x : Int} {A7 : Option Addr} {m7 c7 : Nat} {W2 : World} (h : UIn w Wg mb go n co vs i O own L W) (hi : i < n) (hR : (Kd.int .i64).R 3 W2 w.heap.size (fun q => Wg.heap.size ≤ q) (.slice A7 m7 c7) (own ++ [x])) (hB : Below w.heap.size w W2) (hg : W.grownBy W2 (hdA L i).ownBlock) :
    ((∃ y, W2.cell? ⟨go, i, none⟩ = some y) ∧ W2.frozen? ⟨go, i, none⟩ = false) ∧ UIn w Wg mb go n co vs i O (own ++ [x]) (L.set i (A7, m7, c7)) (W2.setCell ⟨go, i, none⟩ (.slice A7 m7 c7)) := by
  obtain ⟨cells, hc⟩ := Kd.R_typed h.raw go rfl
  have hraw := Kd.R_grown1 (d := kRaw) h.raw rfl hg (fun e => Kd.R_ne h.cur hc (by decide) e.symm)
  have h1 := raw_cell hraw i hi
  obtain ⟨s1, s2, s3⟩ := raw_store hraw i hi (A7, m7, c7)
  obtain ⟨cells2, hc2⟩ := Kd.R_typed hraw go rfl
  have hLi : i < L.length := by rw [h.len]; exact hi
  have hmk := (h.map.kept hg (h.map.toF.ne_row h.cur))
  refine ⟨⟨⟨_, h1.1⟩, h1.2⟩, ⟨hmk.kept s2 (hmk.toF.ne_row hraw), s1, by rw [List.length_set]; exact h.len, fun k hk => ?_, ?_, fun k hk => ?_, below_set hB s3, ?_, h.ge⟩⟩
  · rw [hdA_set _ _ _ _ hLi, if_neg (by omega)]
    refine R_type (Kd.R_grown (h.fin k hk) hg (fun q hq e => ?_)) hc2 (by decide) _ i
    have := h.cur.1 q e.symm
    omega
  · rw [hdA_set _ _ _ _ hLi, if_pos rfl]
    exact R_type hR hc2 (by decide) _ i
  · rw [hdA_set _ _ _ _ hLi, if_neg (by omega)]
    exact h.nil k hk
  · have := hg.size
    have := h.wge
    simp
    omega
theorem UOut.rows (h : UOut w mb go n co vs n O L W) (hn : 0 < n) (hO : O.length = n) : kInts.C W (some ⟨go, 0, none⟩) n O := by
  have h1 := (Kd.R_reads' h.raw).2.2
  have h2 := h1.2.1
  refine ⟨hO, by have := h.len; omega, fun _ => ⟨_, rfl, fun j p hj => ?_⟩⟩
  have hjn : j < n := by
    have := (List.getElem?_eq_some_iff.1 hj).1
    omega
  obtain ⟨A, c, e⟩ := Kd.R_slice (h.fin j hjn)
  have hf := h.fin j hjn
  have hp : O.getD j [] = p := by
    rw [List.getD_eq_getElem?_getD, hj]; rfl
  rw [hp] at hf e
  have hc := (raw_cell h.raw j hjn).1
  rw [e] at hc hf
  have hr := Kd.R_reads' hf
  refine ⟨[.slice A p.length c], rfl, ⟨A, c, rfl, hr.2.1, hr.2.2⟩, fun q u hu => ?_⟩
  cases q with
  | zero =>
    injection hu with hu
    subst hu
    have e2 : (⟨go, 0, none⟩ : Addr).add (j * kInts.sz + 0) = ⟨go, j, none⟩ := by
      rw [show kInts.sz = 1 from rfl]
      cases j <;> simp [Addr.add]
    rw [e2]; exact hc
  | succ q => simp at hu
end
end Go.Proofs.YtdfneldenipljaaDoor.L
end
section
namespace Go.Proofs.YtdfneldenipljaaDoor.L
open Go.RowKit Go.ChangeShapes Go.WideShapes Go.Proofs.YtdfneldenipljaaDoorW.PrintWords Go.Proofs.YtdfneldenipljaaDoorW.PrintLast Go.Proofs.YtdfneldenipljaaDoorW.PrintMore
attribute [local go_sem] max2_int min2_int max_two min_two max_three min_three max_four min_four
theorem info_rows : (Tryd.prog.info? 31).map (fun i => (i.zero, i.size, i.bytes)) = some (some (.slice none 0 0), 1, 24) := by kernel_rfl
set_option maxRecDepth 100000 in
set_option maxHeartbeats 8000000 in
theorem classes_any (T : Lib.PrintTabs) (A : Option Addr) (c : Nat) (l : List Scene) (w : World) (h : kScene.C w A l.length l) (hB : ∀ i : Nat, i < l.length → ScBd (sc l i)) (hA : ∀ i : Nat, i < l.length → AheadN (sc l i).nodes) (hn : l.length ≤ 1000) (h0 : 0 < l.length) (hT : QTabs T w) :
    Calls Tryd.prog 42 #[.slice A l.length c] w fun e w' => ∃ A' c', e = .returned (.slice A' l.length c') ∧ l.length ≤ c' ∧ kInts.C w' A' l.length (allS T l).2 ∧ Below w.heap.size w w' := by
  have HR := Aside0.mk h
  have HBd := Aside0.mk hB
  have HA := Aside0.mk hA
  have HT := Aside0.mk hT
  have b0 := h.2.1
  have hus := Tryd.underlying34
  have hun := Tryd.underlying52
  have hmm := @run_makeMap Tryd.prog
  have HOl := Aside0.mk (all_len T l.length l rfl)
  have HMap0 := Aside0.mk (show MapN Tryd.prog 9 (w.alloc (.map #[] 0)) w.heap.size 0 (numF []) from by rw [numF_nil]; exact MapN.made Tryd.prog 9 w)
  have HB0 := Aside0.mk (below_alloc (Below.refl w.heap.size w) (.map #[] 0))
  clear h hB hA hT
  go_enter Tryd.func42, Tryd.ntmps42
  go_wp2_with (first
    | (refine Kd.R_make kRaw (w0 := w) w.heap.size 31 rfl (N := 17) rfl 25 _ _ rfl (l.length : Int) rfl rfl Tryd.underlying25 (.slice none 0 0) 24 info_rows rfl (by decide) (by omega) hdZ (ok := fun _ => True) (okp := fun _ => True) rfl (fun _ hk => hk) trivial (by omega) (by omega) HB0.out HB0.out.size ?_; intro v2 w2 ho2 hb2 hg2 hn2; rw [Int.toNat_natCast] at ho2; obtain ⟨go, co, hv2, -, hgo, -⟩ := Kd.R_form ho2 (by rw [List.length_replicate]; exact h0); rw [List.length_replicate] at hv2; subst hv2; have HO := Aside0.mk ho2; have HB2 := Aside0.mk hb2; have HM2 := Aside0.mk (HMap0.out.kept hg2 (by simp)); clear ho2 hb2 hg2 hn2))
  clear hmm
  have HOl2 : ∀ k : Nat, hdA (List.replicate l.length hdZ) k = .slice none 0 0 := fun k => by
    unfold hdA
    rw [List.getD_eq_getElem?_getD, List.getElem?_replicate]
    split <;> rfl
  have HU0 : Aside0 (UOut w w.heap.size go l.length co (allS T (l.take 0)).1 0 (allS T l).2 (List.replicate l.length hdZ) w2) :=
    ⟨by rw [List.take_zero]; exact HM2.out, HO.out, by rw [List.length_replicate], fun k hk => by omega, fun k _ => HOl2 k, HB2.out, Nat.le_refl _⟩
  clear HO HB2 HM2 HB0 HMap0 HOl2
  generalize hmb : w.heap.size = mb at HU0 ⊢
  have HMb := Aside0.mk hmb
  clear hmb hgo
  go_loopw [20] (fun v20 W => ∃ (i : Nat) (L : List Hd3), i ≤ l.length ∧ v20 = .int .i64 i ∧ Aside0 (UOut w mb go l.length co (allS T (l.take i)).1 i (allS T l).2 L W)) (fun v20 _ => l.length - (intOf v20).toNat)
  case atStart => exact ⟨0, _, by omega, rfl, HU0⟩
  case round =>
    clear HU0
    obtain ⟨i, L, hi, rfl, HO⟩ := hrel
    by_cases hlt : i < l.length
    · obtain ⟨ad, B, d, rfl, x0, x1, hd, hS⟩ := at_scene HR.out i hlt
      replace x0 := pw_cell_below HO.out.below x0
      replace x1 := pw_cell_below HO.out.below x1
      have HS := Aside0.mk hS
      have HSb := Aside0.mk (HBd.out i hlt)
      have HAh := Aside0.mk (HA.out i hlt)
      have HVs := Aside0.mk (all_vs_len T i (l.take i) (by rw [List.length_take]; omega) (fun s hs => by
        obtain ⟨k, hk, rfl⟩ := List.getElem_of_mem hs
        have hk' : k < l.length := by rw [List.length_take] at hk; omega
        have h1 := (HBd.out k hk').2
        have e : sc l k = (l.take i)[k] := by rw [List.getElem_take]; unfold sc; rw [getD_eq _ hk']
        rw [← e]
        exact Nat.le_trans (len_rows _) h1))
      have HAll := Aside0.mk (show allS T (l.take (i + 1)) = ((ownS T (allS T (l.take i)).1 (sc l i).nodes).1, (allS T (l.take i)).2 ++ [(ownS T (allS T (l.take i)).1 (sc l i).nodes).2]) from by rw [take_sc hlt, all_snoc])
      have HOi := Aside0.mk (out_at T l.length l rfl i hlt)
      have hnl : (sc l i).nodes.length ≤ 400000 := Nat.le_trans (len_rows _) HSb.out.2
      have HIl := Aside0.mk hlt
      clear hS
      generalize sc l i = s at x0 x1 hd HS HSb HAh HAll HOi hnl
      generalize (allS T (l.take i)).1 = vs at HO HVs HAll HOi
      have hA := below_alloc (Below.refl wr.heap.size wr) (.cells #[.slice B s.nodes.length d, .int .i64 s.root] 34)
      have q0 := box_cell wr _ rfl #[.slice B s.nodes.length d, .int .i64 s.root] 34 0 (.slice B s.nodes.length d) rfl
      have HO1 := Aside0.mk (HO.out.later hA)
      clear hA HO
      go_wp2
      clear x0 x1 q0
      generalize wr.alloc (.cells #[.slice B s.nodes.length d, .int .i64 s.root] 34) = wg at HO1 ⊢
      have HI0 : Aside0 (UIn w wg mb go l.length co (ownS T vs (s.nodes.take 0)).1 i (allS T l).2 (ownS T vs (s.nodes.take 0)).2 L wg) := ⟨by rw [List.take_zero]; exact HO1.out.enter⟩
      clear HO1
      go_loopw [28] (fun v28 W => ∃ (j : Nat) (L : List Hd3), j ≤ s.nodes.length ∧ v28 = .int .i64 j ∧ Aside0 (UIn w wg mb go l.length co (ownS T vs (s.nodes.take j)).1 i (allS T l).2 (ownS T vs (s.nodes.take j)).2 L W)) (fun v28 _ => s.nodes.length - (intOf v28).toNat)
      case atStart => exact ⟨0, _, by omega, rfl, HI0⟩
      case round =>
        clear HI0
        obtain ⟨j, L, hj, rfl, HI⟩ := hrel
        by_cases hjl : j < s.nodes.length
        · obtain ⟨an, A1, c1, A2, c2, A3, c3, rfl, y0, y1, y2, y3, hN⟩ := at_node HS.out j hjl
          replace y0 := pw_cell_below HI.out.below y0
          replace y1 := pw_cell_below HI.out.below y1
          replace y2 := pw_cell_below HI.out.below y2
          replace y3 := pw_cell_below HI.out.below y3
          have HN := Aside0.mk hN
          have HNb := Aside0.mk (HSb.out.1 j hjl)
          have HTk2 := Aside0.mk (show ownS T vs (s.nodes.take (j + 1)) = numStep T (ownS T vs (s.nodes.take j)) (nd s.nodes j) from by rw [take_nd' hjl, own_snoc])
          have HLn := Aside0.mk (show (ownS T vs (s.nodes.take j)).2.length = j from own_len T vs j (s.nodes.take j) (by rw [List.length_take]; omega))
          have HVl := Aside0.mk (show (ownS T vs (s.nodes.take j)).1.length ≤ vs.length + j from own_vs_len T vs j (s.nodes.take j) (by rw [List.length_take]; omega))
          have HVv := Aside0.mk (own_vals T vs (s.nodes.take j))
          have HKd := Aside0.mk (HAh.out j hjl)
          have HIb := Aside0.mk (show i < 1000000 ∧ j < s.nodes.length from ⟨by omega, hjl⟩)
          generalize ownS T vs (s.nodes.take j) = st at HI HTk2 HLn HVl HVv
          obtain ⟨us, own⟩ := st
          have HI : Aside0 (UIn w wg mb go l.length co us i (allS T l).2 own L wr) := HI
          have HLn : Aside0 (own.length = j) := HLn
          have HVl : Aside0 (us.length ≤ vs.length + j) := HVl
          have HVv : Aside0 (∀ x ∈ own, 0 ≤ x ∧ x ≤ (us.length : Int)) := HVv
          have HUb := Aside0.mk (show us.length ≤ 1000000000000 from by
            have h1 := HVl.out
            have h2 := HVs.out
            have h3 := HIb.out
            have h4 : i * 400000 ≤ 1000000 * 400000 := Nat.mul_le_mul_right _ (by omega)
            omega)
          have HVi := Aside0.mk (show ∀ x ∈ own, I64 x from fun x hx => by
            have h1 := HVv.out x hx
            have h2 := HUb.out
            exact ⟨by omega, by omega⟩)
          have HKk := Aside0.mk (show ∀ k ∈ (nd s.nodes j).kids, 0 ≤ k ∧ k < (own.length : Int) from fun k hk => by
            have := HKd.out k hk
            have := HLn.out
            omega)
          have HTk3 := Aside0.mk (show numStep T (us, own) (nd s.nodes j) = (addW us (nodeW T (nd s.nodes j) own), own ++ [((addW us (nodeW T (nd s.nodes j) own)).idxOf (nodeW T (nd s.nodes j) own) : Int)]) from rfl)
          generalize hnn : nd s.nodes j = n at y0 y1 y2 y3 HN HNb HTk2 HKk HTk3
          clear hnn hN HKd
          have hA := below_alloc (Below.refl wr.heap.size wr) (.cells #[.int .i64 n.kind, .slice A1 n.ints.length c1, .slice A2 n.texts.length c2, .slice A3 n.kids.length c3] 52)
          have z0 := box_cell wr _ rfl #[.int .i64 n.kind, .slice A1 n.ints.length c1, .slice A2 n.texts.length c2, .slice A3 n.kids.length c3] 52 0 (.int .i64 n.kind) rfl
          have z1 := box_cell wr _ rfl #[.int .i64 n.kind, .slice A1 n.ints.length c1, .slice A2 n.texts.length c2, .slice A3 n.kids.length c3] 52 1 (.slice A1 n.ints.length c1) rfl
          have z2 := box_cell wr _ rfl #[.int .i64 n.kind, .slice A1 n.ints.length c1, .slice A2 n.texts.length c2, .slice A3 n.kids.length c3] 52 2 (.slice A2 n.texts.length c2) rfl
          have z3 := box_cell wr _ rfl #[.int .i64 n.kind, .slice A1 n.ints.length c1, .slice A2 n.texts.length c2, .slice A3 n.kids.length c3] 52 3 (.slice A3 n.kids.length c3) rfl
          have HJ := Aside0.mk (HI.out.later hA)
          clear hA HI
          go_wp2_with fail
          generalize wr.alloc (.cells #[.int .i64 n.kind, .slice A1 n.ints.length c1, .slice A2 n.texts.length c2, .slice A3 n.kids.length c3] 52) = w4 at HJ z0 z1 z2 z3 ⊢
          refine (copy_any n A1 c1 A2 c2 A3 c3 w4 (HN.out.below HJ.out.below) HNb.out.1).mono ?_
          rintro e w5 ⟨_, rfl, ⟨v1, v2, v3, rfl, hM⟩, hB5⟩
          obtain ⟨v1', v2', v3', ev, hR1, hR2, hR3⟩ := kNode_openM hM
          injection ev with _ ev
          injection ev with f1 ev
          injection ev with f2 ev
          injection ev with f3 _
          subst f1 f2 f3
          obtain ⟨B1, d1, rfl⟩ := Kd.R_slice hR1
          obtain ⟨B2, d2, rfl⟩ := Kd.R_slice hR2
          obtain ⟨B3, d3, rfl⟩ := Kd.R_slice hR3
          have HK : Aside0 (KidB (rd own) n (.slice B1 n.ints.length d1) (.slice B2 n.texts.length d2) (.slice B3 n.kids.length d3) 0 w5.heap.size w4 (w5.alloc (.cells #[.int .i64 n.kind, .slice B1 n.ints.length d1, .slice B2 n.texts.length d2, .slice B3 n.kids.length d3] 52))) := ⟨⟨below_step hB5 (below_alloc (Below.refl _ _) _), hB5.size, by simpa using heap_alloc_new w5 _, Kd.R_alloc hR1 _, Kd.R_alloc hR2 _, by rw [mapTake_zero]; exact Kd.R_alloc hR3 _⟩⟩
          have x3 := box_cell w5 _ rfl #[.int .i64 n.kind, .slice B1 n.ints.length d1, .slice B2 n.texts.length d2, .slice B3 n.kids.length d3] 52 3 (.slice B3 n.kids.length d3) rfl
          have hkl : n.kids.length ≤ 1000000 := HNb.out.1.2.2
          clear hM hR1 hR2 hR3 hB5 z0 z1 z2 z3 y0 y1 y2 y3
          go_wp2
          generalize (w5.alloc (.cells #[.int .i64 n.kind, .slice B1 n.ints.length d1, .slice B2 n.texts.length d2, .slice B3 n.kids.length d3] 52)) = W7 at HK ⊢
          generalize w5.heap.size = g6 at HK ⊢
          clear x3
          go_loopw [37] (fun v37 W => ∃ m : Nat, m ≤ n.kids.length ∧ v37 = .int .i64 m ∧ Aside0 (KidB (rd own) n (.slice B1 n.ints.length d1) (.slice B2 n.texts.length d2) (.slice B3 n.kids.length d3) m g6 w4 W)) (fun v37 _ => n.kids.length - (intOf v37).toNat)
          case atStart => exact ⟨0, by omega, rfl, HK⟩
          case round =>
            clear HK
            obtain ⟨m, hm, rfl, HKm⟩ := hrel
            by_cases hml : m < n.kids.length
            · have hq3 : wr.cell? ⟨g6, 3, none⟩ = some (.slice B3 n.kids.length d3) := (blk_cell HKm.out.box 3).trans rfl
              obtain ⟨g7, c7', hv, -⟩ := Kd.R_form HKm.out.r3 (by rw [mapTake_len]; omega)
              injection hv with hA hmm hcc
              clear hmm
              subst hA hcc
              have hkk := HKk.out _ (rd_mem hml)
              obtain ⟨k, hk⟩ : ∃ k : Nat, rd n.kids (m : Int) = (k : Int) := ⟨_, (Int.toNat_of_nonneg hkk.1).symm⟩
              obtain ⟨s1, s2, s3, hs4⟩ := HKm.out.set hml
              obtain ⟨Ah, ch, -, p0, -, hCo, -⟩ := (HJ.out.later HKm.out.below).header HIl.out
              obtain ⟨av, rfl, r1⟩ := at_nat hCo k (by omega)
              rw [hk] at s1 hs4 hkk
              have hko : (k : Int) < (own.length : Int) := hkk.2
              have hjn : (m : Int) < (n.kids.length : Int) := by omega
              have hil : (i : Int) < (l.length : Int) := by omega
              have HS4 := Aside0.mk hs4
              clear hk hkk hs4 hCo
              go_wp2
              go_region
              have HS5 := Aside0.mk HS4.out.drew
              clear HS4 s1 s2 s3 r1 p0 hq3
              go_wp2
              go_roundw
              case rel => exact ⟨m + 1, by omega, by go_num, HS5⟩
              case measure => simp [intOf]; omega
            · obtain rfl : m = n.kids.length := by omega
              have HU := Aside0.mk (HJ.out.later HKm.out.below)
              have q0 := (blk_cell HKm.out.box 0).trans rfl
              have q1 := (blk_cell HKm.out.box 1).trans rfl
              have q2 := (blk_cell HKm.out.box 2).trans rfl
              have q3 := (blk_cell HKm.out.box 3).trans rfl
              have r1 := Kd.R_reads' HKm.out.r1
              have r2 := Kd.R_reads' HKm.out.r2
              have r3 := Kd.R_reads' (by have h := HKm.out.r3; rw [mapTake_all] at h; exact h : (Kd.int .i64).R 3 wr w4.heap.size (fun _ => True) (.slice B3 n.kids.length d3) (n.kids.map (rd own)))
              have hml3 : (n.kids.map (rd own)).length = n.kids.length := List.length_map ..
              have HN7 := Aside0.mk (show NodeC wr ⟨n.kind, n.ints, n.texts, n.kids.map (rd own)⟩ B1 d1 B2 d2 B3 d3 from ⟨r1.2.1, r2.2.1, by show (n.kids.map (rd own)).length ≤ d3; rw [hml3]; exact r3.2.1, r1.2.2, r2.2.2, r3.2.2⟩)
              have HWd := Aside0.mk (show wordL T n.kind n.ints n.texts (n.kids.map (rd own)) = nodeW T n own from rfl)
              have hcall := uword_any T ⟨n.kind, n.ints, n.texts, n.kids.map (rd own)⟩ B1 d1 B2 d2 B3 d3 wr HN7.out ⟨HNb.out.1.1, HNb.out.1.2.1, by show (n.kids.map (rd own)).length ≤ _; rw [hml3]; exact HNb.out.1.2.2⟩ HNb.out.2.1 ⟨HNb.out.2.2.kind, HNb.out.2.2.ints⟩ (fun k hk => by
                obtain ⟨q, hq, rfl⟩ := List.mem_map.1 hk
                have h1 := HKk.out q hq
                obtain ⟨p, rfl⟩ : ∃ p : Nat, q = (p : Int) := ⟨q.toNat, by omega⟩
                exact HVi.out _ (rd_mem (by omega))) (HT.out.below HU.out.below)
              have hcall : Calls Tryd.prog 59 #[.agg #[.int .i64 n.kind, .slice B1 n.ints.length d1, .slice B2 n.texts.length d2, .slice B3 (n.kids.map (rd own)).length d3]] wr fun e w' => e = .returned (.string ⟨(wordL T n.kind n.ints n.texts (n.kids.map (rd own))).toArray⟩) ∧ Below wr.heap.size wr w' := hcall
              rw [hml3, HWd.out] at hcall
              have HCall := Aside0.mk hcall
              clear hcall r1 r2 r3 hml3 HN7 HWd hml hm
              go_wp2_with fail
              refine HCall.out.mono ?_
              rintro e w8 ⟨rfl, hB8⟩
              have HV := Aside0.mk (HU.out.later hB8)
              clear hB8 HU HCall q0 q1 q2 q3
              have HWl := Aside0.mk (keyW_of (nodeW_len T HNb.out.1 HNb.out.2.1 HNb.out.2.2 HKk.out HVi.out))
              generalize nodeW T n own = x at HTk3 HWl ⊢
              by_cases hin : x ∈ us
              · have HVx := Aside0.mk (numF_in hin (.int .i64 0))
                have ha : addW us x = us := by unfold addW; rw [if_pos hin]
                rw [ha] at HTk3
                generalize us.idxOf x = ix at HTk3 HVx
                have HVd := Aside0.mk (HV.out.later (pw_below_drewN (Below.refl _ _) 1))
                have hlk := MapF.run_lookup w8.drew 53 HVd.out.map.toF keyW Tryd.underlying53 (zeroIW _) HWl.out
                rw [HVx.out.1] at hlk
                obtain ⟨Ah, ch, eh, p0, p0f, hCo, hlc⟩ := HVd.out.header HIl.out
                go_wp2_with (first
                  | (at_lookup; refine wpList_lookup_F_ok _ rfl (.tmp 59) (.tmp 60) 53 rfl 9 3 keyW Tryd.underlying53 (zeroIW _) mb us.length (numF us) rfl HV.out.map.toF (.string ⟨x.toArray⟩) (.string x) rfl HWl.out (.int .i64 (ix : Int)) HVx.out.1 true HVx.out.2 ?_))
                have p1 := pw_cell_below (below_alloc (Below.refl _ _) (.cells #[.int .i64 (ix : Int)] 3)) p0
                have p0w : w8.cell? ⟨go, i, none⟩ = some (.slice Ah own.length ch) := p0
                have p1w := pw_cell_below (below_alloc (Below.refl _ _) (.cells #[.int .i64 (ix : Int)] 3)) p0w
                have hil : (i : Int) < (l.length : Int) := by have := HIl.out; omega
                have HCr := Aside0.mk HVd.out.cur
                rw [eh] at HCr
                have hl9 : (own ++ [(ix : Int)]).length = own.length + 1 := by simp
                have hown : own.length ≤ 400000 := by have := HLn.out; omega
                clear p0f hCo
                go_region_law (first
                  | (refine Kd.R_append_step (Kd.int .i64) (W := w8.drew) (w0 := w) w.heap.size (by rfl) (.tmp 75) (.tmp 79) 31 3 (.int .i64 0) 8 rfl Tryd.underlying31 info_int rfl (by decide) (by omega) (.slice Ah own.length ch) own (ix : Int) [.int .i64 (ix : Int)] (fun q => wg.heap.size ≤ q) (fun _ => False) rfl rfl rfl (fun _ h => h.elim) (fun k hk => Nat.le_trans HVd.out.wge hk) HCr.out HVd.out.below HVd.out.below.size (by omega) ?_; intro v9 w9 hR9 hB9 hg9 _; obtain ⟨A9, c9, rfl⟩ := Kd.R_slice hR9; rw [hl9] at hR9 ⊢; rw [← eh] at hg9; obtain ⟨⟨⟨y, f0⟩, f0f⟩, hp9⟩ := HVd.out.push HIl.out hR9 hB9 hg9; have HP9 := Aside0.mk hp9; clear hR9 hB9 hg9 hp9))
                all_goals
                  clear p0 p1 p0w p1w hlk f0 f0f
                  go_wp2
                  go_roundw
                  case rel => exact ⟨j + 1, _, by omega, by go_num, by rw [HTk2.out, HTk3.out]; exact HP9⟩
                  case measure => simp [intOf]; omega
              · have HVx := Aside0.mk (numF_out hin (.int .i64 0))
                have HIn := Aside0.mk hin
                have ha : addW us x = us ++ [x] := by unfold addW; rw [if_neg hin]
                have HV2 := Aside0.mk (numF_in (vs := us ++ [x]) (x := x) (by simp) (.int .i64 0))
                rw [ha] at HTk3
                have hul : us.length < maxLen := by have := HUb.out; unfold maxLen; omega
                clear hin ha
                generalize hix : (us ++ [x]).idxOf x = ix at HTk3 HV2
                clear hix
                go_wp2_with (first
                  | (at_lookup; refine wpList_lookup_F_ok _ rfl (.tmp 59) (.tmp 60) 53 rfl 9 3 keyW Tryd.underlying53 (zeroIW _) mb us.length (numF us) rfl HV.out.map.toF (.string ⟨x.toArray⟩) (.string x) rfl HWl.out (.int .i64 0) HVx.out.1 false HVx.out.2.1 ?_)
                  | (at_len; refine wpList_len_N _ rfl (.tmp 68) 53 rfl 9 3 Tryd.underlying53 mb us.length (numF us) rfl HV.out.map ?_)
                  | (at_mapUpdate; refine wpList_update_N _ rfl (.tmp 66) (.tmp 67) _ 53 rfl 9 3 keyW Tryd.underlying53 mb us.length (numF us) rfl HV.out.map hul (.string ⟨x.toArray⟩) (.int .i64 (us.length : Int)) (.string x) rfl rfl HWl.out HVx.out.2.2 ?_; intro w6 hM6 hg6; have HP := Aside0.mk (HV.out.put HIn.out hM6 hg6); clear hM6 hg6))
                have HPd := Aside0.mk (HP.out.later (pw_below_drewN (Below.refl _ _) 1))
                have hlk := MapF.run_lookup w6.drew 53 HPd.out.map.toF keyW Tryd.underlying53 (zeroIW _) HWl.out
                rw [HV2.out.1] at hlk
                obtain ⟨Ah, ch, eh, p0, p0f, hCo, hlc⟩ := HPd.out.header HIl.out
                have p1 := pw_cell_below (below_alloc (Below.refl _ _) (.cells #[.int .i64 (ix : Int)] 3)) p0
                have p0w : w6.cell? ⟨go, i, none⟩ = some (.slice Ah own.length ch) := p0
                have p1w := pw_cell_below (below_alloc (Below.refl _ _) (.cells #[.int .i64 (ix : Int)] 3)) p0w
                have hil : (i : Int) < (l.length : Int) := by have := HIl.out; omega
                have HCr := Aside0.mk HPd.out.cur
                rw [eh] at HCr
                have hl9 : (own ++ [(ix : Int)]).length = own.length + 1 := by simp
                have hown : own.length ≤ 400000 := by have := HLn.out; omega
                clear p0f hCo
                go_region_law (first
                  | (refine Kd.R_append_step (Kd.int .i64) (W := w6.drew) (w0 := w) w.heap.size (by rfl) (.tmp 75) (.tmp 79) 31 3 (.int .i64 0) 8 rfl Tryd.underlying31 info_int rfl (by decide) (by omega) (.slice Ah own.length ch) own (ix : Int) [.int .i64 (ix : Int)] (fun q => wg.heap.size ≤ q) (fun _ => False) rfl rfl rfl (fun _ h => h.elim) (fun k hk => Nat.le_trans HPd.out.wge hk) HCr.out HPd.out.below HPd.out.below.size (by omega) ?_; intro v9 w9 hR9 hB9 hg9 _; obtain ⟨A9, c9, rfl⟩ := Kd.R_slice hR9; rw [hl9] at hR9 ⊢; rw [← eh] at hg9; obtain ⟨⟨⟨y, f0⟩, f0f⟩, hp9⟩ := HPd.out.push HIl.out hR9 hB9 hg9; have HP9 := Aside0.mk hp9; clear hR9 hB9 hg9 hp9))
                all_goals
                  clear p0 p1 p0w p1w hlk f0 f0f
                  go_wp2
                  go_roundw
                  case rel => exact ⟨j + 1, _, by omega, by go_num, by rw [HTk2.out, HTk3.out]; exact HP9⟩
                  case measure => simp [intOf]; omega
        · obtain rfl : j = s.nodes.length := by omega
          rw [List.take_length] at HI
          go_wp2
          have HL := Aside0.mk (HI.out.leave HOi.out)
          go_roundw
          case rel => exact ⟨i + 1, L, by omega, by go_num, by rw [HAll.out]; exact HL⟩
          case measure => simp [intOf]; omega
    · obtain rfl : i = l.length := by omega
      have HF := Aside0.mk (HO.out.rows h0 HOl.out)
      have hco := (Kd.R_reads' HO.out.raw).2.1
      go_wp2
      go_ret
      exact ⟨_, co, rfl, hco, HF.out, HO.out.below⟩
end Go.Proofs.YtdfneldenipljaaDoor.L
end
section
namespace Go.Proofs.YtdfneldenipljaaDoor.L
open Go.RowKit Go.ChangeShapes Go.WideShapes Go.Proofs.YtdfneldenipljaaDoorW.PrintWords Go.Proofs.YtdfneldenipljaaDoorW.PrintLast Go.Proofs.YtdfneldenipljaaDoorW.PrintMore
attribute [local go_sem] max2_int min2_int max_two min_two max_three min_three max_four min_four
def Own4 (n m : Node) : Prop := n.kind = m.kind ∧ n.ints = m.ints ∧ n.texts = m.texts ∧ n.kids.length = m.kids.length
theorem Own4.refl (n : Node) : Own4 n n := ⟨rfl, rfl, rfl, rfl⟩
theorem Own4.symm {n m : Node} (h : Own4 n m) : Own4 m n := ⟨h.1.symm, h.2.1.symm, h.2.2.1.symm, h.2.2.2.symm⟩
theorem Own4.trans {n m p : Node} (h : Own4 n m) (g : Own4 m p) : Own4 n p := ⟨h.1.trans g.1, h.2.1.trans g.2.1, h.2.2.1.trans g.2.2.1, h.2.2.2.trans g.2.2.2⟩
def Like (a b : List Node) (i j : Nat) : Prop := alkC a b (alkT a b i) i j = true
theorem ahead_kid {a : List Node} (ha : AheadN a) {i k : Nat} (hi : i < a.length) (hk : k < (nd a i).kids.length) : 0 ≤ rd (nd a i).kids (k : Int) ∧ rd (nd a i).kids (k : Int) < (i : Int) := by
  rw [rd_eq hk]
  exact ha i hi _ (List.getElem_mem hk)
theorem like_iff {a b : List Node} (ha : AheadN a) (hb : AheadN b) {i j : Nat} (hi : i < a.length) (hj : j < b.length) :
    Like a b i j ↔ Own4 (nd a i) (nd b j) ∧ ∀ k : Nat, k < (nd a i).kids.length → Like a b (rd (nd a i).kids (k : Int)).toNat (rd (nd b j).kids (k : Int)).toNat := by
  unfold Like
  conv => lhs; unfold alkC
  rw [decide_eq_true_iff]
  refine ⟨fun ⟨h1, h2, h3, h4, h5⟩ => ⟨⟨h1, h2, h3, h4⟩, fun k hk => ?_⟩, fun ⟨⟨h1, h2, h3, h4⟩, h5⟩ => ⟨h1, h2, h3, h4, fun k hk => ?_⟩⟩
  · have x1 := ahead_kid ha hi hk
    have x2 := ahead_kid hb hj (k := k) (by omega)
    have := (h5 k hk).2.2
    rwa [alk_cell a b (by omega) (by omega)] at this
  · have x1 := ahead_kid ha hi hk
    have x2 := ahead_kid hb hj (k := k) (by omega)
    refine ⟨x1.2, x2.2, ?_⟩
    rw [alk_cell a b (by omega) (by omega)]
    exact h5 k hk
theorem like_co {a b : List Node} (ha : AheadN a) (hb : AheadN b) (R : Nat → Nat → Prop)
    (hR : ∀ i j : Nat, R i j → i < a.length ∧ j < b.length ∧ Own4 (nd a i) (nd b j) ∧ ∀ k : Nat, k < (nd a i).kids.length → R (rd (nd a i).kids (k : Int)).toNat (rd (nd b j).kids (k : Int)).toNat) :
    ∀ i j : Nat, R i j → Like a b i j := by
  intro i
  induction i using Nat.strongRecOn with
  | _ i ih =>
    intro j h
    obtain ⟨hi, hj, h1, h2⟩ := hR i j h
    refine (like_iff ha hb hi hj).2 ⟨h1, fun k hk => ?_⟩
    have x1 := ahead_kid ha hi hk
    exact ih _ (by omega) _ (h2 k hk)
theorem kid_nat {a : List Node} (ha : AheadN a) {i k : Nat} (hi : i < a.length) (hk : k < (nd a i).kids.length) : (rd (nd a i).kids (k : Int)).toNat < i := by
  have := ahead_kid ha hi hk
  omega
theorem like_refl {a : List Node} (ha : AheadN a) {i : Nat} (hi : i < a.length) : Like a a i i := by
  refine like_co ha ha (fun p q => p < a.length ∧ p = q) (fun p q h => ?_) i i ⟨hi, rfl⟩
  obtain ⟨hp, rfl⟩ := h
  refine ⟨hp, hp, Own4.refl _, fun k hk => ⟨?_, rfl⟩⟩
  have := kid_nat ha hp hk
  omega
theorem like_symm {a b : List Node} (ha : AheadN a) (hb : AheadN b) {i j : Nat} (hi : i < a.length) (hj : j < b.length) (h : Like a b i j) : Like b a j i := by
  refine like_co hb ha (fun p q => p < b.length ∧ q < a.length ∧ Like a b q p) (fun p q h => ?_) j i ⟨hj, hi, h⟩
  obtain ⟨hp, hq, h⟩ := h
  obtain ⟨h1, h2⟩ := (like_iff ha hb hq hp).1 h
  refine ⟨hp, hq, h1.symm, fun k hk => ?_⟩
  have hk' : k < (nd a q).kids.length := by rw [h1.2.2.2]; exact hk
  have x1 := kid_nat hb hp hk
  have x2 := kid_nat ha hq hk'
  exact ⟨by omega, by omega, h2 k hk'⟩
theorem like_trans {a b c : List Node} (ha : AheadN a) (hb : AheadN b) (hc : AheadN c) {i j m : Nat} (hi : i < a.length) (hj : j < b.length) (hm : m < c.length) (h : Like a b i j) (g : Like b c j m) : Like a c i m := by
  refine like_co ha hc (fun p q => p < a.length ∧ q < c.length ∧ ∃ r, r < b.length ∧ Like a b p r ∧ Like b c r q) (fun p q h => ?_) i m ⟨hi, hm, j, hj, h, g⟩
  obtain ⟨hp, hq, r, hr, h, g⟩ := h
  obtain ⟨h1, h2⟩ := (like_iff ha hb hp hr).1 h
  obtain ⟨g1, g2⟩ := (like_iff hb hc hr hq).1 g
  refine ⟨hp, hq, h1.trans g1, fun k hk => ?_⟩
  have hk' : k < (nd b r).kids.length := by rw [← h1.2.2.2]; exact hk
  have hk2 : k < (nd c q).kids.length := by rw [← g1.2.2.2]; exact hk'
  have x1 := kid_nat ha hp hk
  have x2 := kid_nat hb hr hk'
  have x3 := kid_nat hc hq hk2
  exact ⟨by omega, by omega, _, by omega, h2 k hk, g2 k hk'⟩
theorem like_num {T : Lib.PrintTabs} {vs : List (List UInt8)} {a b : List Node} {p q : List Int} (ha : AheadN a) (hb : AheadN b) (hp : Numd T vs a p) (hq : Numd T vs b q) {i j : Nat} (hi : i < a.length) (hj : j < b.length) :
    Like a b i j ↔ rd p (i : Int) = rd q (j : Int) := alk_num ha hb hp hq i j hi hj
end Go.Proofs.YtdfneldenipljaaDoor.L
end
section
namespace Go.Proofs.YtdfneldenipljaaDoor.L
open Go.RowKit Go.ChangeShapes Go.WideShapes Go.Proofs.YtdfneldenipljaaDoorW.PrintWords Go.Proofs.YtdfneldenipljaaDoorW.PrintLast Go.Proofs.YtdfneldenipljaaDoorW.PrintMore
attribute [local go_sem] max2_int min2_int max_two min_two max_three min_three max_four min_four
theorem canon_ahead {s : Scene} (h : Right s) : AheadN (canonL s) := fun _ hp _ hk => isC_ahead (canon_right h) (canon_isC h) hp hk
theorem canon_nd {s : Scene} (h : Right s) {p : Nat} (hp : p < s.nodes.length) : nd (canonL s) (idx s (p : Int)) = relab s (nd s.nodes p) := by
  have := (canon_iso h).nd (p : Int) ⟨by omega, by omega⟩
  rw [Int.toNat_natCast, Int.toNat_natCast, kids_nat] at this
  exact this
theorem canon_len {s : Scene} (h : Right s) : (canonL s).length = s.nodes.length := (canon_iso h).len
theorem right_kid {s : Scene} (h : Right s) {p k : Nat} (hp : p < s.nodes.length) (hk : k < (nd s.nodes p).kids.length) : 0 ≤ rd (nd s.nodes p).kids (k : Int) ∧ rd (nd s.nodes p).kids (k : Int) < (s.nodes.length : Int) := by
  rw [rd_eq hk]
  exact h.pl p hp _ (List.getElem_mem hk)
theorem rd_map_at {f : Int → Int} {l : List Int} {k : Nat} (hk : k < l.length) : rd (l.map f) (k : Int) = f (rd l (k : Int)) := by
  rw [rd_eq (by rw [List.length_map]; exact hk), rd_eq hk, List.getElem_map]
theorem like_canon {s t : Scene} (hs : Right s) (ht : Right t) (R : Nat → Nat → Prop)
    (hR : ∀ p q : Nat, R p q → p < s.nodes.length ∧ q < t.nodes.length ∧ Own4 (nd s.nodes p) (nd t.nodes q) ∧ ∀ k : Nat, k < (nd s.nodes p).kids.length → R (rd (nd s.nodes p).kids (k : Int)).toNat (rd (nd t.nodes q).kids (k : Int)).toNat) :
    ∀ p q : Nat, R p q → Like (canonL s) (canonL t) (idx s (p : Int)) (idx t (q : Int)) := fun p q h => by
  refine like_co (canon_ahead hs) (canon_ahead ht) (fun i j => ∃ p q : Nat, R p q ∧ i = idx s (p : Int) ∧ j = idx t (q : Int)) (fun i j hij => ?_) _ _ ⟨p, q, h, rfl, rfl⟩
  obtain ⟨p, q, h, rfl, rfl⟩ := hij
  obtain ⟨hp, hq, h1, h2⟩ := hR p q h
  have a1 := (at_idx hs hp).1
  have a2 := (at_idx ht hq).1
  rw [canon_len hs, canon_len ht, canon_nd hs hp, canon_nd ht hq]
  refine ⟨a1, a2, ⟨h1.1, h1.2.1, h1.2.2.1, by simpa [relab] using h1.2.2.2⟩, fun k hk => ?_⟩
  have hk1 : k < (nd s.nodes p).kids.length := by simpa [relab] using hk
  have hk2 : k < (nd t.nodes q).kids.length := by rw [← h1.2.2.2]; exact hk1
  have x1 := right_kid hs hp hk1
  have x2 := right_kid ht hq hk2
  refine ⟨_, _, h2 k hk1, ?_, ?_⟩
  · show (rd ((nd s.nodes p).kids.map (fun k => (idx s k : Int))) (k : Int)).toNat = _
    rw [rd_map_at hk1, Int.toNat_natCast, Int.toNat_of_nonneg x1.1]
  · show (rd ((nd t.nodes q).kids.map (fun k => (idx t k : Int))) (k : Int)).toNat = _
    rw [rd_map_at hk2, Int.toNat_natCast, Int.toNat_of_nonneg x2.1]
end Go.Proofs.YtdfneldenipljaaDoor.L
end
section
namespace Go.Proofs.YtdfneldenipljaaDoor.L
open Go.RowKit Go.ChangeShapes Go.WideShapes Go.Proofs.YtdfneldenipljaaDoorW.PrintWords Go.Proofs.YtdfneldenipljaaDoorW.PrintLast Go.Proofs.YtdfneldenipljaaDoorW.PrintMore
attribute [local go_sem] max2_int min2_int max_two min_two max_three min_three max_four min_four
def canS (s : Scene) : Scene := ⟨canonL s, (s.nodes.length : Int) - 1⟩
def ownC (T : Lib.PrintTabs) (s : Scene) : List Int := (ownS T [] (canonL s)).2
def shr0 (T : Lib.PrintTabs) (s : Scene) : Scene := shrS (ownC T s) (canS s)
def shareS (T : Lib.PrintTabs) (s : Scene) : Scene := canS (shr0 T s)
def SameT (s t : Scene) : Prop := Like (canonL s) (canonL t) (s.nodes.length - 1) (t.nodes.length - 1)
section
variable {T : Lib.PrintTabs} {s t : Scene}
theorem right_pos (h : Right s) : 0 < s.nodes.length := by have := h.r0; have := h.r1; omega
theorem ownC_cls (T : Lib.PrintTabs) (h : Right s) : Cls (canonL s) (ownC T s) := own_cls T (canon_ahead h)
theorem ownC_numd (T : Lib.PrintTabs) (h : Right s) : Numd T (ownS T [] (canonL s)).1 (canonL s) (ownC T s) := (own_spec T [] (canon_ahead h)).numd
theorem ownC_like (h : Right s) {i j : Nat} (hi : i < (canonL s).length) (hj : j < (canonL s).length) : Like (canonL s) (canonL s) i j ↔ rd (ownC T s) (i : Int) = rd (ownC T s) (j : Int) :=
  like_num (canon_ahead h) (canon_ahead h) (ownC_numd T h) (ownC_numd T h) hi hj
theorem shr0_right (T : Lib.PrintTabs) (h : Right s) : Right (shr0 T s) := shr_right (s := canS s) (canon_right h) (ownC_cls T h)
theorem shr0_len (T : Lib.PrintTabs) (s : Scene) : (shr0 T s).nodes.length = cntF (ownC T s) 0 (canonL s).length := shr_len _ _ _
theorem shr0_nd (h : Right s) {i : Nat} (hi : i < (canonL s).length) : nd (shr0 T s).nodes (rd (ownC T s) (i : Int)).toNat = reN (ownC T s) (nd (canonL s) i) := shr_at (ownC_cls T h) _ (Nat.le_refl _) i hi
theorem ownC_at (h : Right s) {i : Nat} (hi : i < (canonL s).length) : 0 ≤ rd (ownC T s) (i : Int) ∧ rd (ownC T s) (i : Int) < ((shr0 T s).nodes.length : Int) := by
  have hc := ownC_cls T h
  rw [shr0_len]
  exact ⟨(hc.rise i hi).1, hc.rise.lt hi (Nat.le_refl _)⟩
theorem ownC_onto (h : Right s) {x : Nat} (hx : x < (shr0 T s).nodes.length) : ∃ i : Nat, i < (canonL s).length ∧ rd (ownC T s) (i : Int) = (x : Int) := by
  rw [shr0_len] at hx
  exact cnt_onto (Nat.zero_le _) hx
theorem same_lt (h : Right s) : s.nodes.length - 1 < (canonL s).length := by
  have := right_pos h
  rw [canon_len h]; omega
theorem SameT.refl (h : Right s) : SameT s s := like_refl (canon_ahead h) (same_lt h)
theorem SameT.symm (hs : Right s) (ht : Right t) (h : SameT s t) : SameT t s := like_symm (canon_ahead hs) (canon_ahead ht) (same_lt hs) (same_lt ht) h
theorem SameT.trans {u : Scene} (hs : Right s) (ht : Right t) (hu : Right u) (h : SameT s t) (g : SameT t u) : SameT s u := like_trans (canon_ahead hs) (canon_ahead ht) (canon_ahead hu) (same_lt hs) (same_lt ht) (same_lt hu) h g
theorem same_all (hs : Right s) (ht : Right t) (h : SameT s t) {j : Nat} (hj : j < (canonL t).length) : ∃ i : Nat, i < (canonL s).length ∧ Like (canonL s) (canonL t) i j := by
  have hc := canon_right ht
  have key : ∀ x : Int, Rch (canonL t) [(t.nodes.length : Int) - 1] x → 0 ≤ x ∧ x < ((canonL t).length : Int) ∧ ∃ i : Nat, i < (canonL s).length ∧ Like (canonL s) (canonL t) i x.toNat := fun x hx => by
    induction hx with
    | base hk =>
      rw [List.mem_singleton.1 hk]
      have h1 := same_lt ht
      have h2 := right_pos ht
      have e : ((t.nodes.length : Int) - 1).toNat = t.nodes.length - 1 := by omega
      exact ⟨by omega, by omega, _, same_lt hs, by rw [e]; exact h⟩
    | @step j k _ hk ih =>
      obtain ⟨h0, h1, i, hi, hl⟩ := ih
      have hj : j.toNat < (canonL t).length := by omega
      obtain ⟨g1, g2⟩ := (like_iff (canon_ahead hs) (canon_ahead ht) hi hj).1 hl
      obtain ⟨m, hm, e⟩ := List.getElem_of_mem (show k ∈ (nd (canonL t) j.toNat).kids from hk)
      have hm' : m < (nd (canonL s) i).kids.length := by rw [g1.2.2.2]; exact hm
      have x1 := kid_nat (canon_ahead hs) hi hm'
      have x2 := ahead_kid (canon_ahead ht) hj hm
      have e2 : rd (nd (canonL t) j.toNat).kids (m : Int) = k := by rw [rd_eq hm]; exact e
      have h3 := g2 m hm'
      rw [e2] at h3 x2
      exact ⟨x2.1, by omega, _, by omega, h3⟩
  have := (key (j : Int) (hc.all j hj)).2.2
  rwa [Int.toNat_natCast] at this
open Classical in
noncomputable def trF (T : Lib.PrintTabs) (s t : Scene) (x : Int) : Int :=
  if h : ∃ i : Nat, i < (canonL s).length ∧ ∃ j : Nat, j < (canonL t).length ∧ rd (ownC T t) (j : Int) = x ∧ Like (canonL s) (canonL t) i j then rd (ownC T s) ((Classical.choose h : Nat) : Int) else 0
theorem trF_eq (hs : Right s) (ht : Right t) {i j : Nat} (hi : i < (canonL s).length) (hj : j < (canonL t).length) (h : Like (canonL s) (canonL t) i j) : trF T s t (rd (ownC T t) (j : Int)) = rd (ownC T s) (i : Int) := by
  have he : ∃ i : Nat, i < (canonL s).length ∧ ∃ j' : Nat, j' < (canonL t).length ∧ rd (ownC T t) (j' : Int) = rd (ownC T t) (j : Int) ∧ Like (canonL s) (canonL t) i j' := ⟨i, hi, j, hj, rfl, h⟩
  unfold trF
  rw [dif_pos he]
  obtain ⟨hi', j', hj', e, hl⟩ := Classical.choose_spec he
  have h1 := (ownC_like (T := T) ht hj' hj).2 e
  have h2 := like_trans (canon_ahead hs) (canon_ahead ht) (canon_ahead ht) hi' hj' hj hl h1
  have h3 := like_symm (canon_ahead hs) (canon_ahead ht) hi hj h
  have h4 := like_trans (canon_ahead hs) (canon_ahead ht) (canon_ahead hs) hi' hj hi h2 h3
  exact (ownC_like (T := T) hs hi' hi).1 h4
theorem share_le (hs : Right s) (ht : Right t) (h : SameT s t) : (shr0 T t).nodes.length ≤ (shr0 T s).nodes.length := by
  have h1 : (((List.range (shr0 T t).nodes.length).map (fun p : Nat => trF T s t (p : Int)))).Nodup := by
    refine List.pairwise_map.2 (List.Pairwise.imp_of_mem ?_ List.nodup_range)
    intro x y hx hy hxy e
    obtain ⟨j, hj, ej⟩ := ownC_onto (T := T) ht (List.mem_range.1 hx)
    obtain ⟨j', hj', ej'⟩ := ownC_onto (T := T) ht (List.mem_range.1 hy)
    obtain ⟨i, hi, hl⟩ := same_all hs ht h hj
    obtain ⟨i', hi', hl'⟩ := same_all hs ht h hj'
    rw [← ej, ← ej', trF_eq hs ht hi hj hl, trF_eq hs ht hi' hj' hl'] at e
    have h2 := (ownC_like (T := T) hs hi hi').2 e
    have h3 := like_trans (canon_ahead ht) (canon_ahead hs) (canon_ahead hs) hj hi hi' (like_symm (canon_ahead hs) (canon_ahead ht) hi hj hl) h2
    have h4 := like_trans (canon_ahead ht) (canon_ahead hs) (canon_ahead ht) hj hi' hj' h3 hl'
    have h5 := (ownC_like (T := T) ht hj hj').1 h4
    exact hxy (by omega)
  have h2 := nodup_len (n := (shr0 T s).nodes.length) h1 (fun x hx => by
    obtain ⟨p, hp, rfl⟩ := List.mem_map.1 hx
    obtain ⟨j, hj, ej⟩ := ownC_onto (T := T) ht (List.mem_range.1 hp)
    obtain ⟨i, hi, hl⟩ := same_all hs ht h hj
    rw [← ej, trF_eq hs ht hi hj hl]
    exact ownC_at hs hi)
  rwa [List.length_map, List.length_range] at h2
theorem share_iso (hs : Right s) (ht : Right t) (h : SameT s t) : Iso (shr0 T s).nodes (shr0 T t).nodes (trF T s t) := by
  have at_ : ∀ x : Int, Pl (shr0 T t).nodes x → ∃ i j : Nat, i < (canonL s).length ∧ j < (canonL t).length ∧ x = rd (ownC T t) (j : Int) ∧ Like (canonL s) (canonL t) i j := fun x hx => by
    have h1 := hx.1
    have h2 := hx.2
    obtain ⟨j, hj, ej⟩ := ownC_onto (T := T) ht (x := x.toNat) (by omega)
    obtain ⟨i, hi, hl⟩ := same_all hs ht h hj
    exact ⟨i, j, hi, hj, by omega, hl⟩
  refine ⟨Nat.le_antisymm (share_le ht hs (h.symm hs ht)) (share_le hs ht h), fun x hx => ?_, fun x y hx hy e => ?_, fun x hx => ?_⟩
  · obtain ⟨i, j, hi, hj, rfl, hl⟩ := at_ x hx
    rw [trF_eq hs ht hi hj hl]
    exact ownC_at hs hi
  · obtain ⟨i, j, hi, hj, rfl, hl⟩ := at_ x hx
    obtain ⟨i', j', hi', hj', rfl, hl'⟩ := at_ y hy
    rw [trF_eq hs ht hi hj hl, trF_eq hs ht hi' hj' hl'] at e
    have h2 := (ownC_like (T := T) hs hi hi').2 e
    have h3 := like_trans (canon_ahead ht) (canon_ahead hs) (canon_ahead hs) hj hi hi' (like_symm (canon_ahead hs) (canon_ahead ht) hi hj hl) h2
    have h4 := like_trans (canon_ahead ht) (canon_ahead hs) (canon_ahead ht) hj hi' hj' h3 hl'
    exact (ownC_like (T := T) ht hj hj').1 h4
  · obtain ⟨i, j, hi, hj, rfl, hl⟩ := at_ x hx
    rw [trF_eq hs ht hi hj hl, shr0_nd hs hi]
    have e2 : kids (shr0 T t).nodes (rd (ownC T t) (j : Int)) = ((nd (canonL t) j).kids.map (rd (ownC T t))) := by
      show (nd (shr0 T t).nodes (rd (ownC T t) (j : Int)).toNat).kids = _
      rw [shr0_nd ht hj]; rfl
    rw [e2, shr0_nd ht hj]
    obtain ⟨g1, g2⟩ := (like_iff (canon_ahead hs) (canon_ahead ht) hi hj).1 hl
    have e3 : (nd (canonL s) i).kids.map (rd (ownC T s)) = ((nd (canonL t) j).kids.map (rd (ownC T t))).map (trF T s t) := by
      refine List.ext_getElem (by rw [List.length_map, List.length_map, List.length_map]; exact g1.2.2.2) (fun k k1 k2 => ?_)
      rw [List.length_map] at k1
      have k3 : k < (nd (canonL t) j).kids.length := by rw [← g1.2.2.2]; exact k1
      rw [List.getElem_map, List.getElem_map, List.getElem_map, ← rd_eq k1, ← rd_eq k3]
      have x1 := ahead_kid (canon_ahead hs) hi k1
      have x2 := ahead_kid (canon_ahead ht) hj k3
      have := trF_eq (T := T) hs ht (by omega) (by omega) (g2 k k1)
      rw [Int.toNat_of_nonneg x1.1, Int.toNat_of_nonneg x2.1] at this
      exact this.symm
    show Node.mk _ _ _ _ = Node.mk _ _ _ _
    rw [e3, g1.1, g1.2.1, g1.2.2.1]
    rfl
theorem share_eq (T : Lib.PrintTabs) (hs : Right s) (ht : Right t) (h : SameT s t) : shareS T s = shareS T t := by
  have hi := share_iso (T := T) hs ht h
  have hR := shr0_right T ht
  have hr : (shr0 T s).root = trF T s t (shr0 T t).root := by
    show rd (ownC T s) ((s.nodes.length : Int) - 1) = trF T s t (rd (ownC T t) ((t.nodes.length : Int) - 1))
    have := trF_eq (T := T) hs ht (same_lt hs) (same_lt ht) h
    have h1 := right_pos hs
    have h2 := right_pos ht
    rw [show ((s.nodes.length - 1 : Nat) : Int) = (s.nodes.length : Int) - 1 from by omega, show ((t.nodes.length - 1 : Nat) : Int) = (t.nodes.length : Int) - 1 from by omega] at this
    exact this.symm
  unfold shareS canS
  rw [hi.canonL hR.pl ⟨hR.r0, hR.r1⟩ hr, hi.len]
theorem share_idem {u : Scene} (hu : Right u) (hc : isC u = true) (h1 : ∀ i j : Nat, i < u.nodes.length → j < u.nodes.length → Like u.nodes u.nodes i j → i = j) : shareS T u = u := by
  have ec : canS u = u := (isC_eq hu hc).symm
  have en : canonL u = u.nodes := congrArg Scene.nodes ec
  have er : (u.nodes.length : Int) - 1 = u.root := congrArg Scene.root ec
  have hcl := ownC_cls T hu
  rw [en] at hcl
  have key : ∀ i : Nat, i ≤ u.nodes.length → cntF (ownC T u) 0 i = i ∧ ∀ j : Nat, j < i → rd (ownC T u) (j : Int) = (j : Int) := fun i => by
    induction i with
    | zero => exact fun _ => ⟨rfl, fun j h => by omega⟩
    | succ i ih =>
      intro hi
      obtain ⟨e, hj⟩ := ih (by omega)
      have h2 := hcl.rise i (by omega)
      have h3 : rd (ownC T u) (i : Int) = (i : Int) := by
        refine Classical.byContradiction fun hn => ?_
        obtain ⟨m, hm⟩ : ∃ m : Nat, rd (ownC T u) (i : Int) = (m : Int) := ⟨_, (Int.toNat_of_nonneg h2.1).symm⟩
        have hmi : m < i := by omega
        have h4 := (ownC_like (T := T) hu (i := i) (j := m) (by rw [en]; omega) (by rw [en]; omega)).2 (by rw [hm, hj m hmi])
        rw [en] at h4
        have := h1 i m (by omega) (by omega) h4
        omega
      exact ⟨by rw [cntF, e, if_pos h3], ext_lt hj h3⟩
  have hrd := (key _ (Nat.le_refl _)).2
  have hU : ∀ i : Nat, i ≤ u.nodes.length → shrU u.nodes (ownC T u) i = u.nodes.take i := fun i => by
    induction i with
    | zero => exact fun _ => rfl
    | succ i ih =>
      intro hi
      have h2 := ih (by omega)
      show (if rd (ownC T u) (i : Int) = ((shrU u.nodes (ownC T u) i).length : Int) then shrU u.nodes (ownC T u) i ++ [reN (ownC T u) (nd u.nodes i)] else shrU u.nodes (ownC T u) i) = _
      rw [if_pos (by rw [hrd i (by omega), shr_len, (key i (by omega)).1]), h2, take_succ_getD nodez (show i < u.nodes.length by omega)]
      have e : reN (ownC T u) (nd u.nodes i) = nd u.nodes i := by
        have hk : (nd u.nodes i).kids.map (rd (ownC T u)) = (nd u.nodes i).kids := by
          conv => rhs; rw [← List.map_id (nd u.nodes i).kids]
          refine List.map_congr_left (fun k hk => ?_)
          have h5 := hcl.ahead i (by omega) k hk
          obtain ⟨m, rfl⟩ : ∃ m : Nat, k = (m : Int) := ⟨k.toNat, by omega⟩
          exact hrd m (by omega)
        unfold reN
        rw [hk]
      rw [e]; rfl
  have hn := right_pos hu
  have e0 : shr0 T u = u := by
    show Scene.mk (shrU (canonL u) (ownC T u) (canonL u).length) (rd (ownC T u) ((u.nodes.length : Int) - 1)) = u
    rw [en, hU _ (Nat.le_refl _), List.take_length]
    have h6 := hrd (u.nodes.length - 1) (by omega)
    rw [show ((u.nodes.length - 1 : Nat) : Int) = (u.nodes.length : Int) - 1 from by omega] at h6
    rw [h6, er]
  unfold shareS
  rw [e0, ec]
end
end Go.Proofs.YtdfneldenipljaaDoor.L
end
section
namespace Go.Proofs.YtdfneldenipljaaDoor.L
open Go.RowKit Go.ChangeShapes Go.WideShapes Go.Proofs.YtdfneldenipljaaDoorW.PrintWords Go.Proofs.YtdfneldenipljaaDoorW.PrintLast Go.Proofs.YtdfneldenipljaaDoorW.PrintMore
attribute [local go_sem] max2_int min2_int max_two min_two max_three min_three max_four min_four
structure FitN (n : Node) : Prop where
  ints : n.ints.length ≤ 100
  texts : n.texts.length ≤ 100
  kids : n.kids.length ≤ 300
  size : ∀ x ∈ n.texts, x.size ≤ 500
  nb : NBd n
theorem FitN.small {n : Node} (h : FitN n) : Small n := ⟨by have := h.ints; omega, by have := h.texts; omega, by have := h.kids; omega⟩
theorem FitN.like {n m : Node} (h : FitN n) (h1 : m.kind = n.kind) (h2 : m.ints = n.ints) (h3 : m.texts = n.texts) (h4 : m.kids.length = n.kids.length) : FitN m :=
  ⟨by rw [h2]; exact h.ints, by rw [h3]; exact h.texts, by rw [h4]; exact h.kids, by rw [h3]; exact h.size, ⟨by rw [h1]; exact h.nb.kind, by rw [h2]; exact h.nb.ints⟩⟩
def Fit (ns : List Node) : Prop := ns.length ≤ 61 ∧ ∀ i : Nat, i < ns.length → FitN (nd ns i)
theorem Fit.rows {ns : List Node} (h : Fit ns) : L.rows ns ≤ 130000 := by
  have h1 := rows_leB (ns := ns) (b := 300) (fun i hi => (h.2 i hi).kids)
  have h2 : ns.length * (300 + 1) ≤ 61 * 301 := Nat.mul_le_mul (by have := h.1; omega) (by omega)
  omega
theorem Fit.small {ns : List Node} (h : Fit ns) : ∀ i : Nat, i < ns.length → Small (nd ns i) := fun i hi => (h.2 i hi).small
theorem fit_of_great {s : Scene} (hg : greatS s = false) (hN : ∀ i : Nat, i < s.nodes.length → NBd (nd s.nodes i)) : Fit s.nodes := by
  have h1 := of_decide_eq_false hg
  refine ⟨Nat.le_succ_of_le (Nat.le_of_not_lt fun e => h1 (.inl e)), fun i hi => ?_⟩
  have h3 := of_decide_eq_false (Bool.eq_false_iff.2 (fun e => h1 (.inr (.inr ⟨i, hi, e⟩))) : greatN (nd s.nodes i) = false)
  refine ⟨Nat.le_of_not_lt fun e => h3 (.inl e), Nat.le_of_not_lt fun e => h3 (.inr (.inl e)), Nat.le_of_not_lt fun e => h3 (.inr (.inr (.inl e))), fun x hx => ?_, hN i hi⟩
  obtain ⟨j, hj, rfl⟩ := List.getElem_of_mem hx
  refine Nat.le_of_not_lt fun e => h3 (.inr (.inr (.inr ⟨j, hj, ?_⟩)))
  unfold str
  rw [getD_eq _ hj]
  exact e
theorem great_len {s : Scene} (hg : greatS s = false) : s.nodes.length ≤ 60 := Nat.le_of_not_lt fun e => of_decide_eq_false hg (.inl e)
theorem fit_mem {ns : List Node} (h : Fit ns) {n : Node} (hn : n ∈ ns) : FitN n := by
  obtain ⟨i, hi, rfl⟩ := List.getElem_of_mem hn
  have := h.2 i hi
  unfold nd at this
  rwa [getD_eq _ hi] at this
theorem fit_of_mem {ns : List Node} (h1 : ns.length ≤ 61) (h2 : ∀ n ∈ ns, FitN n) : Fit ns := ⟨h1, fun i hi => h2 _ (by unfold nd; rw [getD_eq _ hi]; exact List.getElem_mem hi)⟩
theorem Fit.canon {s : Scene} (hr : Right s) (h : Fit s.nodes) : Fit (canonL s) := by
  refine fit_of_mem (by rw [canon_len hr]; exact h.1) (fun n hn => ?_)
  obtain ⟨q, hq, rfl⟩ := List.mem_map.1 hn
  have hpl := ord_pl hr q hq
  refine (h.2 q.toNat (by have := hpl.1; have := hpl.2; omega)).like rfl rfl rfl ?_
  show (List.map _ _).length = _
  rw [List.length_map]
theorem shrU_mem {ns : List Node} {own : List Int} : ∀ {m : Nat}, ∀ n ∈ shrU ns own m, ∃ i : Nat, i < m ∧ n = reN own (nd ns i)
  | 0, n, h => by cases h
  | m + 1, n, h => by
    have h : n ∈ (if rd own (m : Int) = ((shrU ns own m).length : Int) then shrU ns own m ++ [reN own (nd ns m)] else shrU ns own m) := h
    split at h
    · rcases List.mem_append.1 h with h | h
      · obtain ⟨i, hi, e⟩ := shrU_mem n h
        exact ⟨i, by omega, e⟩
      · exact ⟨m, by omega, List.mem_singleton.1 h⟩
    · obtain ⟨i, hi, e⟩ := shrU_mem n h
      exact ⟨i, by omega, e⟩
theorem cnt_le (own : List Int) : ∀ n : Nat, cntF own 0 n ≤ n
  | 0 => Nat.le_refl _
  | n + 1 => by
    have ih := cnt_le own n
    show (if rd own (n : Int) = (cntF own 0 n : Int) then cntF own 0 n + 1 else cntF own 0 n) ≤ n + 1
    split <;> omega
theorem Fit.shr {ns : List Node} (own : List Int) (h : Fit ns) : Fit (shrU ns own ns.length) := by
  refine fit_of_mem (by rw [shr_len]; have := cnt_le own ns.length; have := h.1; omega) (fun n hn => ?_)
  obtain ⟨i, hi, rfl⟩ := shrU_mem n hn
  refine (h.2 i hi).like rfl rfl rfl ?_
  show (List.map _ _).length = _
  rw [List.length_map]
theorem Fit.shr0 {s : Scene} (T : Lib.PrintTabs) (hr : Right s) (h : Fit s.nodes) : Fit (L.shr0 T s).nodes := (h.canon hr).shr _
theorem Fit.share {s : Scene} (T : Lib.PrintTabs) (hr : Right s) (h : Fit s.nodes) : Fit (shareS T s).nodes := (h.shr0 T hr).canon (shr0_right T hr)
end Go.Proofs.YtdfneldenipljaaDoor.L
end
section
namespace Go.Proofs.YtdfneldenipljaaDoor.L
open Go.RowKit Go.ChangeShapes Go.WideShapes Go.Proofs.YtdfneldenipljaaDoorW.PrintWords Go.Proofs.YtdfneldenipljaaDoorW.PrintLast Go.Proofs.YtdfneldenipljaaDoorW.PrintMore
attribute [local go_sem] max2_int min2_int max_two min_two max_three min_three max_four min_four
open Classical in
noncomputable def eqT (a b : Scene) : Bool := decide (Right a ∧ Right b ∧ SameT a b)
open Classical in
theorem eqT_yes {a b : Scene} (ha : Right a) (hb : Right b) (h : SameT a b) : eqT a b = true := decide_eq_true ⟨ha, hb, h⟩
open Classical in
theorem eqT_no {a b : Scene} (h : ¬ (Right a ∧ Right b ∧ SameT a b)) : eqT a b = false := decide_eq_false h
theorem canR_root (s : Scene) : ∃ r : Nat, (canonR s).root = (r : Int) := by
  unfold canonR
  split
  · rename_i h
    have := gcheck_right.1 h
    have h0 := this.r0
    have h1 := this.r1
    exact ⟨s.nodes.length - 1, by show (s.nodes.length : Int) - 1 = _; omega⟩
  · exact ⟨0, rfl⟩
theorem Fit.scbd {s : Scene} (h : Fit s.nodes) : ScBd s := ⟨fun i hi => ⟨(h.2 i hi).small, fun x hx => Nat.le_trans ((h.2 i hi).size x hx) (by omega), (h.2 i hi).nb⟩, by have := h.rows; omega⟩
theorem canR_eq {s : Scene} (h : Right s) : canonR s = canS s := by
  unfold canonR
  rw [if_pos (gcheck_right.2 h)]
  rfl
theorem two_roots (T : Lib.PrintTabs) {a b : Scene} (ha : Right a) (hb : Right b) : ∃ o1 o2 : List Int, (allS T [canS a, canS b]).2 = [o1, o2] ∧ o1.length = a.nodes.length ∧ o2.length = b.nodes.length ∧ (rd o1 ((a.nodes.length : Int) - 1) = rd o2 ((b.nodes.length : Int) - 1) ↔ SameT a b) := by
  have hA : ∀ s ∈ [canS a, canS b], AheadN s.nodes := fun s hs => by
    rcases List.mem_cons.1 hs with rfl | hs
    · exact canon_ahead ha
    · rw [List.mem_singleton.1 hs]
      exact canon_ahead hb
  refine ⟨(ownS T [] (canonL a)).2, (ownS T (ownS T [] (canonL a)).1 (canonL b)).2, rfl, by rw [own_len T _ _ _ rfl, canon_len ha], by rw [own_len T _ _ _ rfl, canon_len hb], ?_⟩
  have h1 := all_alk (T := T) hA (i := 0) (k := 1) (by simp) (by simp) (j := a.nodes.length - 1) (m := b.nodes.length - 1) (same_lt ha) (same_lt hb)
  have e1 : ((a.nodes.length - 1 : Nat) : Int) = (a.nodes.length : Int) - 1 := by have := right_pos ha; omega
  have e2 : ((b.nodes.length - 1 : Nat) : Int) = (b.nodes.length : Int) - 1 := by have := right_pos hb; omega
  rw [e1, e2] at h1
  have h2 : ((alkT (canonL a) (canonL b) (canonL a).length).getD (a.nodes.length - 1) []).getD (b.nodes.length - 1) false = alkC (canonL a) (canonL b) (alkT (canonL a) (canonL b) (a.nodes.length - 1)) (a.nodes.length - 1) (b.nodes.length - 1) := alk_cell _ _ (same_lt ha) (same_lt hb)
  refine Iff.trans h1.symm ?_
  show ((alkT (canonL a) (canonL b) (canonL a).length).getD (a.nodes.length - 1) []).getD (b.nodes.length - 1) false = true ↔ _
  rw [h2]
  exact Iff.rfl
set_option maxRecDepth 100000 in
set_option maxHeartbeats 8000000 in
theorem uequal_any (T : Lib.PrintTabs) (A : Option Addr) (c : Nat) (a : Scene) (B : Option Addr) (d : Nat) (b : Scene) (w : World) (h : kNode.C w A a.nodes.length a.nodes) (hc : a.nodes.length ≤ c) (h' : kNode.C w B b.nodes.length b.nodes) (hd : b.nodes.length ≤ d)
    (hFa : Fit a.nodes) (hFb : Fit b.nodes) (hT : QTabs T w) :
    Calls Tryd.prog 24 #[.agg #[.slice A a.nodes.length c, .int .i64 a.root], .agg #[.slice B b.nodes.length d, .int .i64 b.root]] w fun e w' => e = .returned (.bool (eqT a b)) ∧ Below w.heap.size w w' := by
  have HR := Aside0.mk h
  have HR' := Aside0.mk h'
  have HFa := Aside0.mk hFa
  have HFb := Aside0.mk hFb
  have HT := Aside0.mk hT
  have hu := Tryd.underlying34
  have hA0 := below_alloc (Below.refl w.heap.size w) (.cells #[.slice A a.nodes.length c, .int .i64 a.root] 34)
  have hA1 := below_alloc (Below.refl (w.alloc (.cells #[.slice A a.nodes.length c, .int .i64 a.root] 34)).heap.size (w.alloc (.cells #[.slice A a.nodes.length c, .int .i64 a.root] 34))) (.cells #[.slice B b.nodes.length d, .int .i64 b.root] 34)
  have HB := Aside0.mk (below_step hA0 hA1)
  have k0 := pw_cell_below hA1 (box_cell w _ rfl #[.slice A a.nodes.length c, .int .i64 a.root] 34 0 (.slice A a.nodes.length c) rfl)
  have k1 := pw_cell_below hA1 (box_cell w _ rfl #[.slice A a.nodes.length c, .int .i64 a.root] 34 1 (.int .i64 a.root) rfl)
  have q0 := box_cell (w.alloc (.cells #[.slice A a.nodes.length c, .int .i64 a.root] 34)) (w.heap.size + 1) (by simp) #[.slice B b.nodes.length d, .int .i64 b.root] 34 0 (.slice B b.nodes.length d) rfl
  have q1 := box_cell (w.alloc (.cells #[.slice A a.nodes.length c, .int .i64 a.root] 34)) (w.heap.size + 1) (by simp) #[.slice B b.nodes.length d, .int .i64 b.root] 34 1 (.int .i64 b.root) rfl
  clear h h' hFa hFb hT hA0 hA1
  go_enter Tryd.func24, Tryd.ntmps24
  go_wp2_with fail
  refine (canon_any A c a _ (Kd.C_below HR.out HB.out) (by have := HFa.out.rows; omega) HFa.out.small).mono ?_
  rintro e w1 ⟨A1, c1, rfl, hR1, hB1⟩
  replace q0 := pw_cell_below hB1 q0
  replace q1 := pw_cell_below hB1 q1
  have HB1 := Aside0.mk (below_step HB.out hB1)
  have HC1 := Aside0.mk (Kd.R_reads' hR1).2.2
  have hc1 := (Kd.R_reads' hR1).2.1
  clear hB1 HB k0 k1 hR1
  obtain ⟨CA, hCA⟩ : ∃ CA, CA = canonR a := ⟨_, rfl⟩
  obtain ⟨ra, hra⟩ := canR_root a
  rw [hra]
  rw [← hCA] at HC1 hc1 hra ⊢
  have HCA := Aside0.mk hCA
  have HRA := Aside0.mk hra
  clear hCA hra
  have hA2 := below_alloc (Below.refl w1.heap.size w1) (.cells #[.slice A1 CA.nodes.length c1, .int .i64 (ra : Int)] 34)
  have x0 := box_cell w1 _ rfl #[.slice A1 CA.nodes.length c1, .int .i64 (ra : Int)] 34 0 (.slice A1 CA.nodes.length c1) rfl
  have x1 := box_cell w1 _ rfl #[.slice A1 CA.nodes.length c1, .int .i64 (ra : Int)] 34 1 (.int .i64 (ra : Int)) rfl
  replace q0 := pw_cell_below hA2 q0
  replace q1 := pw_cell_below hA2 q1
  have HB2 := Aside0.mk (below_step HB1.out hA2)
  have HC2 := Aside0.mk (Kd.C_below HC1.out hA2)
  clear hA2 HB1 HC1
  go_wp2_with fail
  generalize w1.alloc (.cells #[.slice A1 CA.nodes.length c1, .int .i64 (ra : Int)] 34) = w2 at x0 x1 q0 q1 HB2 HC2 ⊢
  refine (canon_any B d b w2 (Kd.C_below HR'.out HB2.out) (by have := HFb.out.rows; omega) HFb.out.small).mono ?_
  rintro e w3 ⟨A3, c3, rfl, hR3, hB3⟩
  replace x0 := pw_cell_below hB3 x0
  replace x1 := pw_cell_below hB3 x1
  have HB3 := Aside0.mk (below_step HB2.out hB3)
  have HC3 := Aside0.mk (Kd.C_below HC2.out hB3)
  have HD3 := Aside0.mk (Kd.R_reads' hR3).2.2
  have hc3 := (Kd.R_reads' hR3).2.1
  clear hB3 HB2 HC2 hR3 q0 q1
  obtain ⟨CB, hCB⟩ : ∃ CB, CB = canonR b := ⟨_, rfl⟩
  obtain ⟨rb, hrb⟩ := canR_root b
  rw [hrb]
  rw [← hCB] at HD3 hc3 hrb ⊢
  have HCB := Aside0.mk hCB
  have HRB := Aside0.mk hrb
  clear hCB hrb
  have hA4 := below_alloc (Below.refl w3.heap.size w3) (.cells #[.slice A3 CB.nodes.length c3, .int .i64 (rb : Int)] 34)
  have y0 := box_cell w3 _ rfl #[.slice A3 CB.nodes.length c3, .int .i64 (rb : Int)] 34 0 (.slice A3 CB.nodes.length c3) rfl
  have y1 := box_cell w3 _ rfl #[.slice A3 CB.nodes.length c3, .int .i64 (rb : Int)] 34 1 (.int .i64 (rb : Int)) rfl
  replace x0 := pw_cell_below hA4 x0
  replace x1 := pw_cell_below hA4 x1
  have HB4 := Aside0.mk (below_step HB3.out hA4)
  have HC4 := Aside0.mk (Kd.C_below HC3.out hA4)
  have HD4 := Aside0.mk (Kd.C_below HD3.out hA4)
  by_cases hea : (gcheck a).1 = 0
  · by_cases heb : (gcheck b).1 = 0
    · have HRa := Aside0.mk (gcheck_right.1 hea)
      have HRb := Aside0.mk (gcheck_right.1 heb)
      have hca := HCA.out.trans (canR_eq HRa.out)
      have hcb := HCB.out.trans (canR_eq HRb.out)
      obtain ⟨o1, o2, ho, hl1, hl2, hs⟩ := two_roots T HRa.out HRb.out
      have HO := Aside0.mk (show (allS T [CA, CB]).2 = [o1, o2] from by rw [hca, hcb]; exact ho)
      have HFA := Aside0.mk (show Fit CA.nodes from by rw [hca]; exact HFa.out.canon HRa.out)
      have HFB := Aside0.mk (show Fit CB.nodes from by rw [hcb]; exact HFb.out.canon HRb.out)
      have HAA := Aside0.mk (show AheadN CA.nodes from by rw [hca]; exact canon_ahead HRa.out)
      have HAB := Aside0.mk (show AheadN CB.nodes from by rw [hcb]; exact canon_ahead HRb.out)
      have hra2 : (a.nodes.length : Int) - 1 = (ra : Int) := by rw [← HRA.out, hca]; rfl
      have hrb2 : (b.nodes.length : Int) - 1 = (rb : Int) := by rw [← HRB.out, hcb]; rfl
      have hpa := right_pos HRa.out
      have hpb := right_pos HRb.out
      rw [hra2, hrb2] at hs
      have HE := Aside0.mk (show (rd o1 (ra : Int) == rd o2 (rb : Int)) = eqT a b from by
        by_cases hst : SameT a b
        · rw [eqT_yes HRa.out HRb.out hst, hs.2 hst]; simp
        · rw [eqT_no (fun hh => hst hh.2.2)]
          have : ¬ rd o1 (ra : Int) = rd o2 (rb : Int) := fun e => hst (hs.1 e)
          simpa using this)
      have HL1 := Aside0.mk (show ra < o1.length ∧ rb < o2.length from ⟨by omega, by omega⟩)
      have HKA := Aside0.mk (show kScene.K _ CA [.slice A1 CA.nodes.length c1, .int .i64 (ra : Int)] from by rw [← HRA.out]; exact scK HC4.out hc1)
      have HKB := Aside0.mk (show kScene.K _ CB [.slice A3 CB.nodes.length c3, .int .i64 (rb : Int)] from by rw [← HRB.out]; exact scK HD4.out hc3)
      rw [hea, heb]
      clear hea heb hca hcb hs hl1 hl2 ho hra2 hrb2 hA4 HC4 HD4
      go_wp2_with fail
      have hz4 : (w3.alloc (.cells #[.slice A3 CB.nodes.length c3, .int .i64 (rb : Int)] 34)).heap.size = w3.heap.size + 1 := by simp
      have hrow := sc_row2 (w3.alloc (.cells #[.slice A3 CB.nodes.length c3, .int .i64 (rb : Int)] 34)) _ hz4 HKA.out HKB.out
      generalize w3.alloc (.cells #[.slice A3 CB.nodes.length c3, .int .i64 (rb : Int)] 34) = w4 at x0 x1 y0 y1 HB4 HKA HKB hz4 hrow ⊢
      have hA5 := below_alloc (Below.refl w4.heap.size w4) (.cells #[.slice A1 CA.nodes.length c1, .int .i64 (ra : Int), .slice A3 CB.nodes.length c3, .int .i64 (rb : Int)] 34)
      refine (classes_any T _ 2 [CA, CB] _ hrow (fun i hi => by
        have hi : i < 2 := hi
        match i, hi with
        | 0, _ => exact HFA.out.scbd
        | 1, _ => exact HFB.out.scbd) (fun i hi => by
        have hi : i < 2 := hi
        match i, hi with
        | 0, _ => exact HAA.out
        | 1, _ => exact HAB.out) (by simp) (by simp) (HT.out.below (below_step HB4.out hA5))).mono ?_
      rintro e w6 ⟨A6, c6, rfl, hc6, hC6, hB6⟩
      have hB6 := below_step hA5 hB6
      replace x0 := pw_cell_below hB6 x0
      replace x1 := pw_cell_below hB6 x1
      replace y0 := pw_cell_below hB6 y0
      replace y1 := pw_cell_below hB6 y1
      have HB6 := Aside0.mk (below_step HB4.out hB6)
      rw [HO.out] at hC6
      have HC6 := Aside0.mk (show kInts.C w6 A6 2 [o1, o2] from hC6)
      clear hB6 hA5 hrow hC6 HKA HKB
      obtain ⟨al, B0, d0, rfl, z0, -, hD0⟩ := at_ints HC6.out 0 (by simp)
      obtain ⟨al', B2, d2, el, z2, -, hD2⟩ := at_ints HC6.out 1 (by simp)
      injection el with el
      subst el
      have hD0 : (Kd.int .i64).C w6 B0 o1.length o1 := hD0
      have hD2 : (Kd.int .i64).C w6 B2 o2.length o2 := hD2
      have z0 : w6.cell? al = some (.slice B0 o1.length d0) := by
        rw [add_zero al] at z0
        exact z0
      have z2 : w6.cell? (al.add (1 : Nat)) = some (.slice B2 o2.length d2) := z2
      replace z2 : w6.cell? ⟨al.block, al.off + 1, none⟩ = some (.slice B2 o2.length d2) := z2
      obtain ⟨b0, rfl, r0⟩ := at_nat hD0 ra HL1.out.1
      obtain ⟨b2, rfl, r2⟩ := at_nat hD2 rb HL1.out.2
      have i1 : (ra : Int) < (o1.length : Int) := by have := HL1.out.1; omega
      have i2 : (rb : Int) < (o2.length : Int) := by have := HL1.out.2; omega
      have hE := HE.out
      have h2l : ([CA, CB] : List Scene).length = 2 := rfl
      clear hD0 hD2
      go_wp2
      go_quiet (fail)
      go_wp2
      go_ret
      exact ⟨rfl, below_step HB6.out (pw_below_drewN (Below.refl _ _) nq)⟩
    · have HE := Aside0.mk (eqT_no (a := a) (b := b) (fun hh => heb (gcheck_right.2 hh.2.1)))
      have d1 : ((gcheck b).1 != 0) = true := by simpa using heb
      rw [hea]
      clear hea heb x0 x1 y0 y1 hA4
      go_wp2
      go_ret
      exact ⟨ret_bool HE.out.symm, HB4.out⟩
  · have HE := Aside0.mk (eqT_no (a := a) (b := b) (fun hh => hea (gcheck_right.2 hh.1)))
    have d1 : ((gcheck a).1 != 0) = true := by simpa using hea
    clear hea x0 x1 y0 y1 hA4
    go_wp2
    go_ret
    exact ⟨ret_bool HE.out.symm, HB4.out⟩
end Go.Proofs.YtdfneldenipljaaDoor.L
end
section
namespace Go.Proofs.YtdfneldenipljaaDoor.L
open Go.RowKit Go.ChangeShapes Go.WideShapes Go.Proofs.YtdfneldenipljaaDoorW.PrintWords Go.Proofs.YtdfneldenipljaaDoorW.PrintLast Go.Proofs.YtdfneldenipljaaDoorW.PrintMore
attribute [local go_sem] max2_int min2_int max_two min_two max_three min_three max_four min_four
open Go.Proofs.YtdfneldenipljaaDoor.PClassNumbers
structure LedInv (ns : List Node) (K : List Int) (met : List Bool) (vs work : List Int) : Prop where
  len : met.length = ns.length
  tell : ∀ i : Nat, i < ns.length → rdOf false met (i : Int) = decide ((i : Int) ∈ vs)
  vpl : ∀ x ∈ vs, 0 ≤ x ∧ x < (ns.length : Int)
  wpl : ∀ x ∈ work, 0 ≤ x ∧ x < (ns.length : Int)
  vin : ∀ x ∈ vs, Rch ns K x
  win : ∀ x ∈ work, Rch ns K x
  k0 : ∀ k ∈ K, k ∈ vs ∨ k ∈ work
  clo : ∀ x ∈ vs, ∀ k ∈ kids ns x, k ∈ vs ∨ k ∈ work
theorem LedInv.done {ns : List Node} {K : List Int} {met : List Bool} {vs : List Int} (h : LedInv ns K met vs []) (x : Int) : Rch ns K x ↔ x ∈ vs := by
  refine ⟨fun hr => ?_, h.vin x⟩
  induction hr with
  | base hk => exact (h.k0 _ hk).resolve_right (by simp)
  | step _ hk ih => exact (h.clo _ ih _ hk).resolve_right (by simp)
theorem LedInv.skip {ns : List Node} {K : List Int} {met : List Bool} {vs work : List Int} {x : Int} (h : LedInv ns K met vs (x :: work)) (hx : x ∈ vs) : LedInv ns K met vs work :=
  ⟨h.len, h.tell, h.vpl, fun y hy => h.wpl y (by simp [hy]), h.vin, fun y hy => h.win y (by simp [hy]),
    fun k hk => (h.k0 k hk).elim .inl (fun hm => by
      rcases List.mem_cons.1 hm with rfl | hm
      · exact .inl hx
      · exact .inr hm),
    fun y hy k hk => (h.clo y hy k hk).elim .inl (fun hm => by
      rcases List.mem_cons.1 hm with rfl | hm
      · exact .inl hx
      · exact .inr hm)⟩
theorem LedInv.meet {ns : List Node} {K : List Int} {met : List Bool} {vs work : List Int} {x : Int} (hP : Places ns) (h : LedInv ns K met vs (x :: work)) (hx : ¬ x ∈ vs) : LedInv ns K (met.set x.toNat true) (x :: vs) (work ++ kids ns x) := by
  have hxp := h.wpl x (by simp)
  obtain ⟨q, rfl⟩ : ∃ q : Nat, x = (q : Int) := ⟨x.toNat, by omega⟩
  have hkp : ∀ k ∈ kids ns q, 0 ≤ k ∧ k < (ns.length : Int) := fun k hk => hP q (by omega) k hk
  refine ⟨by rw [List.length_set]; exact h.len, fun i hi => ?_, fun y hy => ?_, fun y hy => ?_, fun y hy => ?_, fun y hy => ?_, fun k hk => ?_, fun y hy k hk => ?_⟩
  · have ht := h.tell i hi
    unfold rdOf at ht ⊢
    rw [Int.toNat_natCast] at ht ⊢
    rw [Int.toNat_natCast, List.getD_eq_getElem?_getD, List.getElem?_set]
    rw [List.getD_eq_getElem?_getD] at ht
    by_cases e : q = i
    · subst e
      rw [if_pos rfl, if_pos (by rw [h.len]; exact hi)]
      simp
    · rw [if_neg e, ht]
      have : ((i : Int) ∈ (q : Int) :: vs) ↔ (i : Int) ∈ vs := by
        rw [List.mem_cons]
        exact ⟨fun h => h.resolve_left (fun e' => e (by omega)), .inr⟩
      exact decide_eq_decide.2 this.symm
  · rcases List.mem_cons.1 hy with rfl | hy
    · exact hxp
    · exact h.vpl y hy
  · rcases List.mem_append.1 hy with hy | hy
    · exact h.wpl y (by simp [hy])
    · exact hkp y hy
  · rcases List.mem_cons.1 hy with rfl | hy
    · exact h.win _ (by simp)
    · exact h.vin y hy
  · rcases List.mem_append.1 hy with hy | hy
    · exact h.win y (by simp [hy])
    · exact .step (h.win _ (List.mem_cons_self)) hy
  · rcases h.k0 k hk with hm | hm
    · exact .inl (by simp [hm])
    · rcases List.mem_cons.1 hm with rfl | hm
      · exact .inl (by simp)
      · exact .inr (by simp [hm])
  · rcases List.mem_cons.1 hy with rfl | hy
    · exact .inr (by simp [hk])
    · rcases h.clo y hy k hk with hm | hm
      · exact .inl (by simp [hm])
      · rcases List.mem_cons.1 hm with rfl | hm
        · exact .inl (by simp)
        · exact .inr (by simp [hm])
def Tells (ns : List Node) (K : List Int) (r : List Bool) : Prop := r.length = ns.length ∧ ∀ i : Nat, i < ns.length → (rdOf false r (i : Int) = true ↔ Rch ns K (i : Int))
theorem led_l0 {ns : List Node} (hP : Places ns) (K : List Int) (root : Int) (hM : rows ns ≤ 1000000) : ∀ (m : Nat) (met : List Bool) (vs work : List Int), LedInv ns K met vs work → left ns vs + work.length < m → work.length ≤ 3000000 →
    (work.length + left ns vs ≤ 3000000) → ∃ r, dioramaref09_Led.l0 m met work (ns.map toS) root = some r ∧ Tells ns K r
  | 0, _, _, _, _, h, _, _ => by omega
  | m + 1, met, vs, [], h, _, _, _ => by
    rw [dioramaref09_Led.l0, if_neg (by simp)]
    refine ⟨_, rfl, h.len, fun i hi => ?_⟩
    rw [h.tell i hi, decide_eq_true_iff]
    exact (h.done _).symm
  | m + 1, met, vs, x :: work, h, hl, hw, hs => by
    have hxp := h.wpl x (by simp)
    have hrd : rd (x :: work) 0 = x := rfl
    have hlen : (((x :: work).length : Nat) : Int) = (work.length : Int) + 1 := by simp
    rw [dioramaref09_Led.l0, if_pos (by rw [hlen]; omega), if_pos (by rw [hlen]; omega), if_pos (by rw [hlen]; omega), Option.bind_some, hrd, if_pos hxp.1, if_pos (by rw [h.len]; exact hxp.2)]
    rw [show (x :: work).drop (1 : Int).toNat = work from rfl]
    have hlen' : (x :: work).length = work.length + 1 := rfl
    obtain ⟨q, rfl⟩ : ∃ q : Nat, x = (q : Int) := ⟨x.toNat, by omega⟩
    have ht := h.tell q (by omega)
    by_cases hx : (q : Int) ∈ vs
    · rw [if_pos (by rw [ht]; exact decide_eq_true hx)]
      exact led_l0 hP K root hM m met vs work (h.skip hx) (by omega) (by omega) (by omega)
    · rw [if_neg (by rw [ht, decide_eq_false hx]; decide), Option.bind_some, if_pos (by simp; omega), Option.bind_some, if_pos (by rw [List.length_map]; exact hxp.2)]
      have hk := kids_to ns (q : Int)
      have hlc := left_cons (ns := ns) (vs := vs) (x := q) (by omega) hx
      have hwt : wt ns q = (kids ns (q : Int)).length + 1 := rfl
      rw [hk, if_pos (by simp; omega), List.nil_append]
      exact led_l0 hP K root hM m _ _ _ (h.meet hP hx) (by rw [List.length_append]; omega) (by rw [List.length_append]; omega) (by rw [List.length_append]; omega)
theorem wt_le {ns : List Node} {p : Nat} (hp : p < ns.length) : wt ns p ≤ rows ns := by
  have := left_cons (ns := ns) (vs := []) (x := p) hp (by simp)
  rw [left_nil] at this
  omega
theorem led_f {ns : List Node} (hP : Places ns) (root : Int) (hM : rows ns ≤ 1000000) (p : Nat) (hp : p < ns.length) (k : Nat) (hk : 2 * rows ns < k) :
    ∃ r, dioramaref09_Led.f k (ns.map toS) root (p : Int) = some r ∧ Tells ns (kids ns (p : Int)) r := by
  unfold dioramaref09_Led.f
  have hlr := len_rows ns
  have hl : (((ns.map toS).length : Nat) : Int) = (ns.length : Int) := by rw [List.length_map]
  have hwt : wt ns p = (kids ns (p : Int)).length + 1 := rfl
  have hle := wt_le hp
  rw [hl, if_pos (by omega), if_pos (by rw [Int.toNat_natCast]; omega), Option.bind_some, if_pos (by omega), if_pos (by omega), kids_to, if_pos (by simp; omega), List.nil_append, Int.toNat_natCast]
  refine led_l0 hP (kids ns (p : Int)) root hM k _ [] _ ⟨by simp, fun i hi => ?_, by simp, fun x hx => hP p hp x hx, by simp, fun x hx => .base hx, fun k hk => .inr hk, by simp⟩ ?_ (by omega) ?_
  · unfold rdOf
    rw [Int.toNat_natCast, List.getD_eq_getElem?_getD, List.getElem?_replicate, if_pos hi]
    simp
  · rw [left_nil]; omega
  · rw [left_nil]; omega
theorem rch_root {ns : List Node} {r x : Int} : Rch ns [r] x ↔ x = r ∨ Rch ns (kids ns r) x := by
  refine ⟨fun h => ?_, fun h => ?_⟩
  · induction h with
    | base hk => exact .inl (List.mem_singleton.1 hk)
    | step _ hk ih =>
      rcases ih with rfl | ih
      · exact .inr (.base hk)
      · exact .inr (.step ih hk)
  · rcases h with rfl | h
    · exact .base (by simp)
    · exact h.under
theorem chk_l1 (s : Scene) (led : List Bool) (hn : s.nodes.length ≤ 1000000) (hT : Tells s.nodes (kids s.nodes s.root) led) : ∀ (m i K : Nat), s.nodes.length ≤ i + m → i ≤ s.nodes.length → (∀ j : Nat, j < i → Rch s.nodes [s.root] (j : Int)) →
    dioramaref09_Check.l1 (K + 1 + m) led (i : Int) (s.nodes.map toS) s.root = some (if 0 ≤ looseAt s then (15, looseAt s) else (0, 0))
  | 0, i, K, h1, h2, h3 => by
    rw [show K + 1 + 0 = K + 1 by omega, dioramaref09_Check.l1, if_neg (by rw [List.length_map]; omega)]
    have : looseAt s = -1 := firstP_no _ 0 (fun j hj h => h (by rw [Nat.zero_add]; exact h3 j (by omega)))
    rw [this]; rfl
  | m + 1, i, K, h1, h2, h3 => by
    by_cases hi : i < s.nodes.length
    · rw [show K + 1 + (m + 1) = (K + 1 + m) + 1 by omega, dioramaref09_Check.l1, if_pos (by rw [List.length_map]; omega), wrap64_in ((i : Int) + 1) (by omega), show (i : Int) + 1 = ((i + 1 : Nat) : Int) from rfl]
      have next : Rch s.nodes [s.root] (i : Int) → dioramaref09_Check.l1 (K + 1 + m) led ((i + 1 : Nat) : Int) (s.nodes.map toS) s.root = some (if 0 ≤ looseAt s then (15, looseAt s) else (0, 0)) := fun hr =>
        chk_l1 s led hn hT m (i + 1) K (by omega) (by omega) (ext_lt (P := fun j : Nat => Rch s.nodes [s.root] (j : Int)) h3 hr)
      by_cases hr : (i : Int) = s.root
      · rw [if_pos hr]
        exact next (rch_root.2 (.inl hr))
      · rw [if_neg hr, if_pos (Int.natCast_nonneg i), if_pos (by rw [hT.1]; omega)]
        have ht := hT.2 i hi
        by_cases hl : rdOf false led (i : Int) = true
        · rw [if_pos hl]
          exact next (rch_root.2 (.inr (ht.1 hl)))
        · rw [if_neg hl]
          have : looseAt s = (i : Int) := by
            have := firstP_at (p := fun i => ¬ Rch s.nodes [s.root] (i : Int)) s.nodes.length 0 i hi (fun j hj h => h (by rw [Nat.zero_add]; exact h3 j hj)) (by rw [Nat.zero_add]; exact fun h => hl (ht.2 ((rch_root.1 h).resolve_left hr)))
            rw [Nat.zero_add] at this
            exact this
          rw [this, if_pos (Int.natCast_nonneg i)]
    · have := chk_l1 s led hn hT m i (K + 1) (by omega) h2 h3
      rw [show K + 1 + 1 + m = K + 1 + (m + 1) by omega] at this
      exact this
theorem chk_l0 (s : Scene) (hM : rows s.nodes ≤ 1000000) (hP : Places s.nodes) (h0 : 0 ≤ s.root) (h1 : s.root < s.nodes.length) : ∀ (m i K : Nat), s.nodes.length ≤ i + m → i ≤ s.nodes.length → (∀ j : Nat, j < i → ¬ Cyc s.nodes (j : Int)) →
    dioramaref09_Check.l0 (K + 2 * rows s.nodes + s.nodes.length + 3 + m) (i : Int) (s.nodes.map toS) s.root = some (if 0 ≤ cycAt s.nodes then (14, cycAt s.nodes) else if 0 ≤ looseAt s then (15, looseAt s) else (0, 0))
  | 0, i, K, k1, k2, k3 => by
    have hlr := len_rows s.nodes
    rw [show K + 2 * rows s.nodes + s.nodes.length + 3 + 0 = (K + 2 * rows s.nodes + s.nodes.length + 2) + 1 by omega, dioramaref09_Check.l0, if_neg (by rw [List.length_map]; omega)]
    obtain ⟨q, hq⟩ : ∃ q : Nat, s.root = (q : Int) := ⟨s.root.toNat, by omega⟩
    obtain ⟨r, hr, hT⟩ := led_f hP s.root hM q (by omega) (K + 2 * rows s.nodes + s.nodes.length + 2) (by omega)
    rw [← hq] at hr hT
    rw [hr, Option.bind_some]
    have hc : cycAt s.nodes = -1 := firstP_no _ 0 (fun j hj h => k3 j (by omega) (by rwa [Nat.zero_add] at h))
    rw [hc, if_neg (by decide)]
    have := chk_l1 s r (by omega) hT s.nodes.length 0 (K + 2 * rows s.nodes + 1) (by omega) (by omega) (fun j hj => by omega)
    rw [show K + 2 * rows s.nodes + 1 + 1 + s.nodes.length = K + 2 * rows s.nodes + s.nodes.length + 2 by omega] at this
    exact this
  | m + 1, i, K, k1, k2, k3 => by
    by_cases hi : i < s.nodes.length
    · have hlr := len_rows s.nodes
      rw [show K + 2 * rows s.nodes + s.nodes.length + 3 + (m + 1) = (K + 2 * rows s.nodes + s.nodes.length + 3 + m) + 1 by omega, dioramaref09_Check.l0, if_pos (by rw [List.length_map]; omega)]
      obtain ⟨r, hr, hT⟩ := led_f hP s.root hM i hi (K + 2 * rows s.nodes + s.nodes.length + 3 + m) (by omega)
      rw [hr, Option.bind_some, if_pos (Int.natCast_nonneg i), if_pos (by rw [hT.1]; omega), wrap64_in ((i : Int) + 1) (by omega), show (i : Int) + 1 = ((i + 1 : Nat) : Int) from rfl]
      have ht := hT.2 i hi
      by_cases hl : rdOf false r (i : Int) = true
      · rw [if_pos hl]
        have : cycAt s.nodes = (i : Int) := by
          have := firstP_at (p := fun i => Cyc s.nodes (i : Int)) s.nodes.length 0 i hi (fun j hj h => k3 j hj (by rwa [Nat.zero_add] at h)) (by rw [Nat.zero_add]; exact ht.1 hl)
          rw [Nat.zero_add] at this
          exact this
        rw [this, if_pos (Int.natCast_nonneg i)]
      · rw [if_neg hl]
        exact chk_l0 s hM hP h0 h1 m (i + 1) K (by omega) (by omega) (ext_lt (P := fun j : Nat => ¬ Cyc s.nodes (j : Int)) k3 (fun h => hl (ht.2 h)))
    · have := chk_l0 s hM hP h0 h1 m i (K + 1) (by omega) k2 k3
      rw [show K + 1 + 2 * rows s.nodes + s.nodes.length + 3 + m = K + 2 * rows s.nodes + s.nodes.length + 3 + (m + 1) by omega] at this
      exact this
theorem chk_f (s : Scene) (hM : rows s.nodes ≤ 1000000) : dioramaref09_Check.f (2 * rows s.nodes + 2 * s.nodes.length + 3) (s.nodes.map toS) s.root = some (gcheck s) := by
  unfold dioramaref09_Check.f dioramaref09_Place.f dioramaref09_Refs.f
  rw [Option.bind_some, List.length_map, Option.bind_some, map_of_to]
  by_cases h0 : s.root < 0 ∨ (s.nodes.length : Int) ≤ s.root
  · have : isPl s.nodes.length s.root = false := by unfold isPl; exact decide_eq_false (by omega)
    rw [this, if_neg (by decide), gcheck_root h0]
  · have : isPl s.nodes.length s.root = true := by unfold isPl; exact decide_eq_true (by omega)
    rw [this, if_pos rfl]
    by_cases h : 0 ≤ refsAt s.nodes
    · rw [if_pos h, gcheck_refs h0 h]
    · rw [if_neg h]
      have hP : Places s.nodes := Places.of_refs ((refsAt_lt _).resolve_right h)
      have := chk_l0 s hM hP (by omega) (by omega) s.nodes.length 0 0 (by omega) (by omega) (fun j hj => by omega)
      rw [show 0 + 2 * rows s.nodes + s.nodes.length + 3 + s.nodes.length = 2 * rows s.nodes + 2 * s.nodes.length + 3 by omega] at this
      refine this.trans ?_
      unfold gcheck
      rw [if_neg h0, if_neg h]
theorem rchk_any (A : Option Addr) (c : Nat) (s : Scene) (w : World) (h : kNode.C w A s.nodes.length s.nodes) (hc : s.nodes.length ≤ c) (hM : rows s.nodes ≤ 1000000) :
    Calls Tryd.prog 31 #[.agg #[.slice A s.nodes.length c, .int .i64 s.root]] w fun e w' => e = .returned (.tuple #[.int .i64 (gcheck s).1, .int .i64 (gcheck s).2]) ∧ Below w.heap.size w w' := by
  have hl : (s.nodes.map toS).length = s.nodes.length := List.length_map ..
  have := dioramaref09_Check.calls (2 * rows s.nodes + 2 * s.nodes.length + 3) A c (s.nodes.map toS) s.root (gcheck s).1 (gcheck s).2 w (by rw [hl]; exact C_to h) (by rw [hl]; exact hc) (chk_f s hM)
  rw [hl] at this
  exact this
end Go.Proofs.YtdfneldenipljaaDoor.L
end
section
namespace Go.Proofs.YtdfneldenipljaaDoor.L
open Go.RowKit Go.ChangeShapes Go.WideShapes Go.Proofs.YtdfneldenipljaaDoorW.PrintWords Go.Proofs.YtdfneldenipljaaDoorW.PrintLast Go.Proofs.YtdfneldenipljaaDoorW.PrintMore
attribute [local go_sem] max2_int min2_int max_two min_two max_three min_three max_four min_four
noncomputable def rightB (s : Scene) : Bool := (gcheck s).1 == 0
set_option maxRecDepth 100000 in
theorem rright_any (A : Option Addr) (c : Nat) (s : Scene) (w : World) (h : kNode.C w A s.nodes.length s.nodes) (hc : s.nodes.length ≤ c) (hM : rows s.nodes ≤ 1000000) :
    Calls Tryd.prog 26 #[.agg #[.slice A s.nodes.length c, .int .i64 s.root]] w fun e w' => e = .returned (.bool (rightB s)) ∧ Below w.heap.size w w' := by
  have HR := Aside0.mk h
  have HB := Aside0.mk (below_alloc (Below.refl w.heap.size w) (.cells #[.slice A s.nodes.length c, .int .i64 s.root] 34))
  have k0 := box_cell w _ rfl #[.slice A s.nodes.length c, .int .i64 s.root] 34 0 (.slice A s.nodes.length c) rfl
  have k1 := box_cell w _ rfl #[.slice A s.nodes.length c, .int .i64 s.root] 34 1 (.int .i64 s.root) rfl
  have hu := Tryd.underlying34
  have HE := Aside0.mk (show rightB s = ((gcheck s).1 == 0) from rfl)
  clear h
  go_enter Tryd.func26, Tryd.ntmps26
  go_wp2_with fail
  refine (rchk_any A c s _ (Kd.C_below HR.out HB.out) hc hM).mono ?_
  rintro e w1 ⟨rfl, hB1⟩
  have HB1 := Aside0.mk (below_step HB.out hB1)
  clear hB1 k0 k1
  generalize (gcheck s).1 = g at HE ⊢
  generalize (gcheck s).2 = g2
  go_wp2
  go_ret
  exact ⟨ret_bool HE.out.symm, HB1.out⟩
end Go.Proofs.YtdfneldenipljaaDoor.L
end
section
namespace Go.Proofs.YtdfneldenipljaaDoor.L
open Go.RowKit Go.ChangeShapes Go.WideShapes Go.Proofs.YtdfneldenipljaaDoorW.PrintWords Go.Proofs.YtdfneldenipljaaDoorW.PrintLast Go.Proofs.YtdfneldenipljaaDoorW.PrintMore
attribute [local go_sem] max2_int min2_int max_two min_two max_three min_three max_four min_four
structure ShRel (w1 : World) (xs : List Node) (l : List Int) (v4 v6 : Value) (W : World) : Prop where
  below : Below w1.heap.size w1 W
  out : W.heap[w1.heap.size]? = some (.cells #[v4, .int .i64 0] 34 (0, 0))
  row : kNode.R 52 W w1.heap.size (fun k => some k ≠ v6.ownBlock) v4 xs
  tor : (Kd.int .i64).R 3 W w1.heap.size (fun _ => True) v6 l
theorem ShRel.start (w1 : World) : ShRel w1 [] [] (.slice none 0 0) (.slice (some ⟨w1.heap.size + 1, 0, none⟩) 0 0) ((w1.alloc (.cells #[.slice none 0 0, .int .i64 0] 34)).alloc (.cells #[] 3)) := by
  have b1 := below_alloc (Below.refl w1.heap.size w1) (.cells #[.slice none 0 0, .int .i64 0] 34)
  have n1 := heap_alloc_new w1 (.cells #[.slice none 0 0, .int .i64 0] 34)
  generalize hW : w1.alloc (.cells #[.slice none 0 0, .int .i64 0] 34) = W at b1 n1
  have hs : W.heap.size = w1.heap.size + 1 := by rw [← hW]; simp
  have b2 := below_alloc (Below.refl W.heap.size W) (.cells #[] 3)
  refine ⟨below_step b1 b2, (b2.block _ (by omega)).trans n1, Kd.R_nil _ _ _ _ _, ?_⟩
  have h := R_empty (Kd.int .i64) 3 W w1.heap.size (by omega)
  rwa [hs] at h
theorem ShRel.later {w1 : World} {xs : List Node} {l : List Int} {v4 v6 : Value} {W W1 : World} (h : ShRel w1 xs l v4 v6 W) (hb : Below W.heap.size W W1) : ShRel w1 xs l v4 v6 W1 :=
  ⟨below_step h.below hb, (hb.block _ (blk_lt h.out)).trans h.out, Kd.R_below h.row hb, Kd.R_below h.tor hb⟩
theorem ShRel.node {w1 : World} {xs ys : List Node} {l : List Int} {v4 v5 v6 : Value} {W w2 : World} (h : ShRel w1 xs l v4 v6 W) (hR : kNode.R 52 w2 w1.heap.size (fun k => some k ≠ v6.ownBlock) v5 ys) (hB : Below w1.heap.size w1 w2) (hg : W.grownBy w2 v4.ownBlock) :
    w2.heap[w1.heap.size]? = some (.cells #[v4, .int .i64 0] 34 (0, 0)) ∧ ShRel w1 ys l v5 v6 (w2.setCell ⟨w1.heap.size, 0, none⟩ v5) := by
  have hb := blk_grown h.out hg (Kd.R_ne h.row h.out (by decide))
  refine ⟨hb, below_set hB (Nat.le_refl _), ?_, R_type hR hb (by decide) v5 0, R_type (Kd.R_grown (Kd.R_mono (Kd.R_tight rfl h.tor) (fun k hk => R_apart h.tor h.row (by decide) k hk)) hg (fun k hk => hk) |> fun h' => Kd.R_mono h' (fun _ _ => trivial)) hb (by decide) v5 0⟩
  have := blk_set hb 0 v5
  simpa using this
theorem ShRel.num {w1 : World} {xs : List Node} {l : List Int} {x : Int} {v4 v6 v7 : Value} {W w2 : World} (h : ShRel w1 xs l v4 v6 W) (hR : (Kd.int .i64).R 3 w2 w1.heap.size (fun _ => True) v7 (l ++ [x])) (hB : Below w1.heap.size w1 w2) (hg : W.grownBy w2 v6.ownBlock) (hat : v7.ownBlock = v6.ownBlock ∨ ∃ b, v7.ownBlock = some b ∧ W.heap.size ≤ b) :
    ShRel w1 xs (l ++ [x]) v4 v7 w2 := by
  refine ⟨hB, blk_grown h.out hg (Kd.R_ne h.tor h.out (by decide)), ?_, hR⟩
  have h1 := Kd.R_grown (Kd.R_bound h.row) hg (fun k hk => hk.1)
  refine Kd.R_mono h1 (fun k hk => ?_)
  rcases hat with e | ⟨b, e, hb⟩
  · rw [e]; exact hk.1
  · rw [e]
    intro e2
    injection e2 with e2
    have := hk.2.2.1
    omega
theorem shrU_new {ns : List Node} {own : List Int} {i : Nat} (h : rd own (i : Int) = (cntF own 0 i : Int)) : shrU ns own (i + 1) = shrU ns own i ++ [reN own (nd ns i)] := by
  show (if rd own (i : Int) = ((shrU ns own i).length : Int) then shrU ns own i ++ [reN own (nd ns i)] else shrU ns own i) = _
  rw [shr_len, if_pos h]
theorem shrU_old {ns : List Node} {own : List Int} {i : Nat} (h : rd own (i : Int) < (cntF own 0 i : Int)) : shrU ns own (i + 1) = shrU ns own i := by
  show (if rd own (i : Int) = ((shrU ns own i).length : Int) then shrU ns own i ++ [reN own (nd ns i)] else shrU ns own i) = _
  rw [shr_len, if_neg (by omega)]
end Go.Proofs.YtdfneldenipljaaDoor.L
end
section
namespace Go.Proofs.YtdfneldenipljaaDoor.L
open Go.RowKit Go.ChangeShapes Go.WideShapes Go.Proofs.YtdfneldenipljaaDoorW.PrintWords Go.Proofs.YtdfneldenipljaaDoorW.PrintLast Go.Proofs.YtdfneldenipljaaDoorW.PrintMore
attribute [local go_sem] max2_int min2_int max_two min_two max_three min_three max_four min_four
def FirstF (own : List Int) (N i : Nat) (f : Lit → Option Value) : Prop :=
  ∀ j : Nat, i ≤ j → j < N → ∃ m : Nat, i ≤ m ∧ m ≤ j ∧ rd own (m : Int) = rd own (j : Int) ∧ (∀ m' : Nat, i ≤ m' → m' < m → rd own (m' : Int) ≠ rd own (j : Int)) ∧ f (.int .i64 (rd own (j : Int))) = some (.int .i64 (m : Int))
theorem FirstF.start (own : List Int) (N : Nat) (f : Lit → Option Value) : FirstF own N N f := fun j h1 h2 => by omega
theorem FirstF.put {own : List Int} {N i : Nat} {f : Lit → Option Value} (h : FirstF own N (i + 1) f) : FirstF own N i (putF f (.int .i64 (rd own (i : Int))) (.int .i64 (i : Int))) := fun j h1 h2 => by
  by_cases e : rd own (j : Int) = rd own (i : Int)
  · exact ⟨i, Nat.le_refl _, h1, e.symm, fun m' a b => by omega, by rw [e, putF_same]⟩
  · have hj : i + 1 ≤ j := by
      rcases Nat.lt_or_ge i j with h | h
      · exact h
      · obtain rfl : i = j := by omega
        exact absurd rfl e
    obtain ⟨m, a1, a2, a3, a4, a5⟩ := h j hj h2
    refine ⟨m, by omega, a2, a3, fun m' b1 b2 => ?_, ?_⟩
    · by_cases em : m' = i
      · subst em; exact fun e2 => e e2.symm
      · exact a4 m' (by omega) b2
    · rw [putF_other _ _ (fun e2 => e (by injection e2))]
      exact a5
theorem FirstF.new {ns : List Node} {own : List Int} {f : Lit → Option Value} (h : FirstF own ns.length 0 f) (hc : Cls ns own) {i : Nat} (hi : i < ns.length) :
    ∃ m : Nat, m ≤ i ∧ f (.int .i64 (rd own (i : Int))) = some (.int .i64 (m : Int)) ∧ ((m = i ∧ rd own (i : Int) = (cntF own 0 i : Int)) ∨ (m ≠ i ∧ rd own (i : Int) < (cntF own 0 i : Int))) := by
  obtain ⟨m, -, a2, a3, a4, a5⟩ := h i (Nat.zero_le _) hi
  refine ⟨m, a2, a5, ?_⟩
  by_cases e : rd own (i : Int) = (cntF own 0 i : Int)
  · refine .inl ⟨Classical.byContradiction fun hm => ?_, e⟩
    have := hc.rise.lt (i := m) (m := i) (by omega) (by omega)
    omega
  · have h1 := hc.rise i hi
    have hlt : rd own (i : Int) < (cntF own 0 i : Int) := by omega
    obtain ⟨j, hj, ej⟩ := cnt_onto (own := own) (c := 0) (m := i) (k := (rd own (i : Int)).toNat) (Nat.zero_le _) (by omega)
    refine .inr ⟨fun hm => ?_, hlt⟩
    subst hm
    exact a4 j (Nat.zero_le _) hj (by rw [ej]; omega)
def AtF (c : Nat) (f : Lit → Option Value) : Prop := ∀ x : Nat, x < c → f (.int .i64 (x : Int)) = some (.int .i64 (x : Int))
theorem AtF.put {c : Nat} {f : Lit → Option Value} (h : AtF c f) : AtF (c + 1) (putF f (.int .i64 (c : Int)) (.int .i64 (c : Int))) := fun x hx => by
  by_cases e : x = c
  · subst e; rw [putF_same]
  · rw [putF_other _ _ (fun e2 => e (by injection e2 with _ e3; omega))]
    exact h x (by omega)
structure SRel (wb : World) (c : Nat) (xs : List Node) (v4 : Value) (W : World) : Prop where
  since : Below wb.heap.size wb W
  map : ∃ f n, n ≤ c ∧ AtF c f ∧ MapF Tryd.prog 3 W wb.heap.size n f
  out : W.heap[wb.heap.size + 1]? = some (.cells #[v4, .int .i64 0] 34 (0, 0))
  row : kNode.R 52 W wb.heap.size (fun _ => True) v4 xs
theorem SRel.start (wb : World) : SRel wb 0 [] (.slice none 0 0) ((wb.alloc (.map #[] 0)).alloc (.cells #[.slice none 0 0, .int .i64 0] 34)) := by
  have b1 := below_alloc (Below.refl wb.heap.size wb) (.map #[] 0)
  have m1 := MapF.made Tryd.prog 3 wb
  have s1 : (wb.alloc (.map #[] 0)).heap.size = wb.heap.size + 1 := by simp
  generalize wb.alloc (.map #[] 0) = W1 at b1 m1 s1 ⊢
  have b2 := below_alloc (Below.refl W1.heap.size W1) (.cells #[.slice none 0 0, .int .i64 0] 34)
  refine ⟨below_step b1 b2, ⟨_, 0, Nat.le_refl _, fun x hx => absurd hx (Nat.not_lt_zero _), m1.below b2⟩, ?_, Kd.R_nil _ _ _ _ _⟩
  rw [← s1]
  simpa using heap_alloc_new W1 _
section
variable {wb W W1 : World} {c : Nat} {xs ys : List Node} {v4 v5 : Value}
theorem SRel.later (h : SRel wb c xs v4 W) (hb : Below W.heap.size W W1) : SRel wb c xs v4 W1 := by
  obtain ⟨f, n, hn, hf, hm⟩ := h.map
  exact ⟨below_step h.since hb, ⟨f, n, hn, hf, hm.below hb⟩, (hb.block _ (blk_lt h.out)).trans h.out, Kd.R_below h.row hb⟩
theorem SRel.put {f : Lit → Option Value} {n : Nat} (h : SRel wb c xs v4 W) (hf : AtF c f) (hn : n ≤ c) (hM : MapF Tryd.prog 3 W wb.heap.size n f) (hM1 : MapF Tryd.prog 3 W1 wb.heap.size (n + 1) (putF f (.int .i64 (c : Int)) (.int .i64 (c : Int)))) (hg : W.grownBy W1 (some wb.heap.size)) : SRel wb (c + 1) xs v4 W1 :=
  ⟨below_map h.since h.since.size hg (Nat.le_refl _), ⟨_, n + 1, by omega, hf.put, hM1⟩, blk_grown h.out hg (fun e => by injection e with e; omega), R_past_map h.row hM hg⟩
theorem SRel.node (h : SRel wb c xs v4 W) (hR : kNode.R 52 W1 wb.heap.size (fun _ => True) v5 ys) (hB : Below wb.heap.size wb W1) (hg : W.grownBy W1 v4.ownBlock) :
    W1.heap[wb.heap.size + 1]? = some (.cells #[v4, .int .i64 0] 34 (0, 0)) ∧ SRel wb c ys v5 (W1.setCell ⟨wb.heap.size + 1, 0, none⟩ v5) := by
  obtain ⟨f, n, hn, hf, hm⟩ := h.map
  have hb := blk_grown h.out hg (Kd.R_ne h.row h.out (by decide))
  refine ⟨hb, below_set hB (Nat.le_succ _), ⟨f, n, hn, hf, (hm.kept hg (hm.ne_row h.row)).setCell (by show wb.heap.size ≠ wb.heap.size + 1; omega) _⟩, ?_, R_type hR hb (by decide) v5 0⟩
  have := blk_set hb 0 v5
  simpa using this
end
open Classical in
noncomputable def shR (T : Lib.PrintTabs) (s : Scene) : Scene := if Right s then shareS T s else ⟨[], 0⟩
open Classical in
theorem shR_yes {T : Lib.PrintTabs} {s : Scene} (h : Right s) : shR T s = shareS T s := if_pos h
open Classical in
theorem shR_no {T : Lib.PrintTabs} {s : Scene} (h : ¬ Right s) : shR T s = ⟨[], 0⟩ := if_neg h
end Go.Proofs.YtdfneldenipljaaDoor.L
end
section
namespace Go.Proofs.YtdfneldenipljaaDoor.L
open Go.RowKit Go.ChangeShapes Go.WideShapes Go.Proofs.YtdfneldenipljaaDoorW.PrintWords Go.Proofs.YtdfneldenipljaaDoorW.PrintLast Go.Proofs.YtdfneldenipljaaDoorW.PrintMore
attribute [local go_sem] max2_int min2_int max_two min_two max_three min_three max_four min_four
theorem canS_at {s : Scene} (h : Right s) : ∃ r : Nat, (canS s).root = (r : Int) ∧ r < (canS s).nodes.length := by
  have h1 := canon_len h
  have h2 := right_pos h
  exact ⟨s.nodes.length - 1, by show (s.nodes.length : Int) - 1 = _; omega, by show _ < (canonL s).length; omega⟩
def decI : Nat → Int
  | 0 => -1
  | p + 1 => (p : Int)
theorem decI_eq (p : Nat) : decI p = (p : Int) - 1 := by
  cases p with
  | zero => rfl
  | succ p => show (p : Int) = ((p + 1 : Nat) : Int) - 1; omega
set_option maxRecDepth 100000 in
set_option maxHeartbeats 8000000 in
theorem ushare_any (T : Lib.PrintTabs) (A : Option Addr) (c : Nat) (s : Scene) (w : World) (h : kNode.C w A s.nodes.length s.nodes) (hc : s.nodes.length ≤ c) (hF : Fit s.nodes) (hT : QTabs T w) :
    Calls Tryd.prog 32 #[.agg #[.slice A s.nodes.length c, .int .i64 s.root]] w (ScenePost (shR T s) (gcheck s).1 w) := by
  have HR := Aside0.mk h
  have HF := Aside0.mk hF
  have HT := Aside0.mk hT
  have hu := Tryd.underlying34
  have hun := Tryd.underlying52
  have hmm := @run_makeMap Tryd.prog
  have HB := Aside0.mk (below_alloc (below_alloc (Below.refl w.heap.size w) (.cells #[.slice A s.nodes.length c, .int .i64 s.root] 34)) (.cells #[.slice none 0 0, .int .i64 0] 34))
  have k0 := box_cell2 w _ rfl #[.slice A s.nodes.length c, .int .i64 s.root] 34 (.cells #[.slice none 0 0, .int .i64 0] 34) 0 _ rfl
  have k1 := box_cell2 w _ rfl #[.slice A s.nodes.length c, .int .i64 s.root] 34 (.cells #[.slice none 0 0, .int .i64 0] 34) 1 _ rfl
  have HL := Aside0.mk (show ((w.alloc (.cells #[.slice A s.nodes.length c, .int .i64 s.root] 34)).alloc (.cells #[.slice none 0 0, .int .i64 0] 34)).heap[w.heap.size + 1]? = some (.cells #[.slice none 0 0, .int .i64 0] 34 (0, 0)) from by
    have := heap_alloc_new (w.alloc (.cells #[.slice A s.nodes.length c, .int .i64 s.root] 34)) (.cells #[.slice none 0 0, .int .i64 0] 34)
    simpa using this)
  clear h hF hT
  go_enter Tryd.func32, Tryd.ntmps32
  go_wp2_with fail
  refine (gcheck_any A c s _ (Kd.C_below HR.out HB.out) (by have := HF.out.rows; omega)).mono ?_
  rintro e w1 ⟨rfl, hB1⟩
  have HB1 := Aside0.mk (below_step HB.out hB1)
  have HL1 := Aside0.mk ((hB1.block _ (blk_lt HL.out)).trans HL.out)
  replace k0 := pw_cell_below hB1 k0
  replace k1 := pw_cell_below hB1 k1
  clear hB1 HL HB
  by_cases hz : (gcheck s).1 = 0
  · have HRt := Aside0.mk (gcheck_right.1 hz)
    have HE := Aside0.mk (show shR T s = canS (shr0 T s) from shR_yes HRt.out)
    have HZ := Aside0.mk hz
    have HCA := Aside0.mk (show AheadN (canS s).nodes from canon_ahead HRt.out)
    have HCF := Aside0.mk (show Fit (canS s).nodes from HF.out.canon HRt.out)
    have HOw := Aside0.mk (show Cls (canS s).nodes (ownC T s) from ownC_cls T HRt.out)
    have HOl := Aside0.mk (show (ownC T s).length = (canS s).nodes.length from own_len T [] _ _ rfl)
    have HSh := Aside0.mk (show shr0 T s = ⟨shrU (canS s).nodes (ownC T s) (canS s).nodes.length, rd (ownC T s) (canS s).root⟩ from rfl)
    have HSr := Aside0.mk (shr0_right T HRt.out)
    have HSf := Aside0.mk (HF.out.shr0 T HRt.out)
    have HAl := Aside0.mk (show (allS T [canS s]).2 = [ownC T s] from rfl)
    have HEc := Aside0.mk (canR_eq HRt.out)
    obtain ⟨r, hr, hrn⟩ := canS_at HRt.out
    have HRr := Aside0.mk (And.intro hr hrn)
    clear hr hrn
    rw [hz]
    clear hz
    go_wp2_with fail
    refine (canon_any A c s w1 (Kd.C_below HR.out HB1.out) (by have := HF.out.rows; omega) HF.out.small).mono ?_
    rintro e w2 ⟨B, d, rfl, hR2, hB2⟩
    rw [HZ.out]
    rw [HEc.out] at hR2 ⊢
    have HB2 := Aside0.mk (below_step HB1.out hB2)
    have HL2 := Aside0.mk ((hB2.block _ (blk_lt HL1.out)).trans HL1.out)
    have HC2 := Aside0.mk (Kd.R_reads' hR2).2.2
    have hcd := (Kd.R_reads' hR2).2.1
    clear hR2 hB2 k0 k1 HL1 HB1 HEc
    generalize shr0 T s = S0 at HSh HSr HSf HE
    generalize ownC T s = own at HOw HOl HSh HAl
    generalize canS s = C at HCA HCF HOw HOl HSh HAl HRr HC2 hcd ⊢
    have hn60 : C.nodes.length ≤ 61 := HCF.out.1
    rw [HRr.out.1]
    have e0 := box_cell w2 _ rfl #[.slice B C.nodes.length d, .int .i64 (r : Int)] 34 0 (.slice B C.nodes.length d) rfl
    have e1 := box_cell w2 _ rfl #[.slice B C.nodes.length d, .int .i64 (r : Int)] 34 1 (.int .i64 (r : Int)) rfl
    have hA3 := below_alloc (Below.refl w2.heap.size w2) (.cells #[.slice B C.nodes.length d, .int .i64 (r : Int)] 34)
    go_wp2_with fail
    have hz3 : (w2.alloc (.cells #[.slice B C.nodes.length d, .int .i64 (r : Int)] 34)).heap.size = w2.heap.size + 1 := by simp
    generalize w2.alloc (.cells #[.slice B C.nodes.length d, .int .i64 (r : Int)] 34) = w3 at e0 e1 hA3 hz3 ⊢
    have HC3 := Aside0.mk (Kd.C_below HC2.out hA3)
    have HL3 := Aside0.mk ((hA3.block _ (blk_lt HL2.out)).trans HL2.out)
    have HB3 := Aside0.mk (below_step HB2.out hA3)
    have hA4 := below_alloc (Below.refl w3.heap.size w3) (.cells #[.slice B C.nodes.length d, .int .i64 (r : Int)] 34)
    have hrow := sc_row1 w3 _ hz3 (show kScene.K w3 C [.slice B C.nodes.length d, .int .i64 (r : Int)] from by rw [← HRr.out.1]; exact scK HC3.out hcd)
    clear hA3 HC2 HL2 HB2
    refine (classes_any T _ 1 [C] _ hrow (fun i hi => by
      obtain rfl : i = 0 := by simp at hi; omega
      exact HCF.out.scbd) (fun i hi => by
      obtain rfl : i = 0 := by simp at hi; omega
      exact HCA.out) (by simp) (by simp) (HT.out.below (below_step HB3.out hA4))).mono ?_
    rintro e w5 ⟨A5, c5, rfl, hc5, hC5, hB5⟩
    have hB5 := below_step hA4 hB5
    replace e0 := pw_cell_below hB5 e0
    replace e1 := pw_cell_below hB5 e1
    have HB5 := Aside0.mk (below_step HB3.out hB5)
    have HL5 := Aside0.mk ((hB5.block _ (blk_lt HL3.out)).trans HL3.out)
    have HC5 := Aside0.mk (Kd.C_below HC3.out hB5)
    rw [HAl.out] at hC5
    obtain ⟨al, B0, d0, rfl, z0, -, hD0⟩ := at_ints (show kInts.C w5 A5 1 [own] from hC5) 0 (by simp)
    have HO5 := Aside0.mk (show (Kd.int .i64).C w5 B0 own.length own from hD0)
    have z0 : w5.cell? al = some (.slice B0 own.length d0) := by
      rw [add_zero al] at z0
      exact z0
    have h1l : ([C] : List Scene).length = 1 := rfl
    rw [HOl.out] at z0 HO5
    have HM0 := Aside0.mk (MapF.made Tryd.prog 3 w5)
    have hbm := below_alloc (Below.refl w5.heap.size w5) (.map #[] 0)
    have hw1 : IntKind.i64.wrap ((C.nodes.length : Int) - 1) = (C.nodes.length : Int) - 1 := wrap_i (by omega) (by omega)
    clear hA4 hrow hB5 hC5 hD0 HC3 HL3 HB3
    go_wp2
    have HE0 := Aside0.mk e0
    have HE1 := Aside0.mk e1
    have HB6 := Aside0.mk (below_step HB5.out hbm)
    have HZ5 := Aside0.mk (And.intro (show w5.heap.size < (w5.alloc (.map #[] 0)).heap.size by simp) hbm)
    generalize hw6 : w5.alloc (.map #[] 0) = w6 at HM0 HB6 HZ5 ⊢
    generalize hmb : w5.heap.size = mb at HM0 HZ5 ⊢
    have HMb := Aside0.mk hmb
    clear hmb hw6 hbm e0 e1 z0 hw1 h1l
    go_loopw [10] (fun v10 W => ∃ q : Nat, q ≤ C.nodes.length ∧ v10 = .int .i64 (decI q) ∧ ∃ f cnt, Aside0 (cnt + q ≤ C.nodes.length ∧ FirstF own C.nodes.length q f ∧ MapF Tryd.prog 3 W mb cnt f ∧ Below mb w5 W)) (fun v10 _ => (intOf v10 + 1).toNat)
    case atStart => exact ⟨C.nodes.length, Nat.le_refl _, by rw [decI_eq], _, 0, ⟨by omega, FirstF.start _ _ _, HM0.out, HZ5.out.2⟩⟩
    case round =>
      obtain ⟨q, hq, hv, f, cnt, HI⟩ := hrel
      cases q with
      | succ p =>
        obtain rfl : _ = Value.int .i64 (p : Int) := hv
        obtain ⟨b0, rfl, y0⟩ := at_nat HO5.out p (by omega)
        have hbb : Below w5.heap.size w5 wr := by rw [HMb.out]; exact HI.out.2.2.2
        replace y0 := pw_cell_below hbb y0
        have hpn : (p : Int) < (C.nodes.length : Int) := by omega
        have hr := HOw.out.rise p (by omega)
        have hcl := cnt_le own p
        have hkey := keyI_of (x := rd own (p : Int)) (by omega) (by omega)
        have hcm : cnt < maxLen := by have := HI.out.1; unfold maxLen; omega
        have HPut := Aside0.mk HI.out.2.1.put
        clear hr hcl
        generalize rd own (p : Int) = x at y0 hkey HPut
        go_wp2_with (at_mapUpdate; refine wpList_update_F _ rfl (.tmp 44) (.tmp 48) (.tmp 49) 64 rfl 3 3 keyI Tryd.underlying64 mb cnt f rfl HI.out.2.2.1 hcm (.int .i64 x) (.int .i64 (p : Int)) (.int .i64 x) rfl rfl hkey ?_; intro w7 hM7 hg7; have HN7 := Aside0.mk (And.intro hM7 (below_map HI.out.2.2.2 (by have := MapF.lt HI.out.2.2.1; omega) hg7 (Nat.le_refl _))); clear hM7 hg7)
        go_roundw
        case rel => exact ⟨p, by omega, by rw [decI_eq], _, cnt + 1, ⟨by have := HI.out.1; omega, HPut.out, HN7.out.1, HN7.out.2⟩⟩
        case measure => (simp [intOf] <;> omega)
      | zero =>
        obtain rfl : _ = Value.int .i64 (-1) := hv
        have hbb : Below w5.heap.size w5 wr := by rw [HMb.out]; exact HI.out.2.2.2
        have HBw := Aside0.mk (below_step HB5.out hbb)
        have HE0 := Aside0.mk (pw_cell_below hbb HE0.out)
        have HE1 := Aside0.mk (pw_cell_below hbb HE1.out)
        have HCw := Aside0.mk (Kd.C_below HC5.out hbb)
        have HOw2 := Aside0.mk (Kd.C_below HO5.out hbb)
        have HLw := Aside0.mk ((hbb.block _ (blk_lt HL5.out)).trans HL5.out)
        have HNew := Aside0.mk (fun i hi => HI.out.2.1.new HOw.out (i := i) hi)
        have HMF := Aside0.mk HI.out.2.2.1
        obtain ⟨wb, hwb⟩ : ∃ wb : World, wb = wr := ⟨_, rfl⟩
        rw [← hwb] at HBw HE0 HE1 HCw HOw2 HLw HMF
        have HS0 := Aside0.mk (SRel.start wb)
        have hb0 := below_step (below_alloc (Below.refl wb.heap.size wb) (.map #[] 0)) (below_alloc (Below.refl (wb.alloc (.map #[] 0)).heap.size (wb.alloc (.map #[] 0))) (.cells #[.slice none 0 0, .int .i64 0] 34))
        have e0 := pw_cell_below hb0 HE0.out
        rw [← hwb]
        clear hbb HI hwb hb0 HC5 HO5 HL5 HB5 HB6 HZ5 HM0
        go_wp2
        clear e0 hmm
        generalize (wb.alloc (.map #[] 0)).alloc (.cells #[.slice none 0 0, .int .i64 0] 34) = W7 at HS0 ⊢
        go_loopw [54] (fun v54 W => ∃ i : Nat, i ≤ C.nodes.length ∧ v54 = .int .i64 i ∧ ∃ v4, Aside0 (SRel wb (cntF own 0 i) (shrU C.nodes own i) v4 W)) (fun v54 _ => C.nodes.length - (intOf v54).toNat)
        case atStart => exact ⟨0, by omega, rfl, _, HS0⟩
        case round =>
          clear HS0
          obtain ⟨i, hi, rfl, v4, HI⟩ := hrel
          by_cases hlt : i < C.nodes.length
          · obtain ⟨m, hmi, hf, hnew⟩ := HNew.out i hlt
            have HXl := Aside0.mk (show (shrU C.nodes own i).length = cntF own 0 i ∧ cntF own 0 i ≤ i from ⟨shr_len _ _ _, cnt_le _ _⟩)
            have HXo := Aside0.mk (fun h => (⟨shrU_old (ns := C.nodes) (own := own) (i := i) h, cnt_old (own := own) (c := 0) (j := i) h⟩ : _ ∧ _))
            have HXn := Aside0.mk (fun h => (⟨shrU_new (ns := C.nodes) (own := own) (i := i) h, cnt_new (own := own) (c := 0) (j := i) h⟩ : _ ∧ _))
            have HRi := Aside0.mk (fun (m : Nat) (hm : m < i) => (And.intro (HOw.out.rise m (by omega)).1 (HOw.out.rise.lt (i := m) (m := i) hm (by omega))))
            have hr := HOw.out.rise i hlt
            have hcl := cnt_le own i
            have hkey := keyI_of (x := rd own (i : Int)) (by omega) (by omega)
            obtain ⟨adn, A1, c1, A2, c2, A3, c3, rfl, x0, x1, x2, x3, hN⟩ := at_node HCw.out i hlt
            obtain ⟨b0, rfl, y0⟩ := at_nat HOw2.out i hlt
            replace x0 := pw_cell_below HI.out.since x0
            replace x1 := pw_cell_below HI.out.since x1
            replace x2 := pw_cell_below HI.out.since x2
            replace x3 := pw_cell_below HI.out.since x3
            replace y0 := pw_cell_below HI.out.since y0
            have HN := Aside0.mk hN
            have HNk := Aside0.mk (HCA.out i hlt)
            have HSq := Aside0.mk ((HCF.out.2 i hlt).small)
            have hkl : (nd C.nodes i).kids.length ≤ 300 := (HCF.out.2 i hlt).kids
            generalize hcn : cntF own 0 i = cn at HI HXl HXo HXn HRi hnew hr hcl
            generalize shrU C.nodes own i = xs at HI HXl HXo HXn
            have HTe : ∃ t, t = rd own (i : Int) := ⟨_, rfl⟩
            obtain ⟨t, ht⟩ := HTe
            rw [← ht] at hf hnew hkey y0 hr
            have HTt := Aside0.mk ht
            clear ht
            unfold reN at HXn
            clear hN
            generalize nd C.nodes i = n at x0 x1 x2 x3 HN HXn HNk HSq hkl
            have hA := below_alloc (Below.refl wr.heap.size wr) (.cells #[.int .i64 n.kind, .slice A1 n.ints.length c1, .slice A2 n.texts.length c2, .slice A3 n.kids.length c3] 52)
            replace y0 := pw_cell_below hA y0
            have HJ := Aside0.mk (HI.out.later hA)
            have hgf : (f (.int .i64 t)).getD (.int .i64 0) = .int .i64 (m : Int) := by rw [hf]; rfl
            have HMw := Aside0.mk (HMF.out.below HJ.out.since)
            rcases hnew with ⟨hm, hnw⟩ | ⟨hm, hod⟩
            · have HX := Aside0.mk (HXn.out (by rw [← HTt.out, hnw]))
              subst hm hnw
              have dm : ((m : Int) != (m : Int)) = false := by simp
              have hc4 : cn ≤ 61 := by have := HXl.out; omega
              clear hr hcl
              go_wp2_with (at_lookup; refine wpList_lookup_F _ rfl (.tmp 59) (.tmp 63) 64 rfl 3 3 keyI Tryd.underlying64 (zeroIW _) mb cnt f rfl HMw.out (.int .i64 (cn : Int)) (.int .i64 (cn : Int)) rfl hkey (.int .i64 (m : Int)) hgf ?_)
              refine (copy_any n A1 c1 A2 c2 A3 c3 _ (HN.out.below (below_step HI.out.since hA)) HSq.out).mono ?_
              rintro e w6 ⟨_, rfl, ⟨v1, v2, v3, rfl, hM⟩, hB6⟩
              obtain ⟨B1, d1, B2, d2, B3, d3, rfl, rfl, rfl⟩ := M_slicesW hM
              have hbx : w6.heap[wr.heap.size]? = some (.cells #[.int .i64 n.kind, .slice A1 n.ints.length c1, .slice A2 n.texts.length c2, .slice A3 n.kids.length c3] 52 (0, 0)) := (hB6.block _ (by simp)).trans (by simpa using heap_alloc_new wr (.cells #[.int .i64 n.kind, .slice A1 n.ints.length c1, .slice A2 n.texts.length c2, .slice A3 n.kids.length c3] 52))
              have HK := Aside0.mk (KidRel.start (f := rd own) (W0 := wr) hbx (below_step hA hB6) (by simp) hM)
              have f0 := (blk_cell hbx 0).trans rfl
              have f0f := blk_frozen hbx 0
              have f1 := (blk_cell (blk_set hbx 0 (.int .i64 n.kind)) 1).trans rfl
              have f1f := blk_frozen (blk_set hbx 0 (.int .i64 n.kind)) 1
              have f2 := (blk_cell (blk_set (blk_set hbx 0 (.int .i64 n.kind)) 1 (.slice B1 n.ints.length d1)) 2).trans rfl
              have f2f := blk_frozen (blk_set (blk_set hbx 0 (.int .i64 n.kind)) 1 (.slice B1 n.ints.length d1)) 2
              have f3 := (blk_cell (blk_set (blk_set (blk_set hbx 0 (.int .i64 n.kind)) 1 (.slice B1 n.ints.length d1)) 2 (.slice B2 n.texts.length d2)) 3).trans rfl
              have f3f := blk_frozen (blk_set (blk_set (blk_set hbx 0 (.int .i64 n.kind)) 1 (.slice B1 n.ints.length d1)) 2 (.slice B2 n.texts.length d2)) 3
              have x7 : ((((w6.setCell ⟨wr.heap.size, 0, none⟩ (.int .i64 n.kind)).setCell ⟨wr.heap.size, 1, none⟩ (.slice B1 n.ints.length d1)).setCell ⟨wr.heap.size, 2, none⟩ (.slice B2 n.texts.length d2)).setCell ⟨wr.heap.size, 3, none⟩ (.slice B3 n.kids.length d3)).cell? ⟨wr.heap.size, 3, none⟩ = some (.slice B3 n.kids.length d3) := (blk_cell HK.out.box 3).trans rfl
              clear x0 x1 x2 x3 y0 hM hB6 hbx hA HMw
              go_wp2
              clear f0 f0f f1 f1f f2 f2f f3 f3f x7
              generalize ((((w6.setCell ⟨wr.heap.size, 0, none⟩ (.int .i64 n.kind)).setCell ⟨wr.heap.size, 1, none⟩ (.slice B1 n.ints.length d1)).setCell ⟨wr.heap.size, 2, none⟩ (.slice B2 n.texts.length d2)).setCell ⟨wr.heap.size, 3, none⟩ (.slice B3 n.kids.length d3)) = W7 at HK ⊢
              obtain ⟨W0, hW0⟩ : ∃ W, W = wr := ⟨_, rfl⟩
              rw [← hW0] at HI HK HJ
              have e0 : wr.heap.size = W0.heap.size := by rw [hW0]
              rw [e0]
              clear hW0 e0 HJ
              obtain ⟨f2, n2, hn2, hat, hm2⟩ := HI.out.map
              have HM2 := Aside0.mk (And.intro hn2 (And.intro hat hm2))
              clear hn2 hat hm2
              go_loopw [72] (fun v72 W => ∃ j : Nat, j ≤ n.kids.length ∧ v72 = .int .i64 j ∧ Aside0 (KidRel (rd own) n (.slice B1 n.ints.length d1) (.slice B2 n.texts.length d2) (.slice B3 n.kids.length d3) j W0 W)) (fun v72 _ => n.kids.length - (intOf v72).toNat)
              case atStart => exact ⟨0, by omega, rfl, HK⟩
              case round =>
                clear HK
                obtain ⟨j, hj, rfl, HKj⟩ := hrel
                have hq3 : wr.cell? ⟨W0.heap.size, 3, none⟩ = some (.slice B3 n.kids.length d3) := (blk_cell HKj.out.box 3).trans rfl
                by_cases hjl : j < n.kids.length
                · obtain ⟨g7, c7', hv, -⟩ := Kd.R_form HKj.out.r3 (by rw [mapTake_len]; omega)
                  injection hv with hA hmm hcc
                  clear hmm
                  subst hA hcc
                  have hkk := HNk.out _ (rd_mem hjl)
                  obtain ⟨k, hk⟩ : ∃ k : Nat, rd n.kids (j : Int) = (k : Int) := ⟨_, (Int.toNat_of_nonneg hkk.1).symm⟩
                  have hki : k < m := by omega
                  have hxx := HRi.out k hki
                  obtain ⟨x, hx⟩ : ∃ x : Nat, rd own (k : Int) = (x : Int) := ⟨_, (Int.toNat_of_nonneg hxx.1).symm⟩
                  obtain ⟨s1, s2, hs4⟩ := HKj.out.set hjl
                  obtain ⟨b0', eb, r1⟩ := at_nat (Kd.C_below HOw2.out (below_step HI.out.since HKj.out.below)) k (by omega)
                  injection eb with eb
                  subst eb
                  rw [hk] at s1 hs4
                  rw [hx] at r1 hs4 hxx
                  have hgx : (f2 (.int .i64 (x : Int))).getD (.int .i64 0) = .int .i64 (x : Int) := by rw [HM2.out.2.1 x (by omega)]; rfl
                  have hlk := MapF.run_lookup wr.drew 64 (HM2.out.2.2.below (below_drew HKj.out.below)) keyI Tryd.underlying64 (zeroIW _) (keyI_of (x := (x : Int)) (by omega) (by omega))
                  rw [hgx] at hlk
                  have hko : (k : Int) < (C.nodes.length : Int) := by omega
                  have hjn : (j : Int) < (n.kids.length : Int) := by omega
                  have HS4 := Aside0.mk hs4
                  clear hk hkk hs4 hx hxx hgx
                  go_wp2
                  go_region
                  have HS5 := Aside0.mk HS4.out.drew
                  clear HS4 s1 s2 r1 hlk hq3
                  go_wp2
                  go_roundw
                  case rel => exact ⟨j + 1, by omega, by go_num, HS5⟩
                  case measure => simp [intOf]; omega
                · obtain rfl : j = n.kids.length := by omega
                  have HI7 := Aside0.mk (HI.out.later HKj.out.below)
                  obtain ⟨A4, c4, hv4⟩ := Kd.R_slice HI7.out.row
                  rw [HXl.out.1] at hv4
                  subst hv4
                  have o0 := (blk_cell HI7.out.out 0).trans rfl
                  obtain ⟨b0', eb, r1⟩ := at_nat (Kd.C_below HOw2.out HI7.out.since) m hlt
                  injection eb with eb
                  subst eb
                  rw [← HTt.out] at r1
                  have hmn : (m : Int) < (C.nodes.length : Int) := by omega
                  have HKb := Aside0.mk (And.intro HKj.out.box (And.intro HKj.out.r1 (And.intro HKj.out.r2 (show (Kd.int .i64).R 3 wr W0.heap.size (fun _ => True) (.slice B3 n.kids.length d3) (n.kids.map (rd own)) from by have h := HKj.out.r3; rwa [mapTake_all] at h))))
                  have HD := Aside0.mk (HI7.out.later (pw_below_drewN (Below.refl _ _) 1))
                  obtain ⟨f3, n3, hn3, hat3, hm3⟩ := HD.out.map
                  have HAt3 := Aside0.mk hat3
                  have hlw := HI.out.since.size
                  have hlm := MapF.lt HM2.out.2.2
                  have hxl : xs.length ≤ 61 := by have := HXl.out; omega
                  have hl9 : (xs ++ [(⟨n.kind, n.ints, n.texts, n.kids.map (rd own)⟩ : Node)]).length = xs.length + 1 := by simp
                  have hcm : n3 < maxLen := by unfold maxLen; omega
                  have HM3 := Aside0.mk hm3
                  clear hat3 hm3 hq3 HKj
                  go_wp2
                  go_still_tail 8, (by kernel_rfl)
                  change wpList _ _ _ _ _ wr.drew
                  go_wp2_with (first
                    | (at_mapUpdate; refine wpList_update_F _ rfl (.tmp 88) (.tmp 92) (.tmp 95) 64 rfl 3 3 keyI Tryd.underlying64 wb.heap.size n3 f3 rfl HM3.out hcm (.int .i64 (cn : Int)) (.int .i64 (cn : Int)) (.int .i64 (cn : Int)) rfl rfl hkey ?_; intro w8 hM8 hg8; have HP8 := Aside0.mk (HD.out.put HAt3.out hn3 HM3.out hM8 hg8); have HG8 := Aside0.mk (blk_grown (show wr.drew.heap[W0.heap.size]? = _ from HKb.out.1) hg8 (by simp; omega)); have HQ1 := Aside0.mk (R_past_map (Kd.R_drew HKb.out.2.1) HM3.out hg8); have HQ2 := Aside0.mk (R_past_map (Kd.R_drew HKb.out.2.2.1) HM3.out hg8); have HQ3 := Aside0.mk (R_past_map (Kd.R_drew HKb.out.2.2.2) HM3.out hg8); have z0 := (blk_cell HP8.out.out 0).trans rfl; have q0 := (blk_cell HG8.out 0).trans rfl; have q1 := (blk_cell HG8.out 1).trans rfl; have q2 := (blk_cell HG8.out 2).trans rfl; have q3 := (blk_cell HG8.out 3).trans rfl; have HMk := Aside0.mk (node_off (n := ⟨n.kind, n.ints, n.texts, n.kids.map (rd own)⟩) (Kd.R_lower HQ1.out hlw) (Kd.R_lower HQ2.out hlw) (Kd.R_lower HQ3.out hlw) HP8.out.row); clear hM8 hg8)
                    | (at_builtin; refine Kd.R_append kNode (w0 := wb) wb.heap.size rfl (.tmp 97) (.tmp 99) 32 52 (.agg #[.int .i64 0, .slice none 0 0, .slice none 0 0, .slice none 0 0]) 80 rfl Tryd.underlying32 info_nodez rfl (by decide) (by omega) (.slice A4 cn c4) xs ⟨n.kind, n.ints, n.texts, n.kids.map (rd own)⟩ [.int .i64 n.kind, .slice B1 n.ints.length d1, .slice B2 n.texts.length d2, .slice B3 n.kids.length d3] (fun _ => True) (fun k => some k ≠ (Value.slice A4 cn c4).ownBlock) rfl (by go_simp) HMk.out (fun k hk => ⟨trivial, hk⟩) (fun _ _ => trivial) HP8.out.row HP8.out.since HP8.out.since.size (by omega) ?_; intro v5 w9 hR9 hB9 hg9 hat9; obtain ⟨A9, c9, rfl⟩ := Kd.R_slice hR9; rw [hl9] at hR9 ⊢; obtain ⟨hb9, hN9⟩ := HP8.out.node hR9 hB9 hg9; have HN9 := Aside0.mk hN9; have y0 := (blk_cell hb9 0).trans rfl; have y0f := blk_frozen hb9 0; clear hR9 hB9 hg9 hat9 hN9 hb9 q0 q1 q2 q3 z0))
                  go_roundw
                  case rel => exact ⟨m + 1, by omega, by go_num, _, by rw [HX.out.1, HX.out.2]; exact HN9⟩
                  case measure => simp [intOf]; omega
            · have HX := Aside0.mk (HXo.out (by rw [← HTt.out]; exact hod))
              have dm : ((m : Int) != (i : Int)) = true := by simp; omega
              clear hr hcl hm hod hA
              go_wp2_with (at_lookup; refine wpList_lookup_F _ rfl (.tmp 59) (.tmp 63) 64 rfl 3 3 keyI Tryd.underlying64 (zeroIW _) mb cnt f rfl HMw.out (.int .i64 t) (.int .i64 t) rfl hkey (.int .i64 (m : Int)) hgf ?_)
              go_roundw
              case rel => exact ⟨i + 1, by omega, by go_num, v4, by rw [HX.out.1, HX.out.2]; exact HJ⟩
              case measure => simp [intOf]; omega
          · obtain rfl : i = C.nodes.length := by omega
            have hxx := And.intro (HOw.out.rise r HRr.out.2).1 (HOw.out.rise.lt (i := r) HRr.out.2 (Nat.le_refl _))
            have hcl := cnt_le own C.nodes.length
            obtain ⟨x, hx⟩ : ∃ x : Nat, rd own (r : Int) = (x : Int) := ⟨_, (Int.toNat_of_nonneg hxx.1).symm⟩
            rw [hx] at hxx
            have HS0 := Aside0.mk (show S0 = ⟨shrU C.nodes own C.nodes.length, (x : Int)⟩ from by rw [HSh.out, HRr.out.1, hx])
            have HXl := Aside0.mk (show (shrU C.nodes own C.nodes.length).length ≤ 61 from by rw [shr_len]; omega)
            have hx60 : x < 61 := by omega
            obtain ⟨f2, n2, hn2, hat, hm2⟩ := HI.out.map
            have HM2 := Aside0.mk hm2
            have hgx : (f2 (.int .i64 (x : Int))).getD (.int .i64 0) = .int .i64 (x : Int) := by rw [hat x (by omega)]; rfl
            have hkey := keyI_of (x := (x : Int)) (by omega) (by omega)
            have HRow := Aside0.mk HI.out.row
            have HOut := Aside0.mk HI.out.out
            have HSi := Aside0.mk HI.out.since
            have e0 := pw_cell_below HI.out.since HE0.out
            have e1 := pw_cell_below HI.out.since HE1.out
            obtain ⟨b0, rfl, y0⟩ := at_nat HOw2.out r HRr.out.2
            replace y0 := pw_cell_below HI.out.since y0
            rw [hx] at y0
            have hrl : (r : Int) < (C.nodes.length : Int) := by have := HRr.out.2; omega
            clear hxx hcl hx hat hm2 HI
            generalize shrU C.nodes own C.nodes.length = xs at HS0 HXl HRow
            obtain ⟨A4, c4, hv4⟩ := Kd.R_slice HRow.out
            subst hv4
            have o1 := (blk_cell HOut.out 1).trans rfl
            have o1f := blk_frozen HOut.out 1
            have hb1 := blk_set HOut.out 1 (.int .i64 (x : Int))
            have p0 := (blk_cell hb1 0).trans rfl
            have p1 := (blk_cell hb1 1).trans rfl
            have HRow1 := Aside0.mk (R_type HRow.out HOut.out (by decide) (.int .i64 (x : Int)) 1)
            have HBw1 := Aside0.mk (below_set (g := wb.heap.size + 1) (j := 1) (v := .int .i64 (x : Int)) HSi.out (Nat.le_succ _))
            clear hb1
            go_wp2_with (at_lookup; refine wpList_lookup_F _ rfl (.tmp 103) (.tmp 108) 64 rfl 3 3 keyI Tryd.underlying64 (zeroIW _) wb.heap.size n2 f2 rfl HM2.out (.int .i64 (x : Int)) (.int .i64 (x : Int)) rfl hkey (.int .i64 (x : Int)) hgx ?_)
            clear e0 e1 y0 o1 o1f p0 p1
            have hS := HS0.out
            subst hS
            have HResw := Aside0.mk ((HBw1.out.block _ (blk_lt HLw.out)).trans HLw.out)
            have HEc := Aside0.mk (canR_eq HSr.out)
            have HZc := Aside0.mk (gcheck_right.2 HSr.out)
            refine (canon_any A4 c4 ⟨xs, (x : Int)⟩ _ (Kd.R_reads' HRow1.out).2.2 (by have := HSf.out.rows; omega) HSf.out.small).mono ?_
            rintro e w9 ⟨B9, d9, rfl, hR9, hB9⟩
            rw [HZc.out]
            rw [HEc.out] at hR9 ⊢
            have hres := (hB9.block _ (blk_lt HResw.out)).trans HResw.out
            have HB9 := Aside0.mk (below_step (below_step HBw.out HBw1.out) hB9)
            have hbase := (below_step HBw.out HBw1.out).size
            generalize canS ⟨xs, (x : Int)⟩ = D at hR9 HE ⊢
            have HR9 := Aside0.mk (Kd.R_lower hR9 hbase)
            clear hR9 hB9 hbase
            have l0 := (blk_cell hres 0).trans rfl
            have l0f := blk_frozen hres 0
            have l1 := (blk_cell (blk_set hres 0 (.slice B9 D.nodes.length d9)) 1).trans rfl
            have l1f := blk_frozen (blk_set hres 0 (.slice B9 D.nodes.length d9)) 1
            go_wp2
            have h2 := And.intro ((blk_cell (box2 hres (.slice B9 D.nodes.length d9) (.int .i64 D.root)) 0).trans rfl) ((blk_cell (box2 hres (.slice B9 D.nodes.length d9) (.int .i64 D.root)) 1).trans rfl)
            have hRR := R_type (R_type HR9.out hres (by decide) (.slice B9 D.nodes.length d9) 0) (blk_set hres 0 _) (by decide) (.int .i64 D.root) 1
            exact bodyPost_ret (v := .tuple #[.agg #[.slice B9 D.nodes.length d9, .int .i64 D.root], .int .i64 0]) (by simp [results, Tryd.results32, go_sem, h2]) rfl ⟨B9, d9, by rw [HE.out, HZ.out], by rw [HE.out]; exact hRR, below_set2 HB9.out (by omega)⟩
  · have HE := Aside0.mk (show shR T s = ⟨[], 0⟩ from shR_no (fun hh => hz (gcheck_right.2 hh)))
    have dz : ((gcheck s).1 != 0) = true := by simpa using hz
    have l0 := (blk_cell HL1.out 0).trans rfl
    have l0f := blk_frozen HL1.out 0
    have l1 := (blk_cell (blk_set HL1.out 0 (.slice none 0 0)) 1).trans rfl
    have l1f := blk_frozen (blk_set HL1.out 0 (.slice none 0 0)) 1
    clear hz hmm
    go_wp2
    have h2 := And.intro ((blk_cell (box2 HL1.out (.slice none 0 0) (.int .i64 0)) 0).trans rfl) ((blk_cell (box2 HL1.out (.slice none 0 0) (.int .i64 0)) 1).trans rfl)
    exact bodyPost_ret (v := .tuple #[.agg #[.slice none 0 0, .int .i64 0], .int .i64 (gcheck s).1]) (by simp [results, Tryd.results32, go_sem, h2]) rfl
      ⟨none, 0, by rw [HE.out]; rfl, by rw [HE.out]; exact Kd.R_nil _ _ _ _ _, below_set (below_set HB1.out (by show w.heap.size ≤ w.heap.size + 1; omega)) (by show w.heap.size ≤ w.heap.size + 1; omega)⟩
end Go.Proofs.YtdfneldenipljaaDoor.L
end
section
namespace Go.Proofs.YtdfneldenipljaaDoor.L
open Go.RowKit Go.ChangeShapes Go.WideShapes Go.Proofs.YtdfneldenipljaaDoorW.PrintWords Go.Proofs.YtdfneldenipljaaDoorW.PrintLast Go.Proofs.YtdfneldenipljaaDoorW.PrintMore
attribute [local go_sem] max2_int min2_int max_two min_two max_three min_three max_four min_four
def treeL (ns : List Node) : Nat → List Nat
  | 0 => []
  | i + 1 => treeL ns i ++ [1 + ((nd ns i).kids.map (fun k => (treeL ns i).getD k.toNat 0)).sum]
theorem treeL_len (ns : List Node) : ∀ i : Nat, (treeL ns i).length = i
  | 0 => rfl
  | i + 1 => by show (treeL ns i ++ [_]).length = _; rw [List.length_append, treeL_len ns i]; rfl
theorem treeL_at (ns : List Node) : ∀ {n i : Nat}, i < n → (treeL ns n).getD i 0 = 1 + ((nd ns i).kids.map (fun k => (treeL ns i).getD k.toNat 0)).sum
  | n + 1, i, h => by
    show (treeL ns n ++ [_]).getD i 0 = _
    rw [List.getD_eq_getElem?_getD]
    by_cases hi : i < n
    · rw [List.getElem?_append_left (by rw [treeL_len]; exact hi), ← List.getD_eq_getElem?_getD]
      exact treeL_at ns hi
    · obtain rfl : i = n := by omega
      rw [List.getElem?_append_right (by rw [treeL_len]; exact Nat.le_refl _), treeL_len]
      simp
def treeN (ns : List Node) (i : Nat) : Nat := (treeL ns ns.length).getD i 0
theorem treeN_at {ns : List Node} {n i : Nat} (hi : i < n) (hn : n ≤ ns.length) : (treeL ns n).getD i 0 = treeN ns i := by
  unfold treeN
  rw [treeL_at ns hi, treeL_at ns (show i < ns.length by omega)]
theorem treeN_eq {ns : List Node} (h : AheadN ns) {i : Nat} (hi : i < ns.length) : treeN ns i = 1 + ((nd ns i).kids.map (fun k => treeN ns k.toNat)).sum := by
  unfold treeN
  rw [treeL_at ns hi]
  congr 2
  refine List.map_congr_left (fun k hk => ?_)
  have := h i hi k hk
  exact treeN_at (by omega) (by omega)
def treeK (ns : List Node) (i k : Nat) : Nat := 1 + (((nd ns i).kids.take k).map (fun k => treeN ns k.toNat)).sum
theorem treeK_zero (ns : List Node) (i : Nat) : treeK ns i 0 = 1 := by simp [treeK]
theorem treeK_succ {ns : List Node} {i k : Nat} (hk : k < (nd ns i).kids.length) : treeK ns i (k + 1) = treeK ns i k + treeN ns (rd (nd ns i).kids (k : Int)).toNat := by
  unfold treeK
  rw [take_succ_rd hk, List.map_append, List.sum_append]
  simp
  omega
theorem treeK_all {ns : List Node} (h : AheadN ns) {i : Nat} (hi : i < ns.length) : treeK ns i (nd ns i).kids.length = treeN ns i := by
  rw [treeN_eq h hi]
  unfold treeK
  rw [List.take_length]
def sizeT (s : Scene) : Nat := treeN (canonL s) (s.nodes.length - 1)
end Go.Proofs.YtdfneldenipljaaDoor.L
end
section
namespace Go.Proofs.YtdfneldenipljaaDoor.L
open Go.RowKit Go.ChangeShapes Go.WideShapes Go.Proofs.YtdfneldenipljaaDoorW.PrintWords Go.Proofs.YtdfneldenipljaaDoorW.PrintLast Go.Proofs.YtdfneldenipljaaDoorW.PrintMore
attribute [local go_sem] max2_int min2_int max_two min_two max_three min_three max_four min_four
structure SzD (ns : List Node) (M i : Nat) (L : List Int) : Prop where
  len : L.length = ns.length
  done : ∀ k : Nat, k < i → rd L (k : Int) = (min M (treeN ns k) : Nat)
theorem SzD.set {ns : List Node} {M i : Nat} {L : List Int} (h : SzD ns M i L) (hi : i < ns.length) (y : Int) : SzD ns M i (L.set i y) ∧ rd (L.set i y) (i : Int) = y := by
  refine ⟨⟨by rw [List.length_set]; exact h.len, fun k hk => ?_⟩, ?_⟩
  · rw [rd_set _ _ _ _ (by rw [h.len]; exact hi), if_neg (by omega)]; exact h.done k hk
  · rw [rd_set _ _ _ _ (by rw [h.len]; exact hi), if_pos rfl]
theorem SzD.next {ns : List Node} {M i : Nat} {L : List Int} (h : SzD ns M i L) (hi : rd L (i : Int) = (min M (treeN ns i) : Nat)) : SzD ns M (i + 1) L := ⟨h.len, ext_lt h.done hi⟩
structure SzR (w2 : World) (ns : List Node) (M go co i : Nat) (L : List Int) (W : World) : Prop where
  sz : SzD ns M i L
  row : (Kd.int .i64).R 3 W w2.heap.size (fun _ => True) (.slice (some ⟨go, 0, none⟩) ns.length co) L
  below : Below w2.heap.size w2 W
theorem SzR.later {w2 W W1 : World} {ns : List Node} {M go co i : Nat} {L : List Int} (h : SzR w2 ns M go co i L W) (hb : Below W.heap.size W W1) : SzR w2 ns M go co i L W1 := ⟨h.sz, Kd.R_below h.row hb, below_step h.below hb⟩
theorem SzR.cell {w2 W : World} {ns : List Node} {M go co i : Nat} {L : List Int} (h : SzR w2 ns M go co i L W) (k : Nat) (hk : k < ns.length) : W.cell? ⟨go, k, none⟩ = some (.int .i64 (rd L (k : Int))) ∧ W.frozen? ⟨go, k, none⟩ = false := ints_cell h.row k hk
theorem SzR.store {w2 W : World} {ns : List Node} {M go co i : Nat} {L : List Int} (h : SzR w2 ns M go co i L W) (hi : i < ns.length) (y : Int) : SzR w2 ns M go co i (L.set i y) (W.setCell ⟨go, i, none⟩ (.int .i64 y)) ∧ rd (L.set i y) (i : Int) = y ∧ w2.heap.size ≤ go := by
  obtain ⟨s1, s2, s3⟩ := ints_store h.row i hi y
  obtain ⟨d1, d2⟩ := h.sz.set hi y
  exact ⟨⟨d1, s1, below_set h.below s3⟩, d2, s3⟩
open Classical in
noncomputable def uszN (s : Scene) (most : Int) : Int := if Right s then ((min most.toNat (sizeT s) : Nat) : Int) else 0
open Classical in
theorem usz_yes {s : Scene} (h : Right s) (most : Int) : uszN s most = ((min most.toNat (sizeT s) : Nat) : Int) := if_pos h
open Classical in
theorem usz_no {s : Scene} (h : ¬ Right s) (most : Int) : uszN s most = 0 := if_neg h
set_option maxRecDepth 100000 in
set_option maxHeartbeats 8000000 in
theorem usize_any (A : Option Addr) (c : Nat) (s : Scene) (most : Int) (w : World) (h : kNode.C w A s.nodes.length s.nodes) (hc : s.nodes.length ≤ c) (hF : Fit s.nodes) (hm : most ≤ 9223372036854775807) (hm0 : -9223372036854775808 ≤ most) :
    Calls Tryd.prog 28 #[.agg #[.slice A s.nodes.length c, .int .i64 s.root], .int .i64 most] w fun e w' => e = .returned (.int .i64 (uszN s most)) ∧ Below w.heap.size w w' := by
  have HR := Aside0.mk h
  have HF := Aside0.mk hF
  have hu := Tryd.underlying34
  have hun := Tryd.underlying52
  have HB := Aside0.mk (below_alloc (Below.refl w.heap.size w) (.cells #[.slice A s.nodes.length c, .int .i64 s.root] 34))
  have k0 := box_cell w _ rfl #[.slice A s.nodes.length c, .int .i64 s.root] 34 0 (.slice A s.nodes.length c) rfl
  have k1 := box_cell w _ rfl #[.slice A s.nodes.length c, .int .i64 s.root] 34 1 (.int .i64 s.root) rfl
  obtain ⟨M, hM⟩ : ∃ M : Nat, most.toNat = M := ⟨_, rfl⟩
  have hmx : (if most < 0 then (0 : Int) else most) = (M : Int) := by split <;> omega
  have hMb : M ≤ 9223372036854775807 := by omega
  have HM := Aside0.mk hM
  clear h hF
  go_enter Tryd.func28, Tryd.ntmps28
  go_wp2_with fail
  refine (canon_any A c s _ (Kd.C_below HR.out HB.out) (by have := HF.out.rows; omega) HF.out.small).mono ?_
  rintro e w1 ⟨B, d, rfl, hR1, hB1⟩
  have HB1 := Aside0.mk (below_step HB.out hB1)
  have HC1 := Aside0.mk (Kd.R_reads' hR1).2.2
  have hcd := (Kd.R_reads' hR1).2.1
  clear hR1 hB1 k0 k1 HB
  by_cases hz : (gcheck s).1 = 0
  · have HRt := Aside0.mk (gcheck_right.1 hz)
    rw [canR_eq HRt.out] at HC1 hcd ⊢
    obtain ⟨r, hr, hrn⟩ := canS_at HRt.out
    have HCA := Aside0.mk (show AheadN (canS s).nodes from canon_ahead HRt.out)
    have HCF := Aside0.mk (show Fit (canS s).nodes from HF.out.canon HRt.out)
    have HE := Aside0.mk (show uszN s most = ((min M (treeN (canS s).nodes r) : Nat) : Int) from by
      rw [usz_yes HRt.out, HM.out]
      have e1 : r = s.nodes.length - 1 := by
        have hr' : (s.nodes.length : Int) - 1 = (r : Int) := hr
        omega
      subst e1
      rfl)
    rw [hz, hr]
    clear hz hr hm hm0 hM
    generalize canS s = C at HCA HCF HE HC1 hcd hrn ⊢
    have hn60 : C.nodes.length ≤ 61 := HCF.out.1
    have e0 := box_cell w1 _ rfl #[.slice B C.nodes.length d, .int .i64 (r : Int)] 34 0 (.slice B C.nodes.length d) rfl
    have e1 := box_cell w1 _ rfl #[.slice B C.nodes.length d, .int .i64 (r : Int)] 34 1 (.int .i64 (r : Int)) rfl
    have hA2 := below_alloc (Below.refl w1.heap.size w1) (.cells #[.slice B C.nodes.length d, .int .i64 (r : Int)] 34)
    have HC2 := Aside0.mk (Kd.C_below HC1.out hA2)
    have HB2 := Aside0.mk (below_step HB1.out hA2)
    clear hA2 HC1 HB1
    go_wp2_with (first
      | (refine Kd.R_make (Kd.int .i64) (w0 := w1.alloc (.cells #[.slice B C.nodes.length d, .int .i64 (r : Int)] 34)) (w1.alloc (.cells #[.slice B C.nodes.length d, .int .i64 (r : Int)] 34)).heap.size 3 rfl (N := 24) rfl 31 _ _ rfl (C.nodes.length : Int) rfl rfl Tryd.underlying31 (.int .i64 0) 8 info_int rfl (by decide) (by omega) 0 (ok := fun _ => True) (okp := fun _ => True) rfl (fun _ hk => hk) trivial (by omega) (by omega) (Below.refl _ _) (Nat.le_refl _) ?_; intro v3 w3 ho3 hb3 hg3 hn3; rw [Int.toNat_natCast] at ho3; obtain ⟨go, co, hv3, -, hgo, -⟩ := Kd.R_form ho3 (by rw [List.length_replicate]; omega); rw [List.length_replicate] at hv3; subst hv3; have HO := Aside0.mk ho3; have HB3 := Aside0.mk hb3; have e0 := pw_cell_below hb3 e0; have e1 := pw_cell_below hb3 e1; clear ho3 hb3 hg3 hn3))
    have hz2 : (w1.alloc (.cells #[.slice B C.nodes.length d, .int .i64 (r : Int)] 34)).heap.size = w1.heap.size + 1 := by simp
    have HG2 := Aside0.mk (show w1.heap.size < go from by have := Kd.R_base HO.out go rfl; omega)
    have HE0 := Aside0.mk e0
    have HE1 := Aside0.mk e1
    generalize w1.alloc (.cells #[.slice B C.nodes.length d, .int .i64 (r : Int)] 34) = w2 at HO HB3 HC2 HB2 hz2
    have HW0 : Aside0 (SzR w2 C.nodes M go co 0 (List.replicate C.nodes.length 0) w3) := ⟨⟨by rw [List.length_replicate], fun k hk => by omega⟩, HO.out, HB3.out⟩
    have HBx := Aside0.mk (below_step HB2.out HB3.out)
    have HCx := Aside0.mk (Kd.C_below HC2.out HB3.out)
    clear HO HB3 e0 e1 hgo hz2
    go_loopw [28] (fun v28 W => ∃ (i : Nat) (L : List Int), i ≤ C.nodes.length ∧ v28 = .int .i64 i ∧ Aside0 (Below w3.heap.size w3 W → True) ∧ Aside0 (W.cell? ⟨w1.heap.size, 1, none⟩ = some (.int .i64 (r : Int))) ∧ Aside0 (SzR w2 C.nodes M go co i L W)) (fun v28 _ => C.nodes.length - (intOf v28).toNat)
    case atStart => exact ⟨0, _, by omega, rfl, ⟨fun _ => trivial⟩, HE1, HW0⟩
    case round =>
      clear HW0
      obtain ⟨i, L, hi, rfl, -, HR1, HW⟩ := hrel
      by_cases hlt : i < C.nodes.length
      · have HWb := Aside0.mk (below_step HB2.out HW.out.below)
        obtain ⟨adn, A1, c1, A2, c2, A3, c3, rfl, x0, x1, x2, x3, hN⟩ := at_node HC2.out i hlt
        replace x0 := pw_cell_below HW.out.below x0
        replace x1 := pw_cell_below HW.out.below x1
        replace x2 := pw_cell_below HW.out.below x2
        replace x3 := pw_cell_below HW.out.below x3
        have HN := Aside0.mk hN
        have HNk := Aside0.mk (HCA.out i hlt)
        have hkl : (nd C.nodes i).kids.length ≤ 300 := (HCF.out.2 i hlt).kids
        have HK0 := Aside0.mk (treeK_zero C.nodes i)
        have HKs := Aside0.mk (fun (k : Nat) (hk : k < (nd C.nodes i).kids.length) => treeK_succ (ns := C.nodes) (i := i) hk)
        have HKa := Aside0.mk (treeK_all HCA.out hlt)
        have hA := below_alloc (Below.refl wr.heap.size wr) (.cells #[.int .i64 (nd C.nodes i).kind, .slice A1 (nd C.nodes i).ints.length c1, .slice A2 (nd C.nodes i).texts.length c2, .slice A3 (nd C.nodes i).kids.length c3] 52)
        have z3 := box_cell wr _ rfl #[.int .i64 (nd C.nodes i).kind, .slice A1 (nd C.nodes i).ints.length c1, .slice A2 (nd C.nodes i).texts.length c2, .slice A3 (nd C.nodes i).kids.length c3] 52 3 (.slice A3 (nd C.nodes i).kids.length c3) rfl
        have HV := Aside0.mk (HW.out.later hA)
        have HR2 := Aside0.mk (pw_cell_below hA HR1.out)
        obtain ⟨p0, p0f⟩ := HV.out.cell i hlt
        have hin : (i : Int) < (C.nodes.length : Int) := by omega
        clear hN hA
        generalize nd C.nodes i = n at x0 x1 x2 x3 z3 HN HNk hkl HKs HKa HV HR2 p0 p0f
        have hgo : go ≠ wr.heap.size := by have := Kd.R_lt HV.out.row go rfl; have h2 := Kd.R_lt HW.out.row go rfl; omega
        obtain ⟨m1, hm1⟩ : ∃ m1 : Nat, m1 = min 1 M := ⟨_, rfl⟩
        obtain ⟨hs1, hs2, hs3⟩ := HV.out.store hlt (m1 : Int)
        have hgr : go ≠ w1.heap.size := by have := HG2.out; omega
        have HS := Aside0.mk (And.intro hs1 hs2)
        have HRs := Aside0.mk (far_set HR2.out go i (by show go ≠ w1.heap.size; exact hgr) (.int .i64 (m1 : Int)))
        have z3s := far_set z3 go i (by show go ≠ wr.heap.size; exact hgo) (.int .i64 (m1 : Int))
        have hmin : (if (M : Int) < 1 then (M : Int) else 1) = (m1 : Int) := by split <;> omega
        have HM1 := Aside0.mk hm1
        clear hm1
        clear hs1 hs2 hs3 HW
        go_wp2
        clear hmin p0 p0f x0 x1 x2 x3 z3
        have HS0 := Aside0.mk (And.intro HS.out.1 (show rd (L.set i (m1 : Int)) (i : Int) = ((min M (treeK C.nodes i 0) : Nat) : Int) from by rw [HS.out.2, HK0.out, HM1.out, Nat.min_comm]))
        generalize L.set i (m1 : Int) = L1 at HS0
        have HRs2 := HRs
        generalize (wr.alloc (.cells #[.int .i64 n.kind, .slice A1 n.ints.length c1, .slice A2 n.texts.length c2, .slice A3 n.kids.length c3] 52)).setCell ⟨go, i, none⟩ (.int .i64 (m1 : Int)) = W8 at HS0 HRs2 z3s ⊢
        clear HS HRs HV HR2 HR1 z3s hgo hgr
        go_loopw [41] (fun v41 W => ∃ (k : Nat) (L : List Int), k ≤ n.kids.length ∧ v41 = .int .i64 k ∧ Aside0 (W.cell? ⟨w1.heap.size, 1, none⟩ = some (.int .i64 (r : Int))) ∧ Aside0 (SzR w2 C.nodes M go co i L W ∧ rd L (i : Int) = ((min M (treeK C.nodes i k) : Nat) : Int))) (fun v41 _ => n.kids.length - (intOf v41).toNat)
        case atStart => exact ⟨0, L1, by omega, rfl, HRs2, HS0⟩
        case round =>
          clear HS0 HRs2
          obtain ⟨k, L, hk, rfl, HR1, HI⟩ := hrel
          by_cases hkl2 : k < n.kids.length
          · obtain ⟨a3, rfl, y0⟩ := at_nat HN.out.k k hkl2
            replace y0 := pw_cell_below HI.out.1.below y0
            have hkk := HNk.out _ (rd_mem hkl2)
            obtain ⟨x, hx⟩ : ∃ x : Nat, rd n.kids (k : Int) = (x : Int) := ⟨_, (Int.toNat_of_nonneg hkk.1).symm⟩
            have hxi : x < i := by omega
            have HKt := Aside0.mk (HKs.out k hkl2)
            rw [hx, Int.toNat_natCast] at HKt
            rw [hx] at y0
            obtain ⟨p0, p0f⟩ := HI.out.1.cell i hlt
            obtain ⟨p1, -⟩ := HI.out.1.cell x (by omega)
            rw [HI.out.2] at p0
            rw [HI.out.1.sz.done x hxi] at p1
            obtain ⟨cu, hcu⟩ : ∃ cu : Nat, cu = min M (treeK C.nodes i k) := ⟨_, rfl⟩
            obtain ⟨tx, htx⟩ : ∃ tx : Nat, tx = min M (treeN C.nodes x) := ⟨_, rfl⟩
            rw [← hcu] at p0
            rw [← htx] at p1
            obtain ⟨mn, hmn⟩ : ∃ mn : Nat, mn = min tx (M - cu) := ⟨_, rfl⟩
            obtain ⟨nw, hnw⟩ : ∃ nw : Nat, nw = min M (treeK C.nodes i (k + 1)) := ⟨_, rfl⟩
            have hsum : cu + mn = nw := by rw [hnw, HKt.out, hmn, htx, hcu]; omega
            have hcM : cu ≤ M := by omega
            have hnM : nw ≤ M := by omega
            have HNw := Aside0.mk hnw
            have hif : (if (M : Int) - (cu : Int) < (tx : Int) then (M : Int) - (cu : Int) else (tx : Int)) = (mn : Int) := by split <;> omega
            have hadd : (cu : Int) + (mn : Int) = (nw : Int) := by omega
            obtain ⟨hs1, hs2, hs3⟩ := HI.out.1.store hlt (nw : Int)
            have hgr : go ≠ w1.heap.size := by have := HG2.out; omega
            have HS := Aside0.mk (And.intro hs1 (show rd (L.set i (nw : Int)) (i : Int) = ((min M (treeK C.nodes i (k + 1)) : Nat) : Int) from by rw [hs2, HNw.out]))
            have HRs := Aside0.mk (far_set HR1.out go i (by show go ≠ w1.heap.size; exact hgr) (.int .i64 (nw : Int)))
            have hxn : (x : Int) < (C.nodes.length : Int) := by omega
            have hin2 : (i : Int) < (C.nodes.length : Int) := by omega
            have HAr := Aside0.mk (And.intro hcM (And.intro hnM hmn))
            have hw1 : IntKind.i64.wrap ((M : Int) - (cu : Int)) = (M : Int) - (cu : Int) := wrap_i (by omega) (by omega)
            have hw2 : IntKind.i64.wrap ((cu : Int) + (mn : Int)) = (nw : Int) := by rw [hadd]; exact wrap_i (by omega) (by omega)
            clear hsum hnw htx hcu hmn hs1 hs2 hs3 hkk hx hgr hadd
            go_wp2
            go_region
            have hbd := below_drew (Below.refl (wr.setCell ⟨go, i, none⟩ (.int .i64 (nw : Int))).heap.size (wr.setCell ⟨go, i, none⟩ (.int .i64 (nw : Int))))
            have HS4 := Aside0.mk (And.intro (HS.out.1.later hbd) HS.out.2)
            have HR4 := Aside0.mk (pw_cell_below hbd HRs.out)
            clear hbd p0 p0f p1 y0 hw1 hw2 hif
            go_wp2
            go_roundw
            case rel => exact ⟨k + 1, _, by omega, by go_num, HR4, HS4⟩
            case measure => simp [intOf]; omega
          · obtain rfl : k = n.kids.length := by omega
            have HS5 := Aside0.mk (show SzR w2 C.nodes M go co (i + 1) L wr from ⟨HI.out.1.sz.next (by rw [HI.out.2, HKa.out]), HI.out.1.row, HI.out.1.below⟩)
            go_wp2
            go_roundw
            case rel => exact ⟨i + 1, L, by omega, by go_num, ⟨fun _ => trivial⟩, HR1, HS5⟩
            case measure => simp [intOf]; omega
      · obtain rfl : i = C.nodes.length := by omega
        obtain ⟨p1, -⟩ := HW.out.cell r hrn
        have hd := HW.out.sz.done r hrn
        rw [hd, ← HE.out] at p1
        have hrl : (r : Int) < (C.nodes.length : Int) := by omega
        have k1 := HR1.out
        clear hd
        go_wp2
        go_ret
        exact ⟨rfl, below_step HB2.out HW.out.below⟩
  · have HE := Aside0.mk (usz_no (s := s) (fun hh => hz (gcheck_right.2 hh)) most)
    have dz : ((gcheck s).1 != 0) = true := by simpa using hz
    clear hz
    go_wp2
    go_ret
    exact ⟨ret_int HE.out.symm, by have := HB1.out; exact below_step this (below_alloc (Below.refl _ _) _)⟩
end Go.Proofs.YtdfneldenipljaaDoor.L
end
section
namespace Go.Proofs.YtdfneldenipljaaDoor.L
open Go.RowKit Go.ChangeShapes Go.WideShapes Go.Proofs.YtdfneldenipljaaDoorW.PrintWords Go.Proofs.YtdfneldenipljaaDoorW.PrintLast Go.Proofs.YtdfneldenipljaaDoorW.PrintMore
attribute [local go_sem] max2_int min2_int max_two min_two max_three min_three max_four min_four
def uN : Node := ⟨1, [], [], [1, 2]⟩
def uM : Node := ⟨1, [], [], [0, 0]⟩
def uA : Scene := ⟨[uN, kA, kA], 0⟩
def uB : Scene := ⟨[kA, uM], 1⟩
theorem uB_ahead : AheadN uB.nodes := fun p hp k hk => by
  have hp : p < 2 := hp
  match p, hp with
  | 0, _ => cases hk
  | 1, _ =>
    have hk : k ∈ [(0 : Int), 0] := hk
    simp at hk
    omega
theorem uB_right : Right uB := by
  refine ⟨by show (0 : Int) ≤ 1; omega, by show (1 : Int) < 2; omega, ahead_places uB_ahead, ahead_cyc uB_ahead, fun p hp => ?_⟩
  have hp : p < 2 := hp
  have h2 : Rch uB.nodes [uB.root] 1 := .base (by simp [uB])
  match p, hp with
  | 0, _ => exact .step h2 (show (0 : Int) ∈ [(0 : Int), 0] by simp)
  | 1, _ => exact h2
theorem rch_none {ns : List Node} {l : List Int} (h : ∀ x ∈ l, kids ns x = []) {x : Int} (hr : Rch ns l x) : x ∈ l := by
  induction hr with
  | base hk => exact hk
  | step _ hk ih => rw [h _ ih] at hk; cases hk
theorem uA_right : Right uA := by
  refine ⟨by show (0 : Int) ≤ 0; omega, by show (0 : Int) < 3; omega, fun p hp k hk => ?_, fun p hp hc => ?_, fun p hp => ?_⟩
  · have hp : p < 3 := hp
    match p, hp with
    | 0, _ =>
      have hk : k ∈ [(1 : Int), 2] := hk
      show 0 ≤ k ∧ k < (3 : Int)
      simp at hk
      omega
    | 1, _ => cases hk
    | 2, _ => cases hk
  · have hp : p < 3 := hp
    match p, hp with
    | 0, _ =>
      have hc : Rch uA.nodes [1, 2] 0 := hc
      have := rch_none (fun x hx => by simp at hx; rcases hx with rfl | rfl <;> rfl) hc
      simp at this
    | 1, _ =>
      have hc : Rch uA.nodes [] 1 := hc
      have := rch_none (fun x hx => by simp at hx) hc
      simp at this
    | 2, _ =>
      have hc : Rch uA.nodes [] 2 := hc
      have := rch_none (fun x hx => by simp at hx) hc
      simp at this
  · have hp : p < 3 := hp
    have h0 : Rch uA.nodes [uA.root] 0 := .base (by simp [uA])
    match p, hp with
    | 0, _ => exact h0
    | 1, _ => exact .step h0 (show (1 : Int) ∈ [(1 : Int), 2] by simp)
    | 2, _ => exact .step h0 (show (2 : Int) ∈ [(1 : Int), 2] by simp)
theorem uA_ord : ord uA = [1, 2, 0] := by
  have hd := uA_right.dag
  have p0 : Pl uA.nodes 0 := ⟨by omega, by show (0 : Int) < 3; omega⟩
  have p1 : Pl uA.nodes 1 := ⟨by omega, by show (1 : Int) < 3; omega⟩
  have p2 : Pl uA.nodes 2 := ⟨by omega, by show (2 : Int) < 3; omega⟩
  have k0 : kids uA.nodes 0 = [1, 2] := rfl
  have k1 : kids uA.nodes 1 = [] := rfl
  have k2 : kids uA.nodes 2 = [] := rfl
  show M uA.nodes 0 [] = _
  rw [M_out hd p0 (by simp), k0, ML_cons, M_out hd p1 (by simp), k1, ML_cons]
  show M uA.nodes 2 [1] ++ [0] = _
  rw [M_out hd p2 (by simp), k2]
  rfl
theorem uB_ord : ord uB = [0, 1] := by
  have hd := uB_right.dag
  have p0 : Pl uB.nodes 0 := ⟨by omega, by show (0 : Int) < 2; omega⟩
  have p1 : Pl uB.nodes 1 := ⟨by omega, by show (1 : Int) < 2; omega⟩
  have k0 : kids uB.nodes 0 = [] := rfl
  have k1 : kids uB.nodes 1 = [0, 0] := rfl
  show M uB.nodes 1 [] = _
  rw [M_out hd p1 (by simp), k1, ML_cons, M_out hd p0 (by simp), k0, ML_cons]
  show M uB.nodes 0 [0] ++ [1] = _
  rw [M_in hd p0 (by simp)]
  rfl
theorem uA_canon : canonL uA = sK.nodes := by
  unfold canonL
  rw [uA_ord]
  show [relab uA kA, relab uA kA, relab uA uN] = _
  have e1 : relab uA kA = kA := rfl
  have e2 : relab uA uN = kB := by
    unfold relab idx
    rw [uA_ord]
    rfl
  rw [e1, e2]
  rfl
theorem uB_canon : canonL uB = uB.nodes := by
  unfold canonL
  rw [uB_ord]
  show [relab uB kA, relab uB uM] = _
  have e1 : relab uB kA = kA := rfl
  have e2 : relab uB uM = uM := by
    unfold relab idx
    rw [uB_ord]
    rfl
  rw [e1, e2]
  rfl
theorem uB_c : isC uB = true := by
  refine (isC_iff uB_right).2 ?_
  rw [uB_canon]
  rfl
theorem uAB_same : SameT uA uB := by
  have h := like_canon uA_right uB_right (fun p q => (p = 0 ∧ q = 1) ∨ (p = 1 ∧ q = 0) ∨ (p = 2 ∧ q = 0)) (fun p q h => by
    rcases h with ⟨rfl, rfl⟩ | ⟨rfl, rfl⟩ | ⟨rfl, rfl⟩
    · refine ⟨by decide, by decide, ⟨rfl, rfl, rfl, rfl⟩, fun k hk => ?_⟩
      have hk : k < 2 := hk
      match k, hk with
      | 0, _ => exact .inr (.inl ⟨rfl, rfl⟩)
      | 1, _ => exact .inr (.inr ⟨rfl, rfl⟩)
    · exact ⟨by decide, by decide, ⟨rfl, rfl, rfl, rfl⟩, fun k hk => absurd hk (Nat.not_lt_zero _)⟩
    · exact ⟨by decide, by decide, ⟨rfl, rfl, rfl, rfl⟩, fun k hk => absurd hk (Nat.not_lt_zero _)⟩) 0 1 (.inl ⟨rfl, rfl⟩)
  have e1 : idx uA ((0 : Nat) : Int) = 2 := by unfold idx; rw [uA_ord]; rfl
  have e2 : idx uB ((1 : Nat) : Int) = 1 := by unfold idx; rw [uB_ord]; rfl
  rw [e1, e2] at h
  exact h
theorem uA_size : sizeT uA = 3 := by
  unfold sizeT
  rw [uA_canon]
  rfl
theorem uB_size : sizeT uB = 3 := by
  unfold sizeT
  rw [uB_canon]
  rfl
theorem uB_share (T : Lib.PrintTabs) : shareS T uB = uB := by
  refine share_idem uB_right uB_c (fun i j hi hj h => ?_)
  have hi : i < 2 := hi
  have hj : j < 2 := hj
  have h1 := ((like_iff uB_ahead uB_ahead hi hj).1 h).1.1
  match i, hi, j, hj with
  | 0, _, 0, _ => rfl
  | 0, _, 1, _ => exact absurd h1 (by decide)
  | 1, _, 0, _ => exact absurd h1 (by decide)
  | 1, _, 1, _ => rfl
theorem uA_share (T : Lib.PrintTabs) : shareS T uA = uB := by rw [share_eq T uA_right uB_right uAB_same, uB_share]
theorem uAB_eq : eqT uA uB = true := eqT_yes uA_right uB_right uAB_same
theorem uA_none : eqT uA ⟨[], 0⟩ = false := eqT_no (fun h => by have := h.2.1.r1; simp at this)
theorem fit_small {n : Node} (h1 : n.ints = []) (h2 : n.texts = []) (h3 : n.kids.length ≤ 300) (h4 : I64 n.kind) : FitN n :=
  ⟨by rw [h1]; simp, by rw [h2]; simp, h3, (fun x hx => by rw [h2] at hx; cases hx), ⟨h4, (fun x hx => by rw [h1] at hx; cases hx)⟩⟩
theorem uA_fit : Fit uA.nodes := fit_of_mem (by decide) (fun n hn => by
  have hn : n ∈ [uN, kA, kA] := hn
  simp at hn
  rcases hn with rfl | rfl
  · exact fit_small rfl rfl (by decide) ⟨by decide, by decide⟩
  · exact fit_small rfl rfl (by decide) ⟨by decide, by decide⟩)
theorem uB_fit : Fit uB.nodes := fit_of_mem (by decide) (fun n hn => by
  have hn : n ∈ [kA, uM] := hn
  simp at hn
  rcases hn with rfl | rfl
  · exact fit_small rfl rfl (by decide) ⟨by decide, by decide⟩
  · exact fit_small rfl rfl (by decide) ⟨by decide, by decide⟩)
theorem none_fit : Fit (⟨[], 0⟩ : Scene).nodes := ⟨by decide, fun i hi => absurd hi (Nat.not_lt_zero _)⟩
end Go.Proofs.YtdfneldenipljaaDoor.L
end
section
namespace Go.Proofs.YtdfneldenipljaaDoor.L
open Go.RowKit Go.ChangeShapes Go.WideShapes Go.Proofs.YtdfneldenipljaaDoorW.PrintWords Go.Proofs.YtdfneldenipljaaDoorW.PrintLast Go.Proofs.YtdfneldenipljaaDoorW.PrintMore
attribute [local go_sem] max2_int min2_int max_two min_two max_three min_three max_four min_four
abbrev uO1 : Obj := .cells #[.int .i64 1, .int .i64 2] 3
abbrev uO2 (g : Nat) : Obj := .cells #[.int .i64 1, .slice none 0 0, .slice none 0 0, .slice (some ⟨g, 0, none⟩) 2 2, .int .i64 3, .slice none 0 0, .slice none 0 0, .slice none 0 0, .int .i64 3, .slice none 0 0, .slice none 0 0, .slice none 0 0] 52
abbrev uO3 : Obj := .cells #[.int .i64 0, .int .i64 0] 3
abbrev uO4 (g : Nat) : Obj := .cells #[.int .i64 3, .slice none 0 0, .slice none 0 0, .slice none 0 0, .int .i64 1, .slice none 0 0, .slice none 0 0, .slice (some ⟨g, 0, none⟩) 2 2] 52
theorem uA_C (w : World) (g : Nat) (hg : w.heap.size = g) : kNode.C ((w.alloc uO1).alloc (uO2 g)) (some ⟨g + 1, 0, none⟩) 3 uA.nodes := by
  subst hg
  refine C_lits kNode _ 52 _ (by simp) [uN, kA, kA] _ ⟨_, _, (show _ = [_, _, _, _] ++ [_, _, _, _, _, _, _, _] from rfl), ?_, _, _, (show _ = [_, _, _, _] ++ [_, _, _, _] from rfl), kA_K _, _, _, (show _ = [_, _, _, _] ++ [] from rfl), kA_K _, rfl⟩ (by simp) rfl
  exact kNode_mk (x := uN) (w := w.alloc uO1) ⟨by simp [uN], by simp [uN], by simp [uN], C_nil _ _, C_nil _ _, C_ints w _ _ rfl [1, 2] (by simp) rfl⟩
theorem uB_C (w : World) (g : Nat) (hg : w.heap.size = g) : kNode.C ((w.alloc uO3).alloc (uO4 g)) (some ⟨g + 1, 0, none⟩) 2 uB.nodes := by
  subst hg
  refine C_lits kNode _ 52 _ (by simp) [kA, uM] _ ⟨_, _, (show _ = [_, _, _, _] ++ [_, _, _, _] from rfl), kA_K _, _, _, (show _ = [_, _, _, _] ++ [] from rfl), ?_, rfl⟩ (by simp) rfl
  exact kNode_mk (x := uM) (w := w.alloc uO3) ⟨by simp [uM], by simp [uM], by simp [uM], C_nil _ _, C_nil _ _, C_ints w _ _ rfl [0, 0] (by simp) rfl⟩
set_option maxRecDepth 100000 in
set_option maxHeartbeats 4000000 in
theorem uawake_any (T : Lib.PrintTabs) (w : World) (hT : QTabs T w) : Calls Tryd.prog 22 #[] w fun e w' => e = .returned (.bool true) ∧ Below w.heap.size w w' := by
  have HT := Aside0.mk hT
  have hua := Tryd.underlying34
  have hun := Tryd.underlying52
  clear hT
  go_enter Tryd.func22, Tryd.ntmps22
  go_wp2_with fail
  obtain ⟨wA, hwA⟩ : ∃ W, W = ((w.alloc uO1).alloc (uO2 w.heap.size)).alloc (.cells #[.slice (some ⟨w.heap.size + 1, 0, none⟩) 3 3, .int .i64 0] 34) := ⟨_, rfl⟩
  have hCA := Kd.C_alloc (uA_C w _ rfl) (.cells #[.slice (some ⟨w.heap.size + 1, 0, none⟩) 3 3, .int .i64 0] 34)
  have hBA := below_alloc (below_alloc (below_alloc (Below.refl w.heap.size w) uO1) (uO2 w.heap.size)) (.cells #[.slice (some ⟨w.heap.size + 1, 0, none⟩) 3 3, .int .i64 0] 34)
  have k0 := box_cell ((w.alloc uO1).alloc (uO2 w.heap.size)) (w.heap.size + 1 + 1) (by simp) #[.slice (some ⟨w.heap.size + 1, 0, none⟩) 3 3, .int .i64 0] 34 0 _ rfl
  have k1 := box_cell ((w.alloc uO1).alloc (uO2 w.heap.size)) (w.heap.size + 1 + 1) (by simp) #[.slice (some ⟨w.heap.size + 1, 0, none⟩) 3 3, .int .i64 0] 34 1 _ rfl
  have hzA : (((w.alloc uO1).alloc (uO2 w.heap.size)).alloc (.cells #[.slice (some ⟨w.heap.size + 1, 0, none⟩) 3 3, .int .i64 0] 34)).heap.size = w.heap.size + 1 + 1 + 1 := by simp
  rw [← hwA] at hCA hBA k0 k1 hzA ⊢
  clear hwA
  have hCB := Kd.C_alloc (uB_C wA _ hzA) (.cells #[.slice (some ⟨w.heap.size + 1 + 1 + 1 + 1, 0, none⟩) 2 2, .int .i64 1] 34)
  have hBB := below_alloc (below_alloc (below_alloc (Below.refl wA.heap.size wA) uO3) (uO4 (w.heap.size + 1 + 1 + 1))) (.cells #[.slice (some ⟨w.heap.size + 1 + 1 + 1 + 1, 0, none⟩) 2 2, .int .i64 1] 34)
  have q0 := box_cell ((wA.alloc uO3).alloc (uO4 (w.heap.size + 1 + 1 + 1))) (w.heap.size + 1 + 1 + 1 + 1 + 1) (by simp [hzA]) #[.slice (some ⟨w.heap.size + 1 + 1 + 1 + 1, 0, none⟩) 2 2, .int .i64 1] 34 0 _ rfl
  have q1 := box_cell ((wA.alloc uO3).alloc (uO4 (w.heap.size + 1 + 1 + 1))) (w.heap.size + 1 + 1 + 1 + 1 + 1) (by simp [hzA]) #[.slice (some ⟨w.heap.size + 1 + 1 + 1 + 1, 0, none⟩) 2 2, .int .i64 1] 34 1 _ rfl
  replace k0 := pw_cell_below hBB k0
  replace k1 := pw_cell_below hBB k1
  have HA := Aside0.mk (Kd.C_below hCA hBB)
  have HBn := Aside0.mk hCB
  have HB := Aside0.mk (below_step hBA hBB)
  clear hCA hCB hBA hBB hzA
  generalize ((wA.alloc uO3).alloc (uO4 (w.heap.size + 1 + 1 + 1))).alloc (.cells #[.slice (some ⟨w.heap.size + 1 + 1 + 1 + 1, 0, none⟩) 2 2, .int .i64 1] 34) = w0 at k0 k1 q0 q1 HA HBn HB ⊢
  have HZ := Aside0.mk (gcheck_right.2 uA_right)
  have HSh := Aside0.mk (show shR T uA = uB from by rw [shR_yes uA_right, uA_share])
  refine (ushare_any T (some ⟨w.heap.size + 1, 0, none⟩) 3 uA w0 HA.out (by decide) uA_fit (HT.out.below HB.out)).mono ?_
  rintro e w1 ⟨A1, c1, rfl, hR1, hB1⟩
  rw [HZ.out]
  rw [HSh.out] at hR1 ⊢
  replace k0 := pw_cell_below hB1 k0
  replace k1 := pw_cell_below hB1 k1
  replace q0 := pw_cell_below hB1 q0
  replace q1 := pw_cell_below hB1 q1
  have HB1 := Aside0.mk (below_step HB.out hB1)
  have HA1 := Aside0.mk (Kd.C_below HA.out hB1)
  have HD1 := Aside0.mk (Kd.C_below HBn.out hB1)
  have HC1 := Aside0.mk (show kNode.C w1 A1 2 uB.nodes from (Kd.R_reads' hR1).2.2)
  clear hR1 hB1 HB HA HBn HSh HZ
  have hA2 := below_alloc (Below.refl w1.heap.size w1) (.cells #[.slice A1 2 c1, .int .i64 1] 34)
  have z0 := box_cell w1 _ rfl #[.slice A1 2 c1, .int .i64 1] 34 0 _ rfl
  have z1 := box_cell w1 _ rfl #[.slice A1 2 c1, .int .i64 1] 34 1 _ rfl
  replace k0 := pw_cell_below hA2 k0
  replace k1 := pw_cell_below hA2 k1
  replace q0 := pw_cell_below hA2 q0
  replace q1 := pw_cell_below hA2 q1
  have HB2 := Aside0.mk (below_step HB1.out hA2)
  have HA2 := Aside0.mk (Kd.C_below HA1.out hA2)
  have HD2 := Aside0.mk (Kd.C_below HD1.out hA2)
  have HC2 := Aside0.mk (Kd.C_below HC1.out hA2)
  clear hA2 HB1 HA1 HD1 HC1
  have hl2 : uB.nodes.length = 2 := rfl
  have hr2 : uB.root = 1 := rfl
  go_wp2_with fail
  generalize w1.alloc (.cells #[.slice A1 2 c1, .int .i64 1] 34) = w2 at k0 k1 q0 q1 z0 z1 HB2 HA2 HD2 HC2 ⊢
  refine (uequal_any T (some ⟨w.heap.size + 1, 0, none⟩) 3 uA (some ⟨w.heap.size + 1 + 1 + 1 + 1, 0, none⟩) 2 uB w2 HA2.out (by decide) HD2.out (by decide) uA_fit uB_fit (HT.out.below HB2.out)).mono ?_
  rw [uAB_eq]
  rintro e w3 ⟨rfl, hB3⟩
  replace k0 := pw_cell_below hB3 k0
  replace k1 := pw_cell_below hB3 k1
  replace q0 := pw_cell_below hB3 q0
  replace q1 := pw_cell_below hB3 q1
  replace z0 := pw_cell_below hB3 z0
  replace z1 := pw_cell_below hB3 z1
  have HB3 := Aside0.mk (below_step HB2.out hB3)
  have HA3 := Aside0.mk (Kd.C_below HA2.out hB3)
  have HD3 := Aside0.mk (Kd.C_below HD2.out hB3)
  have HC3 := Aside0.mk (Kd.C_below HC2.out hB3)
  clear hB3 HB2 HA2 HD2 HC2
  go_wp2_with fail
  refine (usize_any (some ⟨w.heap.size + 1, 0, none⟩) 3 uA 99 w3 HA3.out (by decide) uA_fit (by omega) (by omega)).mono ?_
  rw [show uszN uA 99 = 3 from by rw [usz_yes uA_right, uA_size]; rfl]
  rintro e w4 ⟨rfl, hB4⟩
  replace k0 := pw_cell_below hB4 k0
  replace k1 := pw_cell_below hB4 k1
  replace q0 := pw_cell_below hB4 q0
  replace q1 := pw_cell_below hB4 q1
  replace z0 := pw_cell_below hB4 z0
  replace z1 := pw_cell_below hB4 z1
  have HB4 := Aside0.mk (below_step HB3.out hB4)
  have HA4 := Aside0.mk (Kd.C_below HA3.out hB4)
  have HD4 := Aside0.mk (Kd.C_below HD3.out hB4)
  have HC4 := Aside0.mk (Kd.C_below HC3.out hB4)
  clear hB4 HB3 HA3 HD3 HC3
  go_wp2_with fail
  refine (usize_any (some ⟨w.heap.size + 1 + 1 + 1 + 1, 0, none⟩) 2 uB 99 w4 HD4.out (by decide) uB_fit (by omega) (by omega)).mono ?_
  rw [show uszN uB 99 = 3 from by rw [usz_yes uB_right, uB_size]; rfl]
  rintro e w5 ⟨rfl, hB5⟩
  replace k0 := pw_cell_below hB5 k0
  replace k1 := pw_cell_below hB5 k1
  replace q0 := pw_cell_below hB5 q0
  replace q1 := pw_cell_below hB5 q1
  replace z0 := pw_cell_below hB5 z0
  replace z1 := pw_cell_below hB5 z1
  have HB5 := Aside0.mk (below_step HB4.out hB5)
  have HA5 := Aside0.mk (Kd.C_below HA4.out hB5)
  have HD5 := Aside0.mk (Kd.C_below HD4.out hB5)
  have HC5 := Aside0.mk (Kd.C_below HC4.out hB5)
  clear hB5 HB4 HA4 HD4 HC4
  go_wp2_with fail
  refine (usize_any (some ⟨w.heap.size + 1 + 1 + 1 + 1, 0, none⟩) 2 uB 2 w5 HD5.out (by decide) uB_fit (by omega) (by omega)).mono ?_
  rw [show uszN uB 2 = 2 from by rw [usz_yes uB_right, uB_size]; rfl]
  rintro e w6 ⟨rfl, hB6⟩
  replace k0 := pw_cell_below hB6 k0
  replace k1 := pw_cell_below hB6 k1
  replace q0 := pw_cell_below hB6 q0
  replace q1 := pw_cell_below hB6 q1
  replace z0 := pw_cell_below hB6 z0
  replace z1 := pw_cell_below hB6 z1
  have HB6 := Aside0.mk (below_step HB5.out hB6)
  have HA6 := Aside0.mk (Kd.C_below HA5.out hB6)
  have HD6 := Aside0.mk (Kd.C_below HD5.out hB6)
  have HC6 := Aside0.mk (Kd.C_below HC5.out hB6)
  clear hB6 HB5 HA5 HD5 HC5
  go_wp2_with fail
  refine (sameS_any A1 c1 uB (some ⟨w.heap.size + 1 + 1 + 1 + 1, 0, none⟩) 2 uB w6 HC6.out HD6.out uB_fit.small).mono ?_
  rw [sameS_yes rfl]
  rintro e w7 ⟨rfl, hB7⟩
  replace k0 := pw_cell_below hB7 k0
  replace k1 := pw_cell_below hB7 k1
  replace q0 := pw_cell_below hB7 q0
  replace q1 := pw_cell_below hB7 q1
  replace z0 := pw_cell_below hB7 z0
  replace z1 := pw_cell_below hB7 z1
  have HB7 := Aside0.mk (below_step HB6.out hB7)
  have HA7 := Aside0.mk (Kd.C_below HA6.out hB7)
  have HD7 := Aside0.mk (Kd.C_below HD6.out hB7)
  have HC7 := Aside0.mk (Kd.C_below HC6.out hB7)
  clear hB7 HB6 HA6 HD6 HC6
  go_wp2_with fail
  refine (uequal_any T (some ⟨w.heap.size + 1, 0, none⟩) 3 uA none 0 ⟨[], 0⟩ w7 HA7.out (by decide) (C_nil _ _) (by decide) uA_fit none_fit (HT.out.below HB7.out)).mono ?_
  rw [uA_none]
  rintro e w8 ⟨rfl, hB8⟩
  have HB8 := Aside0.mk (below_step HB7.out hB8)
  clear hB8 k0 k1 q0 q1 z0 z1
  go_wp2
  go_ret
  exact ⟨rfl, HB8.out⟩
end Go.Proofs.YtdfneldenipljaaDoor.L
end
section
namespace Go.Proofs.YtdfneldenipljaaDoor.L
open Go.RowKit Go.ChangeShapes Go.WideShapes Go.Proofs.YtdfneldenipljaaDoorW.PrintWords Go.Proofs.YtdfneldenipljaaDoorW.PrintLast Go.Proofs.YtdfneldenipljaaDoorW.PrintMore
attribute [local go_sem] max2_int min2_int max_two min_two max_three min_three max_four min_four
theorem rightB_yes {s : Scene} (h : rightB s = true) : Right s := gcheck_right.1 (by unfold rightB at h; simpa using h)
end Go.Proofs.YtdfneldenipljaaDoor.L
end
section
namespace Go.Proofs.YtdfneldenipljaaDoor.L
open Go.RowKit Go.ChangeShapes Go.WideShapes Go.Proofs.YtdfneldenipljaaDoorW.PrintWords Go.Proofs.YtdfneldenipljaaDoorW.PrintLast Go.Proofs.YtdfneldenipljaaDoorW.PrintMore
attribute [local go_sem] max2_int min2_int max_two min_two max_three min_three max_four min_four
def apOk (s : Scene) (p q : Int) : Prop := 0 ≤ p ∧ p < (s.nodes.length : Int) ∧ 0 ≤ q ∧ q < ((nd s.nodes p.toNat).kids.length : Int)
def apN (s : Scene) (p q : Nat) : Node := ⟨(nd s.nodes p).kind, (nd s.nodes p).ints, (nd s.nodes p).texts, (nd s.nodes p).kids.set q (s.nodes.length : Int)⟩
def apY (s : Scene) (p q : Nat) : Scene := ⟨s.nodes.set p (apN s p q) ++ [nd s.nodes (rd (nd s.nodes p).kids (q : Int)).toNat], s.root⟩
open Classical in
noncomputable def apS (s : Scene) (p q : Int) : Scene := if apOk s p q then apY s p.toNat q.toNat else s
theorem apS_yes {s : Scene} {p q : Int} (h : apOk s p q) : apS s p q = apY s p.toNat q.toNat := if_pos h
theorem apS_no {s : Scene} {p q : Int} (h : ¬ apOk s p q) : apS s p q = s := if_neg h
section
variable {s : Scene} {p q : Nat}
theorem apY_len : (apY s p q).nodes.length = s.nodes.length + 1 := by simp [apY]
theorem apY_new (hp : p < s.nodes.length) : nd (apY s p q).nodes s.nodes.length = nd s.nodes (rd (nd s.nodes p).kids (q : Int)).toNat := by
  unfold nd apY
  rw [List.getD_eq_getElem?_getD, List.getElem?_append_right (by simp)]
  simp [nd]
theorem apY_at (hp : p < s.nodes.length) : nd (apY s p q).nodes p = apN s p q := by
  unfold nd apY
  rw [List.getD_eq_getElem?_getD, List.getElem?_append_left (by simpa using hp)]
  simp [hp]
theorem apY_else {x : Nat} (hx : x < s.nodes.length) (hne : x ≠ p) : nd (apY s p q).nodes x = nd s.nodes x := by
  unfold nd apY
  rw [List.getD_eq_getElem?_getD, List.getElem?_append_left (by simpa using hx), List.getElem?_set_ne (Ne.symm hne), List.getD_eq_getElem?_getD]
theorem rd_set_self {l : List Int} {j : Nat} {x : Int} (h : j < l.length) : rd (l.set j x) (j : Int) = x := by
  rw [rd_eq (by simpa using h)]; simp
theorem rd_set_ne {l : List Int} {j k : Nat} {x : Int} (h : k < l.length) (hne : j ≠ k) : rd (l.set j x) (k : Int) = rd l (k : Int) := by
  rw [rd_eq (by simpa using h), rd_eq h, List.getElem_set_ne hne]
theorem ap_like (hs : Right s) (hp : p < s.nodes.length) (hq : q < (nd s.nodes p).kids.length) (ht : Right (apY s p q)) : SameT s (apY s p q) := by
  have hK := right_kid hs hp hq
  obtain ⟨K, hKe⟩ : ∃ K : Nat, rd (nd s.nodes p).kids (q : Int) = (K : Int) := ⟨_, (Int.toNat_of_nonneg hK.1).symm⟩
  have hKt : (rd (nd s.nodes p).kids (q : Int)).toNat = K := by rw [hKe]; simp
  have hKl : K < s.nodes.length := by have := hK.2; omega
  have key := like_canon hs ht (fun x y => x < s.nodes.length ∧ (y = x ∨ (y = s.nodes.length ∧ x = K))) (fun x y hxy => by
    obtain ⟨hx, hy⟩ := hxy
    rw [apY_len]
    have hself : ∀ k : Nat, k < (nd s.nodes x).kids.length → (rd (nd s.nodes x).kids (k : Int)).toNat < s.nodes.length := fun k hk => by have := right_kid hs hx hk; omega
    rcases hy with rfl | ⟨rfl, rfl⟩
    · refine ⟨hx, by omega, ?_⟩
      by_cases he : y = p
      · subst he
        rw [apY_at hp]
        refine ⟨⟨rfl, rfl, rfl, by simp [apN]⟩, fun k hk => ⟨hself k hk, ?_⟩⟩
        show (rd ((nd s.nodes y).kids.set q (s.nodes.length : Int)) (k : Int)).toNat = _ ∨ _
        by_cases hkq : q = k
        · subst hkq
          exact .inr ⟨(congrArg Int.toNat (rd_set_self hq)).trans (by simp), hKt⟩
        · exact .inl (congrArg Int.toNat (rd_set_ne hk hkq))
      · rw [apY_else hx he]
        exact ⟨Own4.refl _, fun k hk => ⟨hself k hk, .inl rfl⟩⟩
    · refine ⟨hx, by omega, ?_⟩
      rw [apY_new hp, hKt]
      exact ⟨Own4.refl _, fun k hk => ⟨hself k hk, .inl rfl⟩⟩)
  have hr := hs.r0
  have hr1 := hs.r1
  obtain ⟨r, hre⟩ : ∃ r : Nat, s.root = (r : Int) := ⟨_, (Int.toNat_of_nonneg hr).symm⟩
  have h1 := key r r ⟨by omega, .inl rfl⟩
  have c1 := canon_root hs
  have c2 := canon_root ht
  have e2 : (apY s p q).root = (r : Int) := hre
  rw [hre] at c1
  rw [e2] at c2
  rw [show idx s (r : Int) = s.nodes.length - 1 from by omega, show idx (apY s p q) (r : Int) = (apY s p q).nodes.length - 1 from by omega] at h1
  exact h1
end
section
variable {s : Scene} {p q : Int}
theorem apS_same (hs : Right s) (ht : Right (apS s p q)) : SameT s (apS s p q) := by
  by_cases h : apOk s p q
  · rw [apS_yes h] at ht ⊢
    obtain ⟨h1, h2, h3, h4⟩ := h
    exact ap_like hs (by omega) (by omega) ht
  · rw [apS_no h]
    exact SameT.refl hs
theorem apS_eqT (hs : Right s) (ht : Right (apS s p q)) : eqT s (apS s p q) = true := eqT_yes hs ht (apS_same hs ht)
theorem apS_share (T : Lib.PrintTabs) (hs : Right s) (ht : Right (apS s p q)) : shareS T s = shareS T (apS s p q) := share_eq T hs ht (apS_same hs ht)
theorem apS_canon (hs : Right s) (ht : Right (apS s p q)) : sameS (canS s) (canS (apS s p q)) = decide ((s.nodes.length : Int) = ((apS s p q).nodes.length : Int)) := by
  by_cases h : apOk s p q
  · have hl : (apS s p q).nodes.length = s.nodes.length + 1 := by rw [apS_yes h, apY_len]
    rw [decide_eq_false (by rw [hl]; omega)]
    refine sameS_no fun e => ?_
    have e1 : (canonL s).length = (canonL (apS s p q)).length := congrArg (fun x : Scene => x.nodes.length) e
    rw [canon_len hs, canon_len ht] at e1
    omega
  · rw [apS_no h, sameS_yes rfl]
    simp
theorem apS_fit (hr : Right s) (hl : s.nodes.length ≤ 60) (h : Fit s.nodes) : Fit (apS s p q).nodes := by
  by_cases hh : apOk s p q
  · rw [apS_yes hh]
    obtain ⟨h1, h2, h3, h4⟩ := hh
    have hK := right_kid hr (p := p.toNat) (k := q.toNat) (by omega) (by omega)
    refine fit_of_mem (by rw [apY_len]; omega) (fun n hn => ?_)
    rcases List.mem_append.1 hn with hn | hn
    · rcases List.mem_or_eq_of_mem_set hn with hn | rfl
      · exact fit_mem h hn
      · exact (h.2 p.toNat (by omega)).like rfl rfl rfl (by simp [apN])
    · rw [List.mem_singleton.1 hn]
      exact h.2 _ (by omega)
  · rw [apS_no hh]; exact h
end
end Go.Proofs.YtdfneldenipljaaDoor.L
end
section
namespace Go.Proofs.YtdfneldenipljaaDoor.L
open Go.RowKit Go.ChangeShapes Go.WideShapes Go.Proofs.YtdfneldenipljaaDoorW.PrintWords Go.Proofs.YtdfneldenipljaaDoorW.PrintLast Go.Proofs.YtdfneldenipljaaDoorW.PrintMore
attribute [local go_sem] max2_int min2_int max_two min_two max_three min_three max_four min_four
structure CsRel (w1 : World) (root : Int) (xs : List Node) (v4 : Value) (W : World) : Prop where
  below : Below w1.heap.size w1 W
  out : W.heap[w1.heap.size]? = some (.cells #[v4, .int .i64 root] 34 (0, 0))
  row : Kd.S kNode 52 W w1.heap.size (fun _ => True) v4 xs
theorem CsRel.start (w1 : World) (root : Int) : CsRel w1 root [] (.slice none 0 0) (w1.alloc (.cells #[.slice none 0 0, .int .i64 root] 34)) :=
  ⟨below_alloc (Below.refl _ _) _, by simpa using heap_alloc_new w1 _, Kd.S_nil _ _ _ _ _⟩
theorem CsRel.later {w1 : World} {root : Int} {xs : List Node} {v4 : Value} {W W1 : World} (h : CsRel w1 root xs v4 W) (hb : Below W.heap.size W W1) : CsRel w1 root xs v4 W1 :=
  ⟨below_step h.below hb, (hb.block _ (blk_lt h.out)).trans h.out, Kd.S_below h.row hb⟩
theorem CsRel.drewN {w1 : World} {root : Int} {xs : List Node} {v4 : Value} {W : World} (h : CsRel w1 root xs v4 W) (m : Nat) : CsRel w1 root xs v4 (W.drewN m) := h.later (pw_below_drewN (Below.refl _ _) m)
theorem CsRel.elder {w1 : World} {root : Int} {xs : List Node} {v4 : Value} {W W1 : World} (h : CsRel w1 root xs v4 W) (hb : Below W.heap.size W W1) : Kd.S kNode 52 W1 w1.heap.size (fun k => True ∧ ¬ W.heap.size ≤ k) v4 xs :=
  Kd.S_below (Kd.S_mono (Kd.S_bound h.row) (fun k hk => ⟨trivial, by have := hk.2.2.1; omega⟩)) hb
theorem S_typeS {xs : List Node} {ok : Nat → Prop} {v : Value} {W : World} {base g : Nat} {cells : Array Value} (h : Kd.S kNode 52 W base ok v xs) (hb : W.heap[g]? = some (.cells cells 34 (0, 0))) (j : Nat) (u : Value) : Kd.S kNode 52 (W.setCell ⟨g, j, none⟩ u) base ok v xs :=
  Kd.S_set h hb (by decide) j u
theorem CsRel.put {w1 : World} {root : Int} {xs : List Node} {v4 v5 : Value} {ys : List Node} {W w2 : World} (h : CsRel w1 root xs v4 W) (hR : Kd.S kNode 52 w2 w1.heap.size (fun _ => True) v5 ys) (hB : Below w1.heap.size w1 w2) (hg : W.grownBy w2 v4.ownBlock) :
    w2.heap[w1.heap.size]? = some (.cells #[v4, .int .i64 root] 34 (0, 0)) ∧ CsRel w1 root ys v5 (w2.setCell ⟨w1.heap.size, 0, none⟩ v5) := by
  have hb := blk_grown h.out hg (Kd.S_ne h.row h.out (by decide))
  refine ⟨hb, below_set hB (Nat.le_refl _), ?_, S_typeS hR hb 0 v5⟩
  have := blk_set hb 0 v5
  simpa using this
theorem node_new {W : World} {base N : Nat} {n : Node} {v1 v2 v3 : Value} (h1 : (Kd.int .i64).R 2 W N (fun _ => True) v1 n.ints) (h2 : Kd.string.R 9 W N (fun _ => True) v2 n.texts) (h3 : (Kd.int .i64).R 3 W N (fun _ => True) v3 n.kids) (hb : base ≤ N) :
    kNode.M W base (fun k => N ≤ k) n [.int .i64 n.kind, v1, v2, v3] :=
  kNode_mkM (Kd.R_lower (Kd.R_mono (Kd.R_bound h1) (fun k hk => hk.2.1)) hb) (Kd.R_lower (Kd.R_mono (Kd.R_bound h2) (fun k hk => hk.2.1)) hb) (Kd.R_lower (Kd.R_mono (Kd.R_bound h3) (fun k hk => hk.2.1)) hb)
def SceneSPost (t : Scene) (w : World) (e : Ending) (w' : World) : Prop := ∃ A c, e = .returned (.agg #[.slice A t.nodes.length c, .int .i64 t.root]) ∧ Kd.S kNode 52 w' w.heap.size (fun _ => True) (.slice A t.nodes.length c) t.nodes ∧ Below w.heap.size w w'
set_option maxRecDepth 100000 in
set_option maxHeartbeats 4000000 in
theorem scopyS_any (A : Option Addr) (c : Nat) (s : Scene) (w : World) (h : kNode.C w A s.nodes.length s.nodes) (hc : s.nodes.length ≤ c) (hn : s.nodes.length ≤ 1000000) (hs : ∀ i : Nat, i < s.nodes.length → Small (nd s.nodes i)) :
    Calls Tryd.prog 25 #[.agg #[.slice A s.nodes.length c, .int .i64 s.root]] w (SceneSPost s w) := by
  have HR := Aside0.mk h
  have HSm := Aside0.mk hs
  have hu := Tryd.underlying34
  have hun := Tryd.underlying52
  obtain ⟨w1, hw1⟩ : ∃ w1, w1 = (w.alloc (.cells #[.slice A s.nodes.length c, .int .i64 s.root] 34)).alloc (.cells #[.slice none 0 0, .int .i64 0] 34) := ⟨_, rfl⟩
  have b1 := below_alloc (Below.refl w.heap.size w) (.cells #[.slice A s.nodes.length c, .int .i64 s.root] 34)
  have b2 := below_alloc (Below.refl (w.alloc (.cells #[.slice A s.nodes.length c, .int .i64 s.root] 34)).heap.size (w.alloc (.cells #[.slice A s.nodes.length c, .int .i64 s.root] 34))) (.cells #[.slice none 0 0, .int .i64 0] 34)
  have k0 := box_cell2 w _ rfl #[.slice A s.nodes.length c, .int .i64 s.root] 34 (.cells #[.slice none 0 0, .int .i64 0] 34) 0 (.slice A s.nodes.length c) rfl
  have k1 := box_cell2 w _ rfl #[.slice A s.nodes.length c, .int .i64 s.root] 34 (.cells #[.slice none 0 0, .int .i64 0] 34) 1 (.int .i64 s.root) rfl
  have HZ := Aside0.mk (show w1.heap[w.heap.size + 1]? = some (.cells #[.slice none 0 0, .int .i64 0] 34 (0, 0)) from by
    rw [hw1]
    have := heap_alloc_new (w.alloc (.cells #[.slice A s.nodes.length c, .int .i64 s.root] 34)) (.cells #[.slice none 0 0, .int .i64 0] 34)
    simpa using this)
  have HB := Aside0.mk (show Below w.heap.size w w1 from by rw [hw1]; exact below_step b1 b2)
  have HZs := Aside0.mk (show w1.heap.size = w.heap.size + 2 from by rw [hw1]; simp)
  have HK := Aside0.mk (show w1.cell? ⟨w.heap.size, 0, none⟩ = some (.slice A s.nodes.length c) from by rw [hw1]; exact k0)
  have HI := Aside0.mk (CsRel.start w1 s.root)
  clear h hs b1 b2
  go_enter Tryd.func25, Tryd.ntmps25
  go_wp2
  rw [← hw1]
  clear k0 k1 hw1
  rw [show w.heap.size + 1 + 1 = w1.heap.size from by have := HZs.out; omega]
  generalize w1.alloc (.cells #[.slice none 0 0, .int .i64 s.root] 34) = W5 at HI ⊢
  go_loopw [4] (fun v4 W => ∃ i : Nat, i ≤ s.nodes.length ∧ v4 = .int .i64 i ∧ ∃ A4 c4, Aside0 (CsRel w1 s.root (s.nodes.take i) (.slice A4 i c4) W)) (fun v4 _ => s.nodes.length - (intOf v4).toNat)
  case atStart => exact ⟨0, by omega, rfl, none, 0, by rw [List.take_zero]; exact HI⟩
  case round =>
    clear HI
    obtain ⟨i, hi, rfl, A4, c4, HI⟩ := hrel
    have HW := Aside0.mk (below_step HB.out HI.out.below)
    have k0 := pw_cell_below HI.out.below HK.out
    by_cases hlt : i < s.nodes.length
    · obtain ⟨adn, A1, c1, A2, c2, A3, c3, rfl, x0, x1, x2, x3, hN⟩ := at_node HR.out i hlt
      have hTk := Aside0.mk (show s.nodes.take (i + 1) = s.nodes.take i ++ [nd s.nodes i] from by rw [take_succ_getD nodez hlt]; rfl)
      have HSq := Aside0.mk (HSm.out i hlt)
      have HN := Aside0.mk hN
      have HX := Aside0.mk (And.intro x0 (And.intro x1 (And.intro x2 x3)))
      generalize nd s.nodes i = q at HX HN HSq hTk x0 x1 x2 x3
      replace x0 := pw_cell_below HW.out x0
      replace x1 := pw_cell_below HW.out x1
      replace x2 := pw_cell_below HW.out x2
      replace x3 := pw_cell_below HW.out x3
      have o0 : wr.cell? ⟨w1.heap.size, 0, none⟩ = some (.slice A4 i c4) := (blk_cell HI.out.out 0).trans rfl
      have o0d : wr.drew.cell? ⟨w1.heap.size, 0, none⟩ = some (.slice A4 i c4) := o0
      clear hN
      go_wp2
      go_region_law (first
          | (rw [if_pos (by rfl)]; go_simp; go_at_call 39; refine (rcopy_any q A1 c1 A2 c2 A3 c3 wr.drew (HN.out.below (below_drew HW.out)) HSq.out).mono ?_; rintro e w6 ⟨_, rfl, ⟨v1, v2, v3, rfl, hM⟩, hB⟩; obtain ⟨v1', v2', v3', ev, hR1, hR2, hR3⟩ := kNode_openM hM; injection ev with _ ev; injection ev with e1 ev; injection ev with e2 ev; injection ev with e3 _; subst e1 e2 e3; have HI6 := Aside0.mk ((HI.out.drewN 1).later hB); have hs1 := (HI.out.drewN 1).below.size; have HMk := Aside0.mk (node_new (n := q) (base := w1.heap.size) hR1 hR2 hR3 hs1); have HEl := Aside0.mk ((HI.out.drewN 1).elder hB); have HOw := Aside0.mk (fun (k : Nat) (hk : (wr.drewN 1).heap.size ≤ k) => (show True ∧ some k ≠ (Value.slice A4 i c4).ownBlock from ⟨trivial, fun e => Nat.lt_irrefl _ (Nat.lt_of_lt_of_le (Kd.S_lt (HI.out.drewN 1).row k e.symm) hk)⟩)); obtain ⟨B1, d1, rfl⟩ := Kd.R_slice hR1; obtain ⟨B2, d2, rfl⟩ := Kd.R_slice hR2; obtain ⟨B3, d3, rfl⟩ := Kd.R_slice hR3; have HB6 := Aside0.mk (below_step HB.out HI6.out.below); have y0 := pw_cell_below HI6.out.below HK.out; have y1 := pw_cell_below HB6.out HX.out.1; have y2 := pw_cell_below HB6.out HX.out.2.1; have y3 := pw_cell_below HB6.out HX.out.2.2.1; have y4 := pw_cell_below HB6.out HX.out.2.2.2; have o1 : w6.cell? ⟨w1.heap.size, 0, none⟩ = some (.slice A4 i c4) := (blk_cell HI6.out.out 0).trans rfl; have o2 := pw_cell_below (below_alloc (Below.refl _ _) (.cells #[.int .i64 q.kind, .slice B1 q.ints.length d1, .slice B2 q.texts.length d2, .slice B3 q.kids.length d3] 52)) o1; clear hM hR1 hR2 hR3 hB hs1; go_simp)
          | (refine Kd.S_append_step kNode (W := w6) (w0 := w1) w1.heap.size (by rfl) (.tmp 16) (.tmp 23) 32 52 (.agg #[.int .i64 0, .slice none 0 0, .slice none 0 0, .slice none 0 0]) 80 rfl Tryd.underlying32 info_nodez rfl (by decide) (by omega) (.slice A4 i c4) (s.nodes.take i) q [.int .i64 q.kind, .slice B1 q.ints.length d1, .slice B2 q.texts.length d2, .slice B3 q.kids.length d3] (fun _ => True) (fun k => (wr.drewN 1).heap.size ≤ k) rfl rfl HMk.out HOw.out (fun _ _ => trivial) HEl.out HI6.out.below HI6.out.below.size (by rw [List.length_take]; omega) ?_; intro v5 w8 hR8 hB8 hg8 hat8; rw [← hTk.out] at hR8; obtain ⟨A5, c5, rfl⟩ := Kd.S_slice hR8; have hl8 : (s.nodes.take (i + 1)).length = i + 1 := List.length_take_of_le hlt; rw [hl8] at hR8 ⊢; obtain ⟨hb8, hN8⟩ := HI6.out.put hR8 hB8 hg8; have HN8 := Aside0.mk hN8; have f0 := (blk_cell hb8 0).trans rfl; have f0f := blk_frozen hb8 0; have HB8 := Aside0.mk hB8; have HBn := Aside0.mk (below_step HB.out HB8.out); have z0 := pw_cell_below HB8.out HK.out; have z1 := pw_cell_below HBn.out HX.out.1; have z2 := pw_cell_below HBn.out HX.out.2.1; have z3 := pw_cell_below HBn.out HX.out.2.2.1; have z4 := pw_cell_below HBn.out HX.out.2.2.2; have HBm := Aside0.mk (below_step HB.out HN8.out.below); have t0 := pw_cell_below HN8.out.below HK.out; have t1 := pw_cell_below HBm.out HX.out.1; have t2 := pw_cell_below HBm.out HX.out.2.1; have t3 := pw_cell_below HBm.out HX.out.2.2.1; have t4 := pw_cell_below HBm.out HX.out.2.2.2; clear hR8 hB8 hg8 hat8 hN8 hb8 hl8))
      all_goals
        clear x0 x1 x2 x3 k0 o0 o0d y0 y1 y2 y3 y4 o1 o2 f0 f0f z0 z1 z2 z3 z4 t0 t1 t2 t3 t4
        go_wp2
        go_roundw
        case rel => exact ⟨i + 1, by omega, by go_num, A5, c5, HN8⟩
        case measure => simp [intOf]; omega
    · obtain rfl : i = s.nodes.length := by omega
      have o0 := (blk_cell HI.out.out 0).trans rfl
      have o1 := (blk_cell HI.out.out 1).trans rfl
      have hz := (HI.out.below.block _ (blk_lt HZ.out)).trans HZ.out
      have e0 : wr.cell? ⟨w.heap.size + 1, 0, none⟩ = some (.slice none 0 0) := (blk_cell hz 0).trans rfl
      have e0f := blk_frozen hz 0
      have hz1 := blk_set hz 0 (.slice A4 s.nodes.length c4)
      have e1 : (wr.setCell ⟨w.heap.size + 1, 0, none⟩ (.slice A4 s.nodes.length c4)).cell? ⟨w.heap.size + 1, 1, none⟩ = some (.int .i64 0) := (blk_cell hz1 1).trans rfl
      have e1f := blk_frozen hz1 1
      have hne : w1.heap.size ≠ w.heap.size + 1 := by have := HZs.out; omega
      have HRow := Aside0.mk (S_typeS (S_typeS HI.out.row hz 0 (.slice A4 s.nodes.length c4)) hz1 1 (.int .i64 s.root))
      rw [List.take_length] at HRow
      have hz2 := blk_set hz1 1 (.int .i64 s.root)
      have r0 : ((wr.setCell ⟨w.heap.size + 1, 0, none⟩ (.slice A4 s.nodes.length c4)).setCell ⟨w.heap.size + 1, 1, none⟩ (.int .i64 s.root)).cell? ⟨w.heap.size + 1, 0, none⟩ = some (.slice A4 s.nodes.length c4) := (blk_cell hz2 0).trans rfl
      have r1 : ((wr.setCell ⟨w.heap.size + 1, 0, none⟩ (.slice A4 s.nodes.length c4)).setCell ⟨w.heap.size + 1, 1, none⟩ (.int .i64 s.root)).cell? ⟨w.heap.size + 1, 1, none⟩ = some (.int .i64 s.root) := (blk_cell hz2 1).trans rfl
      clear hz hz1 hz2
      go_wp2
      exact bodyPost_ret (v := .agg #[.slice A4 s.nodes.length c4, .int .i64 s.root]) (by simp [results, Tryd.results25, go_sem, r0, r1]) rfl ⟨A4, c4, rfl, Kd.S_lower HRow.out HB.out.size, below_set2 HW.out (Nat.le_succ _)⟩
end Go.Proofs.YtdfneldenipljaaDoor.L
end
section
namespace Go.Proofs.YtdfneldenipljaaDoor.L
open Go.RowKit Go.ChangeShapes Go.WideShapes Go.Proofs.YtdfneldenipljaaDoorW.PrintWords Go.Proofs.YtdfneldenipljaaDoorW.PrintLast Go.Proofs.YtdfneldenipljaaDoorW.PrintMore
attribute [local go_sem] max2_int min2_int max_two min_two max_three min_three max_four min_four
theorem S_kidset {W : World} {base g m c : Nat} {xs : List Node} {ok : Nat → Prop} (h : Kd.S kNode 52 W base ok (.slice (some ⟨g, 0, none⟩) m c) xs) (i : Nat) (hi : i < m) (j : Nat) (hj : j < (nd xs i).kids.length) (x : Int) :
    ∃ gk ck y, W.cell? ⟨g, i * 4 + 3, none⟩ = some (.slice (some ⟨gk, 0, none⟩) (nd xs i).kids.length ck) ∧ W.cell? ⟨gk, j, none⟩ = some y ∧ W.frozen? ⟨gk, j, none⟩ = false ∧ base ≤ gk ∧ ok gk ∧ (∃ cells, W.heap[gk]? = some (.cells cells 3 (0, 0))) ∧
      Kd.S kNode 52 (W.setCell ⟨gk, j, none⟩ (.int .i64 x)) base ok (.slice (some ⟨g, 0, none⟩) m c) (xs.set i ⟨(nd xs i).kind, (nd xs i).ints, (nd xs i).texts, (nd xs i).kids.set j x⟩) := by
  obtain ⟨oki, cc, hcl, hM, hcc, hok, hH⟩ := Kd.S_lend h nodez (i : Int) (by omega) (by omega)
  rw [Int.toNat_natCast] at hM hcc
  obtain ⟨v1, v2, v3, rfl, r1, r2, r3⟩ := kNode_openM hM
  have r3 : (Kd.int .i64).R 3 W base oki v3 (nd xs i).kids := r3
  obtain ⟨gk, ck, rfl, hgb, hgl, hty⟩ := Kd.R_form r3 (by omega)
  obtain ⟨q1, q2⟩ := ints_cell r3 j hj
  obtain ⟨s1, s2, s3⟩ := ints_store r3 j hj x
  have hgo : oki gk := r3.1 gk rfl
  obtain ⟨cells, hcells⟩ := hty
  refine ⟨gk, ck, _, hcc 3 _ rfl, q1, q2, hgb, (hok gk hgo).1, ⟨cells, hcells⟩, ?_⟩
  have hM2 : kNode.M (W.setCell ⟨gk, j, none⟩ (.int .i64 x)) base oki ⟨(nd xs i).kind, (nd xs i).ints, (nd xs i).texts, (nd xs i).kids.set j x⟩ [.int .i64 (nd xs i).kind, v1, v2, .slice (some ⟨gk, 0, none⟩) (nd xs i).kids.length ck] :=
    kNode_mkM (n := ⟨(nd xs i).kind, (nd xs i).ints, (nd xs i).texts, (nd xs i).kids.set j x⟩) (Kd.R_grown1 r1 rfl s2 (Kd.R_ne r1 hcells (by decide))) (Kd.R_grown1 r2 rfl s2 (Kd.R_ne r2 hcells (by decide))) s1
  have := Kd.H_back (Kd.H_grown hH s2 (fun k hk => by injection hk with hk; exact hk ▸ hgo)) hM2 (fun k hk => hk)
  rwa [Int.toNat_natCast] at this
structure AB (w : World) (A : Option Addr) (c : Nat) (s : Scene) (g : Nat) (xs : List Node) (v : Value) (ok : Nat → Prop) (W : World) : Prop where
  below : Below w.heap.size w W
  sb : W.heap[w.heap.size]? = some (.cells #[.slice A s.nodes.length c, .int .i64 s.root] 34 (0, 0))
  res : W.heap[w.heap.size + 1]? = some (.cells #[.slice none 0 0, .int .i64 0] 34 (0, 0))
  out : W.heap[g]? = some (.cells #[v, .int .i64 s.root] 34 (0, 0))
  ge : w.heap.size + 1 < g
  row : Kd.S kNode 52 W w.heap.size ok v xs
section
variable {w : World} {A : Option Addr} {c : Nat} {s : Scene} {g : Nat} {xs : List Node} {v : Value} {ok : Nat → Prop} {W W1 : World}
theorem AB.later (h : AB w A c s g xs v ok W) (hb : Below W.heap.size W W1) : AB w A c s g xs v ok W1 :=
  ⟨below_step h.below hb, (hb.block _ (blk_lt h.sb)).trans h.sb, (hb.block _ (blk_lt h.res)).trans h.res, (hb.block _ (blk_lt h.out)).trans h.out, h.ge, Kd.S_below h.row hb⟩
theorem AB.elder (h : AB w A c s g xs v ok W) : AB w A c s g xs v (fun k => k < W.heap.size) W :=
  ⟨h.below, h.sb, h.res, h.out, h.ge, Kd.S_mono (Kd.S_bound h.row) (fun k hk => hk.2.2.1)⟩
theorem AB.kid {gr m cr : Nat} (h : AB w A c s g xs (.slice (some ⟨gr, 0, none⟩) m cr) ok W) (i : Nat) (hi : i < m) (j : Nat) (hj : j < (nd xs i).kids.length) (x : Int) :
    ∃ gk ck y, W.cell? ⟨gr, i * 4 + 3, none⟩ = some (.slice (some ⟨gk, 0, none⟩) (nd xs i).kids.length ck) ∧ W.cell? ⟨gk, j, none⟩ = some y ∧ W.frozen? ⟨gk, j, none⟩ = false ∧ ok gk ∧ gk < W.heap.size ∧ (∃ cells, W.heap[gk]? = some (.cells cells 3 (0, 0))) ∧
      AB w A c s g (xs.set i ⟨(nd xs i).kind, (nd xs i).ints, (nd xs i).texts, (nd xs i).kids.set j x⟩) (.slice (some ⟨gr, 0, none⟩) m cr) ok (W.setCell ⟨gk, j, none⟩ (.int .i64 x)) := by
  obtain ⟨gk, ck, y, q1, q2, q3, q4, q5, ⟨cells, q6⟩, q7⟩ := S_kidset h.row i hi j hj x
  have ne : ∀ {k : Nat} {cs : Array Value}, W.heap[k]? = some (.cells cs 34 (0, 0)) → k ≠ gk := fun hk e => by
    rw [e, q6] at hk
    injection hk with hk
    injection hk with _ hk
    exact absurd hk (by decide)
  refine ⟨gk, ck, y, q1, q2, q3, q5, blk_lt q6, ⟨cells, q6⟩, below_set h.below q4, ?_, ?_, ?_, h.ge, q7⟩
  · exact (Below.heap_setCell W ⟨gk, j, none⟩ _ _ (ne h.sb)).trans h.sb
  · exact (Below.heap_setCell W ⟨gk, j, none⟩ _ _ (ne h.res)).trans h.res
  · exact (Below.heap_setCell W ⟨gk, j, none⟩ _ _ (ne h.out)).trans h.out
end
structure NA (w : World) (A : Option Addr) (c : Nat) (s : Scene) (g : Nat) (xs : List Node) (v : Value) (N0 nb : Nat) (m : Node) (cs : List Value) (W : World) : Prop where
  ab : AB w A c s g xs v (fun k => k < N0) W
  box : ∃ T, W.heap[nb]? = some (.cells cs.toArray T (0, 0))
  ge : N0 ≤ nb
  new : kNode.M W w.heap.size (fun k => N0 ≤ k) m cs
theorem M_newN {W : World} {B B' N : Nat} {m : Node} {cs : List Value} (h : kNode.M W B (fun _ => True) m cs) (hB : B' ≤ B) (hN : N ≤ B) : kNode.M W B' (fun k => N ≤ k) m cs := by
  obtain ⟨x1, x2, x3, rfl, h1, h2, h3⟩ := kNode_openM h
  exact kNode_mkM (Kd.R_lower (Kd.R_mono (Kd.R_bound h1) (fun k hk => Nat.le_trans hN hk.2.1)) hB) (Kd.R_lower (Kd.R_mono (Kd.R_bound h2) (fun k hk => Nat.le_trans hN hk.2.1)) hB) (Kd.R_lower (Kd.R_mono (Kd.R_bound h3) (fun k hk => Nat.le_trans hN hk.2.1)) hB)
section
variable {w : World} {A : Option Addr} {c : Nat} {s : Scene} {g : Nat} {xs ys : List Node} {v v5 : Value} {ok : Nat → Prop} {W W1 w2 : World} {N0 nb : Nat} {m : Node} {cs : List Value}
theorem M_drewN {ok : Nat → Prop} {B : Nat} (h : kNode.M W B ok m cs) : kNode.M W.drew B ok m cs := by
  obtain ⟨x1, x2, x3, rfl, h1, h2, h3⟩ := kNode_openM h
  exact kNode_mkM (Kd.R_drewN h1 1) (Kd.R_drewN h2 1) (Kd.R_drewN h3 1)
theorem NA.drew (h : NA w A c s g xs v N0 nb m cs W) : NA w A c s g xs v N0 nb m cs W.drew :=
  ⟨h.ab.later (below_drew (Below.refl _ _)), h.box, h.ge, M_drewN h.new⟩
theorem NA.kid {gr mm cr : Nat} (h : NA w A c s g xs (.slice (some ⟨gr, 0, none⟩) mm cr) N0 nb m cs W) (i : Nat) (hi : i < mm) (j : Nat) (hj : j < (nd xs i).kids.length) (x : Int) :
    ∃ gk ck y, W.cell? ⟨gr, i * 4 + 3, none⟩ = some (.slice (some ⟨gk, 0, none⟩) (nd xs i).kids.length ck) ∧ W.cell? ⟨gk, j, none⟩ = some y ∧ W.frozen? ⟨gk, j, none⟩ = false ∧
      NA w A c s g (xs.set i ⟨(nd xs i).kind, (nd xs i).ints, (nd xs i).texts, (nd xs i).kids.set j x⟩) (.slice (some ⟨gr, 0, none⟩) mm cr) N0 nb m cs (W.setCell ⟨gk, j, none⟩ (.int .i64 x)) := by
  obtain ⟨gk, ck, y, q1, q2, q3, q4, q5, _, q7⟩ := h.ab.kid i hi j hj x
  have hge := h.ge
  obtain ⟨T, hb⟩ := h.box
  refine ⟨gk, ck, y, q1, q2, q3, q7, ⟨T, (Below.heap_setCell W ⟨gk, j, none⟩ _ _ (by show nb ≠ gk; omega)).trans hb⟩, hge, kNode.M_move (fun k hk => Below.heap_setCell W ⟨gk, j, none⟩ _ _ (by show k ≠ gk; omega)) h.new⟩
theorem AB.push (h : AB w A c s g xs v ok W) (hR : Kd.S kNode 52 w2 w.heap.size (fun _ => True) v5 ys) (hB : Below w.heap.size w w2) (hg : W.grownBy w2 v.ownBlock) :
    w2.heap[g]? = some (.cells #[v, .int .i64 s.root] 34 (0, 0)) ∧ AB w A c s g ys v5 (fun _ => True) (w2.setCell ⟨g, 0, none⟩ v5) := by
  have hge := h.ge
  have b1 := blk_grown h.out hg (Kd.S_ne h.row h.out (by decide))
  have b2 := blk_grown h.sb hg (Kd.S_ne h.row h.sb (by decide))
  have b3 := blk_grown h.res hg (Kd.S_ne h.row h.res (by decide))
  refine ⟨b1, below_set hB (by omega), (Below.heap_setCell w2 ⟨g, 0, none⟩ _ _ (by show w.heap.size ≠ g; omega)).trans b2, (Below.heap_setCell w2 ⟨g, 0, none⟩ _ _ (by show w.heap.size + 1 ≠ g; omega)).trans b3, ?_, hge, S_typeS hR b1 0 v5⟩
  have := blk_set b1 0 v5
  simpa using this
end
theorem M_setN {W : World} {B b i0 i1 i2 i3 : Nat} {m : Node} {cs : List Value} (h : kNode.M W B (fun _ => True) m cs) (hb : b < B) (u0 u1 u2 u3 : Value) : kNode.M ((((W.setCell ⟨b, i0, none⟩ u0).setCell ⟨b, i1, none⟩ u1).setCell ⟨b, i2, none⟩ u2).setCell ⟨b, i3, none⟩ u3) B (fun _ => True) m cs := by
  obtain ⟨x1, x2, x3, rfl, h1, h2, h3⟩ := kNode_openM h
  exact kNode_mkM (R_old4 h1 hb _ _ _ _) (R_old4 h2 hb _ _ _ _) (R_old4 h3 hb _ _ _ _)
theorem M_laterN {W W1 : World} {B : Nat} {m : Node} {cs : List Value} (h : kNode.M W B (fun _ => True) m cs) (hb : Below W.heap.size W W1) : kNode.M W1 B (fun _ => True) m cs := by
  obtain ⟨x1, x2, x3, rfl, h1, h2, h3⟩ := kNode_openM h
  exact kNode_mkM (Kd.R_below h1 hb) (Kd.R_below h2 hb) (Kd.R_below h3 hb)
theorem Lives.boxN {b : Nat} {W : World} (h : Lives 4 b W) (u0 u1 u2 u3 : Value) : ∃ T, ((((W.setCell ⟨b, 0, none⟩ u0).setCell ⟨b, 1, none⟩ u1).setCell ⟨b, 2, none⟩ u2).setCell ⟨b, 3, none⟩ u3).heap[b]? = some (.cells #[u0, u1, u2, u3] T (0, 0)) := by
  obtain ⟨cs, hk, T, h⟩ := h
  have h2 := blk_set (blk_set (blk_set (blk_set h 0 u0) 1 u1) 2 u2) 3 u3
  refine ⟨T, h2.trans ?_⟩
  obtain ⟨l⟩ := cs
  match l, hk with
  | [_, _, _, _], _ => rfl
theorem lives_setN {b : Nat} {W : World} (h : Lives 4 b W) (g i : Nat) (u : Value) : Lives 4 b (W.setCell ⟨g, i, none⟩ u) := by
  by_cases he : g = b
  · subst he; exact h.set i u
  · obtain ⟨cs, hk, T, h⟩ := h
    exact ⟨cs, hk, T, (Below.heap_setCell W ⟨g, i, none⟩ u b (fun e => he e.symm)).trans h⟩
theorem tailA {K : Act → World → Prop} {Q : Exit → Act → World → Prop} {a : Act} {W : World} (F : World → Prop) (hF : F W) (h : ∀ W', F W' → Exit.then K Q .normal a W') : Exit.then K Q .normal a W := h W hF
set_option maxRecDepth 100000 in
set_option maxHeartbeats 8000000 in
theorem apart_any (A : Option Addr) (c : Nat) (s : Scene) (p q : Int) (w : World) (h : kNode.C w A s.nodes.length s.nodes) (hc : s.nodes.length ≤ c) (hRt : Right s) (hF : Fit s.nodes) :
    Calls Tryd.prog 30 #[.agg #[.slice A s.nodes.length c, .int .i64 s.root], .int .i64 p, .int .i64 q] w (SceneCPost (apS s p q) w) := by
  obtain ⟨X, hX⟩ : ∃ X, X = apS s p q := ⟨_, rfl⟩
  rw [← hX]
  have HX := Aside0.mk hX
  clear hX
  have HR := Aside0.mk h
  have HRt := Aside0.mk hRt
  have HF := Aside0.mk hF
  have hu := Tryd.underlying34
  have hun := Tryd.underlying52
  have hn61 : s.nodes.length ≤ 61 := hF.1
  have b1 := below_alloc (Below.refl w.heap.size w) (.cells #[.slice A s.nodes.length c, .int .i64 s.root] 34)
  have b2 := below_alloc (Below.refl (w.alloc (.cells #[.slice A s.nodes.length c, .int .i64 s.root] 34)).heap.size (w.alloc (.cells #[.slice A s.nodes.length c, .int .i64 s.root] 34))) (.cells #[.slice none 0 0, .int .i64 0] 34)
  have HB := Aside0.mk (below_step b1 b2)
  have hS0 : ((w.alloc (.cells #[.slice A s.nodes.length c, .int .i64 s.root] 34)).alloc (.cells #[.slice none 0 0, .int .i64 0] 34)).heap[w.heap.size]? = some (.cells #[.slice A s.nodes.length c, .int .i64 s.root] 34 (0, 0)) :=
    (b2.block _ (by simp)).trans (by simpa using heap_alloc_new w (.cells #[.slice A s.nodes.length c, .int .i64 s.root] 34))
  have hS1 : ((w.alloc (.cells #[.slice A s.nodes.length c, .int .i64 s.root] 34)).alloc (.cells #[.slice none 0 0, .int .i64 0] 34)).heap[w.heap.size + 1]? = some (.cells #[.slice none 0 0, .int .i64 0] 34 (0, 0)) := by
    have := heap_alloc_new (w.alloc (.cells #[.slice A s.nodes.length c, .int .i64 s.root] 34)) (.cells #[.slice none 0 0, .int .i64 0] 34)
    simpa using this
  have HS0 := Aside0.mk hS0
  have HS1 := Aside0.mk hS1
  have k0 := box_cell2 w _ rfl #[.slice A s.nodes.length c, .int .i64 s.root] 34 (.cells #[.slice none 0 0, .int .i64 0] 34) 0 (.slice A s.nodes.length c) rfl
  have k1 := box_cell2 w _ rfl #[.slice A s.nodes.length c, .int .i64 s.root] 34 (.cells #[.slice none 0 0, .int .i64 0] 34) 1 (.int .i64 s.root) rfl
  have HZ := Aside0.mk (show ((w.alloc (.cells #[.slice A s.nodes.length c, .int .i64 s.root] 34)).alloc (.cells #[.slice none 0 0, .int .i64 0] 34)).heap.size = w.heap.size + 2 from by simp)
  clear h hRt hF b1 b2 hS0 hS1
  go_enter Tryd.func30, Tryd.ntmps30
  go_wp2_with fail
  refine (scopyS_any A c s _ (Kd.C_below HR.out HB.out) hc (by omega) HF.out.small).mono ?_
  rintro e w3 ⟨A1, c1, rfl, hS3, hB3⟩
  have HAB := Aside0.mk (show AB w A c s w3.heap.size s.nodes (.slice A1 s.nodes.length c1) (fun _ => True) (w3.alloc (.cells #[.slice A1 s.nodes.length c1, .int .i64 s.root] 34)) from by
    have hA := below_alloc (Below.refl w3.heap.size w3) (.cells #[.slice A1 s.nodes.length c1, .int .i64 s.root] 34)
    have hB4 := below_step hB3 hA
    refine ⟨below_step HB.out hB4, (hB4.block _ (blk_lt HS0.out)).trans HS0.out, (hB4.block _ (blk_lt HS1.out)).trans HS1.out, by simpa using heap_alloc_new w3 (.cells #[.slice A1 s.nodes.length c1, .int .i64 s.root] 34), by have := hB3.size; have := HZ.out; omega, Kd.S_below (Kd.S_lower hS3 HB.out.size) hA⟩)
  clear hS3 hB3 k0 k1 HS0 HS1
  have k0 : (w3.alloc (.cells #[.slice A1 s.nodes.length c1, .int .i64 s.root] 34)).cell? ⟨w.heap.size, 0, none⟩ = some (.slice A s.nodes.length c) := (blk_cell HAB.out.sb 0).trans rfl
  have k1 : (w3.alloc (.cells #[.slice A1 s.nodes.length c1, .int .i64 s.root] 34)).cell? ⟨w.heap.size, 1, none⟩ = some (.int .i64 s.root) := (blk_cell HAB.out.sb 1).trans rfl
  go_wp2_with fail
  generalize w3.alloc (.cells #[.slice A1 s.nodes.length c1, .int .i64 s.root] 34) = w4 at HAB k0 k1 ⊢
  generalize w3.heap.size = g at HAB ⊢
  refine (place_any A c s.nodes.length s.root p w4).mono ?_
  rintro e w5 ⟨rfl, hB5⟩
  replace k0 := pw_cell_below hB5 k0
  replace k1 := pw_cell_below hB5 k1
  replace HAB := Aside0.mk (HAB.out.later hB5)
  clear hB5
  have o0 : w5.cell? ⟨g, 0, none⟩ = some (.slice A1 s.nodes.length c1) := (blk_cell HAB.out.out 0).trans rfl
  have o1 : w5.cell? ⟨g, 1, none⟩ = some (.int .i64 s.root) := (blk_cell HAB.out.out 1).trans rfl
  have HNo : Aside0 (AB w A c s g s.nodes (.slice A1 s.nodes.length c1) (fun _ => True) w5) := HAB
  by_cases hok : apOk s p q
  · have hX := HX.out.trans (apS_yes hok)
    clear HX
    obtain ⟨h1, h2, h3, h4⟩ := hok
    obtain ⟨i, rfl⟩ : ∃ i : Nat, p = (i : Int) := ⟨_, (Int.toNat_of_nonneg h1).symm⟩
    obtain ⟨j, rfl⟩ : ∃ j : Nat, q = (j : Int) := ⟨_, (Int.toNat_of_nonneg h3).symm⟩
    rw [Int.toNat_natCast] at h4 hX
    rw [Int.toNat_natCast] at hX
    have HX := Aside0.mk hX
    clear hX
    have hin : i < s.nodes.length := by omega
    obtain ⟨gr, cr, hv, -⟩ := Kd.S_form HAB.out.row (by omega)
    injection hv with hA hmm hcc
    clear hmm
    subst hA hcc
    have hjk : j < (nd s.nodes i).kids.length := by omega
    have hK := right_kid HRt.out hin hjk
    obtain ⟨k, hk⟩ : ∃ k : Nat, rd (nd s.nodes i).kids (j : Int) = (k : Int) := ⟨_, (Int.toNat_of_nonneg hK.1).symm⟩
    have hkn : k < s.nodes.length := by omega
    obtain ⟨adn, B1, d1, B2, d2, B3, d3, rfl, x0, x1, x2, x3, hN⟩ := at_node HR.out i hin
    obtain ⟨adk, rfl, xk⟩ := at_nat hN.k j hjk
    rw [hk] at xk
    obtain ⟨adn2, C1, e1, C2, e2, C3, e3, hA, y0, y1, y2, y3, hM⟩ := at_node HR.out k hkn
    injection hA with hA
    subst hA
    have HSm := Aside0.mk (HF.out.small k hkn)
    have HY := Aside0.mk (show apY s i j = ⟨s.nodes.set i (apN s i j) ++ [nd s.nodes k], s.root⟩ from by unfold apY; rw [hk, Int.toNat_natCast])
    have HM := Aside0.mk hM
    generalize hm : nd s.nodes k = m at y0 y1 y2 y3 HM HSm HY
    have HMe := Aside0.mk hm
    replace x3 := pw_cell_below HAB.out.below x3
    replace xk := pw_cell_below HAB.out.below xk
    replace y0 := pw_cell_below HAB.out.below y0
    replace y1 := pw_cell_below HAB.out.below y1
    replace y2 := pw_cell_below HAB.out.below y2
    replace y3 := pw_cell_below HAB.out.below y3
    rw [show isPl s.nodes.length (i : Int) = true from decide_eq_true ⟨h1, h2⟩]
    have dq : decide ((j : Int) < 0) = false := decide_eq_false (by omega)
    have dq2 : decide (((nd s.nodes i).kids.length : Int) ≤ (j : Int)) = false := decide_eq_false (by omega)
    have dq2n : decide ((nd s.nodes i).kids.length ≤ j) = false := decide_eq_false (by omega)
    have hii : (i : Int) < (s.nodes.length : Int) := by omega
    have hjj : (j : Int) < ((nd s.nodes i).kids.length : Int) := by omega
    have hkk : (k : Int) < (s.nodes.length : Int) := by omega
    have HCall := Aside0.mk (fun (W : World) (hb : Below w5.heap.size w5 W) => rcopy_any m C1 e1 C2 e2 C3 e3 W (HM.out.below (below_step HAB.out.below hb)) HSm.out)
    have K0 : ∀ W, Below w5.heap.size w5 W → W.cell? ⟨w.heap.size, 0, none⟩ = some (.slice (some adn) s.nodes.length c) := fun W h => pw_cell_below h k0
    have X3 : ∀ W, Below w5.heap.size w5 W → W.cell? _ = some _ := fun W h => pw_cell_below h x3
    have XK : ∀ W, Below w5.heap.size w5 W → W.cell? _ = some _ := fun W h => pw_cell_below h xk
    have Y0 : ∀ W, Below w5.heap.size w5 W → W.cell? _ = some _ := fun W h => pw_cell_below h y0
    have Y1 : ∀ W, Below w5.heap.size w5 W → W.cell? _ = some _ := fun W h => pw_cell_below h y1
    have Y2 : ∀ W, Below w5.heap.size w5 W → W.cell? _ = some _ := fun W h => pw_cell_below h y2
    have Y3 : ∀ W, Below w5.heap.size w5 W → W.cell? _ = some _ := fun W h => pw_cell_below h y3
    have L1 : ∀ (b : Nat) (W : World), Lives 4 b W → W.cell? ⟨b, 0, none⟩ = some (cellAt W b 0) := fun b W h => (h.at 0 (by omega)).1
    have L2 : ∀ (b : Nat) (W : World), Lives 4 b W → W.cell? ⟨b, 1, none⟩ = some (cellAt W b 1) := fun b W h => (h.at 1 (by omega)).1
    have L3 : ∀ (b : Nat) (W : World), Lives 4 b W → W.cell? ⟨b, 2, none⟩ = some (cellAt W b 2) := fun b W h => (h.at 2 (by omega)).1
    have L4 : ∀ (b : Nat) (W : World), Lives 4 b W → W.cell? ⟨b, 3, none⟩ = some (cellAt W b 3) := fun b W h => (h.at 3 (by omega)).1
    have M1 : ∀ (b : Nat) (W : World), Lives 4 b W → W.frozen? ⟨b, 0, none⟩ = false := fun b W h => (h.at 0 (by omega)).2
    have M2 : ∀ (b : Nat) (W : World), Lives 4 b W → W.frozen? ⟨b, 1, none⟩ = false := fun b W h => (h.at 1 (by omega)).2
    have M3 : ∀ (b : Nat) (W : World), Lives 4 b W → W.frozen? ⟨b, 2, none⟩ = false := fun b W h => (h.at 2 (by omega)).2
    have M4 : ∀ (b : Nat) (W : World), Lives 4 b W → W.frozen? ⟨b, 3, none⟩ = false := fun b W h => (h.at 3 (by omega)).2
    have N1 : ∀ (b : Nat) (W : World) (o : Obj), Lives 4 b W → Lives 4 b (W.alloc o) := fun b W o h => h.below (below_alloc (Below.refl _ _) o)
    have N2 : ∀ (b : Nat) (W : World) (g i : Nat) (u : Value), Lives 4 b W → Lives 4 b (W.setCell ⟨g, i, none⟩ u) := fun b W g i u h => lives_setN h g i u
    have N3 : ∀ W : World, Lives 4 W.heap.size (W.alloc (.cells #[.int .i64 0, .slice none 0 0, .slice none 0 0, .slice none 0 0] 52)) := fun W => Lives.new W #[_, _, _, _] _
    have N5 : ∀ (b : Nat) (W : World), Lives 4 b W → Lives 4 b W.drew := fun b W h => h.drew
    clear hK hk hN hM hm h1 h2 h3 h4 x0 x1 x2 HNo
    go_wp2_with fail
    clear k0 x3 xk y0 y1 y2 y3
    go_region_held3 (fun W => Below w5.heap.size w5 W)
      (repeat' (first
        | with_reducible assumption
        | with_reducible exact Below.refl _ _
        | with_reducible refine below_drew ?_
        | with_reducible apply below_alloc
        | (with_reducible refine below_set ?_ ?_)
        | omega
        | (simp; omega)))
      (first
        | (go_at_call 39; refine (HCall.out _ (by first | assumption | exact below_alloc (by assumption) _ | exact below_drew (below_alloc (by assumption) _) | exact below_drew (by assumption) | exact below_drew (Below.refl _ _))).mono ?_; rintro e w6 ⟨_, rfl, ⟨v1, v2, v3, rfl, hM⟩, hB⟩; obtain ⟨A5, c5, A6, c6, A7, c7, rfl, rfl, rfl⟩ := M_slicesW hM; have hB6 := hB; have hz6 := hB.size; have hs6 := below_step (by first | assumption | exact below_alloc (by assumption) _ | exact below_alloc (below_alloc (by assumption) _) _ | exact below_drew (below_alloc (by assumption) _) | exact below_drew (by assumption) | exact below_drew (Below.refl _ _)) hB; (try have la6 : Lives 4 w5.heap.size w6 := (by first | exact Lives.below (N5 _ _ (N3 w5)) hB | exact Lives.below (N3 w5) hB)); (try have hx6 : w5.heap.size < w6.heap.size := (by have hz := hz6; simp at hz; omega))))
    (refine tailA (fun W => ∃ N0, gr < N0 ∧ NA w (some adn) c s g s.nodes (.slice (some ⟨gr, 0, none⟩) s.nodes.length c1) N0 w6.heap.size m [.int .i64 m.kind, .slice A5 m.ints.length c5, .slice A6 m.texts.length c6, .slice A7 m.kids.length c7] W) ⟨w5.heap.size, Kd.S_lt HAB.out.row gr rfl, (show NA _ _ _ _ _ _ _ _ _ _ _ (w6.alloc (.cells #[.int .i64 m.kind, .slice A5 m.ints.length c5, .slice A6 m.texts.length c6, .slice A7 m.kids.length c7] 52)) from
             ⟨(HAB.out.elder.later hs6).later (below_alloc (Below.refl _ _) _), ⟨_, by simpa using heap_alloc_new w6 _⟩, hs6.size, M_newN (M_laterN hM (below_alloc (Below.refl _ _) _)) (by first | exact HAB.out.below.size | (have := HAB.out.below.size; simp; omega)) (by first | exact Nat.le_refl _ | (simp))⟩)⟩ ?_; intro w7 hN; generalize w6.heap.size = nb at hN ⊢; obtain ⟨N0, hgr, hN⟩ := hN; have HN := Aside0.mk hN)
    rotate_left
    (refine tailA (fun W => ∃ N0, gr < N0 ∧ NA w (some adn) c s g s.nodes (.slice (some ⟨gr, 0, none⟩) s.nodes.length c1) N0 w5.heap.size m [.int .i64 m.kind, .slice A5 m.ints.length c5, .slice A6 m.texts.length c6, .slice A7 m.kids.length c7] W)
             ⟨w5.heap.size, Kd.S_lt HAB.out.row gr rfl, HAB.out.elder.later (below_set4 hs6 (Nat.le_refl _)), la6.boxN _ _ _ _, Nat.le_refl _, M_newN (M_setN hM (by simp) _ _ _ _) (by first | exact HAB.out.below.size | (have := HAB.out.below.size; simp; omega)) (by first | exact Nat.le_refl _ | (simp))⟩ ?_; intro w7 hN; generalize w5.heap.size = nb at hN ⊢; obtain ⟨N0, hgr, hN⟩ := hN; have HN := Aside0.mk hN)
    all_goals
      clear K0 X3 XK Y0 Y1 Y2 Y3 L1 L2 L3 L4 M1 M2 M3 M4 N1 N2 N3 N5
      clear hN hM hB hB6 hz6 hs6
      obtain ⟨gk, ck, y, q1, q2, q3, hN8⟩ := HN.out.kid i hin j hjk (s.nodes.length : Int)
      have q1w : w7.drew.cell? ⟨gr, i * 4 + 3, none⟩ = some (.slice (some ⟨gk, 0, none⟩) (nd s.nodes i).kids.length ck) := q1
      have q2w : w7.drew.cell? ⟨gk, j, none⟩ = some y := q2
      have q3w : w7.drew.frozen? ⟨gk, j, none⟩ = false := q3
      have o0 : w7.cell? ⟨g, 0, none⟩ = some (.slice (some ⟨gr, 0, none⟩) s.nodes.length c1) := (blk_cell HN.out.ab.out 0).trans rfl
      have o0d : w7.drew.cell? ⟨g, 0, none⟩ = some (.slice (some ⟨gr, 0, none⟩) s.nodes.length c1) := o0
      have HN8 := Aside0.mk hN8.drew
      clear hN8
      go_wp2
      go_region
      clear q1 q2 q3 q1w q2w q3w o0 o0d
      generalize (w7.setCell ⟨gk, j, none⟩ (.int .i64 (s.nodes.length : Int))).drew = w8 at HN8 ⊢
      have HP := Aside0.mk (show (⟨s.nodes.set i ⟨(nd s.nodes i).kind, (nd s.nodes i).ints, (nd s.nodes i).texts, (nd s.nodes i).kids.set j (s.nodes.length : Int)⟩ ++ [m], s.root⟩ : Scene) = X from by rw [HX.out, HY.out]; rfl)
      have hxl : (s.nodes.set i ⟨(nd s.nodes i).kind, (nd s.nodes i).ints, (nd s.nodes i).texts, (nd s.nodes i).kids.set j (s.nodes.length : Int)⟩).length = s.nodes.length := List.length_set
      generalize s.nodes.set i ⟨(nd s.nodes i).kind, (nd s.nodes i).ints, (nd s.nodes i).texts, (nd s.nodes i).kids.set j (s.nodes.length : Int)⟩ = xs at HN8 HP hxl
      have HXl := Aside0.mk hxl
      clear hxl
      obtain ⟨T, hbox⟩ := HN8.out.box
      have y0 : w8.cell? ⟨nb, 0, none⟩ = some (.int .i64 m.kind) := (blk_cell hbox 0).trans rfl
      have y1 : w8.cell? ⟨nb, 1, none⟩ = some (.slice A5 m.ints.length c5) := (blk_cell hbox 1).trans rfl
      have y2 : w8.cell? ⟨nb, 2, none⟩ = some (.slice A6 m.texts.length c6) := (blk_cell hbox 2).trans rfl
      have y3 : w8.cell? ⟨nb, 3, none⟩ = some (.slice A7 m.kids.length c7) := (blk_cell hbox 3).trans rfl
      have o0 : w8.cell? ⟨g, 0, none⟩ = some (.slice (some ⟨gr, 0, none⟩) s.nodes.length c1) := (blk_cell HN8.out.ab.out 0).trans rfl
      have HOk := Aside0.mk (fun (k : Nat) (hk : N0 ≤ k) => (show True ∧ some k ≠ (Value.slice (some ⟨gr, 0, none⟩) s.nodes.length c1).ownBlock from ⟨trivial, fun e => by have e' : some k = some gr := e; injection e' with e'; omega⟩))
      have HSr := Aside0.mk (Kd.S_mono HN8.out.ab.row (fun k hk => (show True ∧ ¬ N0 ≤ k from ⟨trivial, by omega⟩)))
      clear hbox
      go_wp2_with (at_builtin; refine Kd.S_append kNode (w0 := w) w.heap.size rfl (.tmp 57) (.tmp 59) 32 52 (.agg #[.int .i64 0, .slice none 0 0, .slice none 0 0, .slice none 0 0]) 80 rfl Tryd.underlying32 info_nodez rfl (by decide) (by omega) (.slice (some ⟨gr, 0, none⟩) s.nodes.length c1) xs m [.int .i64 m.kind, .slice A5 m.ints.length c5, .slice A6 m.texts.length c6, .slice A7 m.kids.length c7] (fun _ => True) (fun k => N0 ≤ k) rfl (by go_simp) HN8.out.new HOk.out (fun _ _ => trivial) HSr.out HN8.out.ab.below HN8.out.ab.below.size (by have := HXl.out; omega) ?_; intro v5 w9 hS9 hB9 hg9 hat9; obtain ⟨A9, c9, rfl⟩ := Kd.S_slice hS9; generalize hL : (xs ++ [m]).length = L at hS9 ⊢; have HL := Aside0.mk hL; clear hL; obtain ⟨hb9, hA9⟩ := HN8.out.ab.push hS9 hB9 hg9; have HA9 := Aside0.mk hA9; have f0 := (blk_cell hb9 0).trans rfl; have f0f := blk_frozen hb9 0; have hre := (Below.heap_setCell w9 ⟨g, 0, none⟩ (.slice A9 L c9) (w.heap.size + 1) (by have := HA9.out.ge; show w.heap.size + 1 ≠ g; omega)).symm.trans HA9.out.res; have o2 : (w9.setCell ⟨g, 0, none⟩ (.slice A9 L c9)).cell? ⟨g, 0, none⟩ = some (.slice A9 L c9) := (blk_cell HA9.out.out 0).trans rfl; have o3 : (w9.setCell ⟨g, 0, none⟩ (.slice A9 L c9)).cell? ⟨g, 1, none⟩ = some (.int .i64 s.root) := (blk_cell HA9.out.out 1).trans rfl; have e0 : (w9.setCell ⟨g, 0, none⟩ (.slice A9 L c9)).cell? ⟨w.heap.size + 1, 0, none⟩ = some (.slice none 0 0) := (blk_cell HA9.out.res 0).trans rfl; have e0f := blk_frozen HA9.out.res 0; have e0w : w9.cell? ⟨w.heap.size + 1, 0, none⟩ = some (.slice none 0 0) := (blk_cell hre 0).trans rfl; have e0wf := blk_frozen hre 0; have hz1 := blk_set HA9.out.res 0 (.slice A9 L c9); have e1 : ((w9.setCell ⟨g, 0, none⟩ (.slice A9 L c9)).setCell ⟨w.heap.size + 1, 0, none⟩ (.slice A9 L c9)).cell? ⟨w.heap.size + 1, 1, none⟩ = some (.int .i64 0) := (blk_cell hz1 1).trans rfl; have e1f := blk_frozen hz1 1; have hz2 := blk_set hz1 1 (.int .i64 s.root); have r0 : (((w9.setCell ⟨g, 0, none⟩ (.slice A9 L c9)).setCell ⟨w.heap.size + 1, 0, none⟩ (.slice A9 L c9)).setCell ⟨w.heap.size + 1, 1, none⟩ (.int .i64 s.root)).cell? ⟨w.heap.size + 1, 0, none⟩ = some (.slice A9 L c9) := (blk_cell hz2 0).trans rfl; have r1 : (((w9.setCell ⟨g, 0, none⟩ (.slice A9 L c9)).setCell ⟨w.heap.size + 1, 0, none⟩ (.slice A9 L c9)).setCell ⟨w.heap.size + 1, 1, none⟩ (.int .i64 s.root)).cell? ⟨w.heap.size + 1, 1, none⟩ = some (.int .i64 s.root) := (blk_cell hz2 1).trans rfl; have HRow := Aside0.mk (S_typeS (S_typeS HA9.out.row HA9.out.res 0 (.slice A9 L c9)) hz1 1 (.int .i64 s.root)); have HBw := Aside0.mk (below_set2 (u0 := .slice A9 L c9) (u1 := .int .i64 s.root) HA9.out.below (Nat.le_succ _)); have hne : w.heap.size + 1 ≠ g := (by have := HA9.out.ge; omega); have hne2 : g ≠ w.heap.size + 1 := (by have := HA9.out.ge; omega); clear hS9 hB9 hg9 hat9 hA9 hb9 hz1 hz2 hre)
      have hXP := HP.out
      subst X
      refine bodyPost_ret (v := .agg #[.slice A9 L c9, .int .i64 s.root]) (by simp [results, Tryd.results30, go_sem, r0, r1]) rfl ⟨A9, c9, by show _ = Ending.returned (.agg #[.slice A9 (xs ++ [m]).length c9, _]); rw [HL.out], ?_, ?_, HBw.out⟩
      · show (xs ++ [m]).length ≤ c9
        rw [HL.out]; exact (Kd.S_reads' HRow.out).2.1
      · exact (Kd.S_reads' HRow.out).2.2
  · have hX := HX.out.trans (apS_no hok)
    clear HX
    subst X
    have e0 : w5.cell? ⟨w.heap.size + 1, 0, none⟩ = some (.slice none 0 0) := (blk_cell HAB.out.res 0).trans rfl
    have e0f := blk_frozen HAB.out.res 0
    have hz1 := blk_set HAB.out.res 0 (.slice A1 s.nodes.length c1)
    have e1 : (w5.setCell ⟨w.heap.size + 1, 0, none⟩ (.slice A1 s.nodes.length c1)).cell? ⟨w.heap.size + 1, 1, none⟩ = some (.int .i64 0) := (blk_cell hz1 1).trans rfl
    have e1f := blk_frozen hz1 1
    have hz2 := blk_set hz1 1 (.int .i64 s.root)
    have r0 : ((w5.setCell ⟨w.heap.size + 1, 0, none⟩ (.slice A1 s.nodes.length c1)).setCell ⟨w.heap.size + 1, 1, none⟩ (.int .i64 s.root)).cell? ⟨w.heap.size + 1, 0, none⟩ = some (.slice A1 s.nodes.length c1) := (blk_cell hz2 0).trans rfl
    have r1 : ((w5.setCell ⟨w.heap.size + 1, 0, none⟩ (.slice A1 s.nodes.length c1)).setCell ⟨w.heap.size + 1, 1, none⟩ (.int .i64 s.root)).cell? ⟨w.heap.size + 1, 1, none⟩ = some (.int .i64 s.root) := (blk_cell hz2 1).trans rfl
    have HRow := Aside0.mk (S_typeS (S_typeS HAB.out.row HAB.out.res 0 (.slice A1 s.nodes.length c1)) hz1 1 (.int .i64 s.root))
    have HBw := Aside0.mk (below_set2 (u0 := .slice A1 s.nodes.length c1) (u1 := .int .i64 s.root) HAB.out.below (Nat.le_succ _))
    have hne : w.heap.size + 1 ≠ g := by have := HAB.out.ge; omega
    have hne2 : g ≠ w.heap.size + 1 := by have := HAB.out.ge; omega
    clear hz1 hz2
    by_cases hp : isPl s.nodes.length p = true
    · obtain ⟨h1, h2⟩ := of_decide_eq_true hp
      obtain ⟨i, rfl⟩ : ∃ i : Nat, p = (i : Int) := ⟨_, (Int.toNat_of_nonneg h1).symm⟩
      have hin : i < s.nodes.length := by omega
      obtain ⟨adn, B1, d1, B2, d2, B3, d3, rfl, x0, x1, x2, x3, hN⟩ := at_node HR.out i hin
      replace x3 := pw_cell_below HAB.out.below x3
      rw [hp]
      have hq : q < 0 ∨ (0 ≤ q ∧ ((nd s.nodes i).kids.length : Int) ≤ q) := by
        by_cases h0 : q < 0
        · exact .inl h0
        · refine .inr ⟨by omega, Int.not_lt.1 fun h4 => hok ⟨h1, h2, by omega, by simpa using h4⟩⟩
      clear hp hok hN x0 x1 x2
      rcases hq with hq | ⟨hq0, hq⟩
      · have dq : decide (q < 0) = true := decide_eq_true hq
        clear hq
        go_wp2
        exact bodyPost_ret (v := .agg #[.slice A1 s.nodes.length c1, .int .i64 s.root]) (by simp [results, Tryd.results30, go_sem, r0, r1]) rfl ⟨A1, c1, rfl, (Kd.S_reads' HRow.out).2.1, (Kd.S_reads' HRow.out).2.2, HBw.out⟩
      · have dq : decide (q < 0) = false := decide_eq_false (by omega)
        have dq2 : decide (((nd s.nodes i).kids.length : Int) ≤ q) = true := decide_eq_true hq
        have hii : (i : Int) < (s.nodes.length : Int) := by omega
        clear hq hq0
        go_wp2
        exact bodyPost_ret (v := .agg #[.slice A1 s.nodes.length c1, .int .i64 s.root]) (by simp [results, Tryd.results30, go_sem, r0, r1]) rfl ⟨A1, c1, rfl, (Kd.S_reads' HRow.out).2.1, (Kd.S_reads' HRow.out).2.2, HBw.out⟩
    · have hpf : isPl s.nodes.length p = false := by simpa using hp
      rw [hpf]
      clear hp hpf hok
      go_wp2
      exact bodyPost_ret (v := .agg #[.slice A1 s.nodes.length c1, .int .i64 s.root]) (by simp [results, Tryd.results30, go_sem, r0, r1]) rfl ⟨A1, c1, rfl, (Kd.S_reads' HRow.out).2.1, (Kd.S_reads' HRow.out).2.2, HBw.out⟩
end Go.Proofs.YtdfneldenipljaaDoor.L
end
section
namespace Go.Proofs.YtdfneldenipljaaDoor.L
open Go.RowKit Go.ChangeShapes Go.WideShapes Go.Proofs.YtdfneldenipljaaDoorW.PrintWords Go.Proofs.YtdfneldenipljaaDoorW.PrintLast Go.Proofs.YtdfneldenipljaaDoorW.PrintMore
attribute [local go_sem] max2_int min2_int max_two min_two max_three min_three max_four min_four
theorem chk_of {s : Scene} (h : (gcheck s).1 = 0) : Right s := gcheck_right.1 h
set_option maxRecDepth 100000 in
set_option maxHeartbeats 8000000 in
theorem unfoldDiffers_any (T : Lib.PrintTabs) (A : Option Addr) (c : Nat) (s : Scene) (p q : Int) (w : World) (h : kNode.C w A s.nodes.length s.nodes) (hc : s.nodes.length ≤ c)
    (hN : ∀ i : Nat, i < s.nodes.length → NBd (nd s.nodes i)) (hT : QTabs T w) :
    Calls Tryd.prog 10 #[.agg #[.slice A s.nodes.length c, .int .i64 s.root], .int .i64 p, .int .i64 q] w fun e w' => e = .returned (.bool true) ∧ Below w.heap.size w w' := by
  have HR := Aside0.mk h
  have HN := Aside0.mk hN
  have HT := Aside0.mk hT
  have hu := Tryd.underlying34
  have HB := Aside0.mk (below_alloc (Below.refl w.heap.size w) (.cells #[.slice A s.nodes.length c, .int .i64 s.root] 34))
  have k0 := box_cell w _ rfl #[.slice A s.nodes.length c, .int .i64 s.root] 34 0 (.slice A s.nodes.length c) rfl
  have k1 := box_cell w _ rfl #[.slice A s.nodes.length c, .int .i64 s.root] 34 1 (.int .i64 s.root) rfl
  clear h hN hT
  go_enter Tryd.func10, Tryd.ntmps10
  go_wp2_with fail
  refine (uawake_any T _ (HT.out.below HB.out)).mono ?_
  rintro e w1 ⟨rfl, hB1⟩
  replace k0 := pw_cell_below hB1 k0
  replace k1 := pw_cell_below hB1 k1
  have HB1 := Aside0.mk (below_step HB.out hB1)
  clear hB1
  go_wp2_with fail
  refine (greatS_any A c s _ (Kd.C_below HR.out HB1.out)).mono ?_
  rintro e w2 ⟨rfl, hB2⟩
  replace k0 := pw_cell_below hB2 k0
  replace k1 := pw_cell_below hB2 k1
  have HB2 := Aside0.mk (below_step HB1.out hB2)
  clear hB2
  cases hg : greatS s with
  | true =>
    clear hg
    go_wp2_with fail
    refine (uawake_any T _ (HT.out.below HB2.out)).mono ?_
    rintro e w3 ⟨rfl, hB3⟩
    have HB3 := Aside0.mk (below_step HB2.out hB3)
    clear hB3 k0 k1
    go_wp2
    go_ret
    exact ⟨rfl, HB3.out⟩
  | false =>
    have HF := Aside0.mk (fit_of_great hg HN.out)
    have HLen := Aside0.mk (great_len hg)
    clear hg
    go_wp2_with fail
    refine (rright_any A c s _ (Kd.C_below HR.out HB2.out) hc (by have := HF.out.rows; omega)).mono ?_
    rintro e w3 ⟨rfl, hB3⟩
    replace k0 := pw_cell_below hB3 k0
    replace k1 := pw_cell_below hB3 k1
    have HB3 := Aside0.mk (below_step HB2.out hB3)
    clear hB3
    cases hra : rightB s with
    | false =>
      clear hra
      go_wp2_with fail
      refine (uawake_any T _ (HT.out.below HB3.out)).mono ?_
      rintro e w4 ⟨rfl, hB4⟩
      have HB4 := Aside0.mk (below_step HB3.out hB4)
      clear hB4 k0 k1
      go_wp2
      go_ret
      exact ⟨rfl, HB4.out⟩
    | true =>
      have HRt := Aside0.mk (rightB_yes hra)
      clear hra
      have HFt := Aside0.mk (apS_fit (p := p) (q := q) HRt.out HLen.out HF.out)
      have HEq := Aside0.mk (fun ht => apS_eqT (p := p) (q := q) HRt.out ht)
      have HSh := Aside0.mk (fun ht => apS_share T (p := p) (q := q) HRt.out ht)
      have HCa := Aside0.mk (fun ht => apS_canon (p := p) (q := q) HRt.out ht)
      go_wp2_with fail
      refine (apart_any A c s p q _ (Kd.C_below HR.out HB3.out) hc HRt.out HF.out).mono ?_
      rintro e w4 ⟨A4, c4, rfl, hc4, hC4, hB4⟩
      replace k0 := pw_cell_below hB4 k0
      replace k1 := pw_cell_below hB4 k1
      have HB4 := Aside0.mk (below_step HB3.out hB4)
      clear hB4
      generalize apS s p q = t at HFt HEq HSh HCa hc4 hC4 ⊢
      have x0 := box_cell w4 _ rfl #[.slice A4 t.nodes.length c4, .int .i64 t.root] 34 0 (.slice A4 t.nodes.length c4) rfl
      have x1 := box_cell w4 _ rfl #[.slice A4 t.nodes.length c4, .int .i64 t.root] 34 1 (.int .i64 t.root) rfl
      have hB5 := below_alloc (Below.refl w4.heap.size w4) (.cells #[.slice A4 t.nodes.length c4, .int .i64 t.root] 34)
      have HT5 := Aside0.mk (Kd.C_below hC4 hB5)
      replace k0 := pw_cell_below hB5 k0
      replace k1 := pw_cell_below hB5 k1
      have HB5 := Aside0.mk (below_step HB4.out hB5)
      clear hB5 hC4
      go_wp2_with fail
      generalize w4.alloc (.cells #[.slice A4 t.nodes.length c4, .int .i64 t.root] 34) = w5 at k0 k1 x0 x1 HB5 HT5 ⊢
      generalize w4.heap.size = gt at x0 x1 ⊢
      refine (rchk_any A4 c4 t w5 HT5.out hc4 (by have := HFt.out.rows; omega)).mono ?_
      rintro e w6 ⟨rfl, hB6⟩
      replace x0 := pw_cell_below hB6 x0
      replace x1 := pw_cell_below hB6 x1
      have HT6 := Aside0.mk (Kd.C_below HT5.out hB6)
      replace k0 := pw_cell_below hB6 k0
      replace k1 := pw_cell_below hB6 k1
      have HB6 := Aside0.mk (below_step HB5.out hB6)
      clear hB6 HT5
      by_cases hz : (gcheck t).1 = 0
      · have HRu := Aside0.mk (chk_of hz)
        have HZs := Aside0.mk (gcheck_right.2 HRt.out)
        have HZt := Aside0.mk hz
        have HEt := Aside0.mk (HEq.out HRu.out)
        have HX := Aside0.mk (show shR T s = shareS T s from shR_yes HRt.out)
        have HY := Aside0.mk (show shR T t = shareS T s from (shR_yes HRu.out).trans (HSh.out HRu.out).symm)
        have HCt := Aside0.mk (HCa.out HRu.out)
        have HFX := Aside0.mk (HF.out.share T HRt.out)
        have HFC := Aside0.mk (show Fit (canS s).nodes from HF.out.canon HRt.out)
        have HKs := Aside0.mk (canR_eq HRt.out)
        have HKt := Aside0.mk (canR_eq HRu.out)
        rw [hz]
        clear hz
        go_wp2_with fail
        refine (ushare_any T A c s _ (Kd.C_below HR.out HB6.out) hc HF.out (HT.out.below HB6.out)).mono ?_
        rw [HX.out, HZs.out]
        rintro e w7 ⟨A7, c7, rfl, hR7, hB7⟩
        replace x0 := pw_cell_below hB7 x0
        replace x1 := pw_cell_below hB7 x1
        have HT7 := Aside0.mk (Kd.C_below HT6.out hB7)
        replace k0 := pw_cell_below hB7 k0
        replace k1 := pw_cell_below hB7 k1
        have HB7 := Aside0.mk (below_step HB6.out hB7)
        have hX7 := (Kd.R_reads' hR7).2.2
        clear hB7 hR7 HT6
        generalize hXe : shareS T s = X at HX HY HFX hX7 ⊢
        clear hXe
        have y0 := box_cell w7 _ rfl #[.slice A7 X.nodes.length c7, .int .i64 X.root] 34 0 (.slice A7 X.nodes.length c7) rfl
        have y1 := box_cell w7 _ rfl #[.slice A7 X.nodes.length c7, .int .i64 X.root] 34 1 (.int .i64 X.root) rfl
        have hBa := below_alloc (Below.refl w7.heap.size w7) (.cells #[.slice A7 X.nodes.length c7, .int .i64 X.root] 34)
        have HT8 := Aside0.mk (Kd.C_below HT7.out hBa)
        have Hy8 := Aside0.mk (Kd.C_below hX7 hBa)
        replace k0 := pw_cell_below hBa k0
        replace k1 := pw_cell_below hBa k1
        replace x0 := pw_cell_below hBa x0
        replace x1 := pw_cell_below hBa x1
        have HB8 := Aside0.mk (below_step HB7.out hBa)
        clear hBa HT7 hX7
        go_wp2_with fail
        generalize w7.alloc (.cells #[.slice A7 X.nodes.length c7, .int .i64 X.root] 34) = w8 at k0 k1 x0 x1 y0 y1 HB8 HT8 Hy8 ⊢
        generalize w7.heap.size = gx at y0 y1 ⊢
        refine (ushare_any T A4 c4 t w8 HT8.out hc4 HFt.out (HT.out.below HB8.out)).mono ?_
        rw [HY.out, HZt.out]
        rintro e w9 ⟨A9, c9, rfl, hRn, hBa⟩
        replace k0 := pw_cell_below hBa k0
        replace k1 := pw_cell_below hBa k1
        replace x0 := pw_cell_below hBa x0
        replace x1 := pw_cell_below hBa x1
        replace y0 := pw_cell_below hBa y0
        replace y1 := pw_cell_below hBa y1
        have HT9 := Aside0.mk (Kd.C_below HT8.out hBa)
        have Hy9 := Aside0.mk (Kd.C_below Hy8.out hBa)
        have HB9 := Aside0.mk (below_step HB8.out hBa)
        have hX9 := (Kd.R_reads' hRn).2.2
        clear hBa hRn HT8 Hy8
        have z0 := box_cell w9 _ rfl #[.slice A9 X.nodes.length c9, .int .i64 X.root] 34 0 (.slice A9 X.nodes.length c9) rfl
        have z1 := box_cell w9 _ rfl #[.slice A9 X.nodes.length c9, .int .i64 X.root] 34 1 (.int .i64 X.root) rfl
        have hBa := below_alloc (Below.refl w9.heap.size w9) (.cells #[.slice A9 X.nodes.length c9, .int .i64 X.root] 34)
        have HT10 := Aside0.mk (Kd.C_below HT9.out hBa)
        have Hy10 := Aside0.mk (Kd.C_below Hy9.out hBa)
        have Hz10 := Aside0.mk (Kd.C_below hX9 hBa)
        replace k0 := pw_cell_below hBa k0
        replace k1 := pw_cell_below hBa k1
        replace x0 := pw_cell_below hBa x0
        replace x1 := pw_cell_below hBa x1
        replace y0 := pw_cell_below hBa y0
        replace y1 := pw_cell_below hBa y1
        have HB10 := Aside0.mk (below_step HB9.out hBa)
        clear hBa HT9 hX9 Hy9
        go_wp2_with fail
        generalize w9.alloc (.cells #[.slice A9 X.nodes.length c9, .int .i64 X.root] 34) = w10 at k0 k1 x0 x1 y0 y1 z0 z1 HB10 HT10 Hy10 Hz10 ⊢
        generalize w9.heap.size = gy at z0 z1 ⊢
        refine (canon_any A c s w10 (Kd.C_below HR.out HB10.out) (by have := HF.out.rows; omega) HF.out.small).mono ?_
        rw [HKs.out, HZs.out]
        rintro e w11 ⟨B11, d11, rfl, hRn, hBa⟩
        replace k0 := pw_cell_below hBa k0
        replace k1 := pw_cell_below hBa k1
        replace x0 := pw_cell_below hBa x0
        replace x1 := pw_cell_below hBa x1
        replace y0 := pw_cell_below hBa y0
        replace y1 := pw_cell_below hBa y1
        replace z0 := pw_cell_below hBa z0
        replace z1 := pw_cell_below hBa z1
        have HT11 := Aside0.mk (Kd.C_below HT10.out hBa)
        have Hy11 := Aside0.mk (Kd.C_below Hy10.out hBa)
        have Hz11 := Aside0.mk (Kd.C_below Hz10.out hBa)
        have HB11 := Aside0.mk (below_step HB10.out hBa)
        have hX11 := (Kd.R_reads' hRn).2.2
        clear hBa hRn HT10 Hy10 Hz10
        generalize canS s = C at HKs HCt HFC hX11 ⊢
        have u0 := box_cell w11 _ rfl #[.slice B11 C.nodes.length d11, .int .i64 C.root] 34 0 (.slice B11 C.nodes.length d11) rfl
        have u1 := box_cell w11 _ rfl #[.slice B11 C.nodes.length d11, .int .i64 C.root] 34 1 (.int .i64 C.root) rfl
        have hBa := below_alloc (Below.refl w11.heap.size w11) (.cells #[.slice B11 C.nodes.length d11, .int .i64 C.root] 34)
        have HT12 := Aside0.mk (Kd.C_below HT11.out hBa)
        have Hy12 := Aside0.mk (Kd.C_below Hy11.out hBa)
        have Hz12 := Aside0.mk (Kd.C_below Hz11.out hBa)
        have Hu12 := Aside0.mk (Kd.C_below hX11 hBa)
        replace k0 := pw_cell_below hBa k0
        replace k1 := pw_cell_below hBa k1
        replace x0 := pw_cell_below hBa x0
        replace x1 := pw_cell_below hBa x1
        replace y0 := pw_cell_below hBa y0
        replace y1 := pw_cell_below hBa y1
        replace z0 := pw_cell_below hBa z0
        replace z1 := pw_cell_below hBa z1
        have HB12 := Aside0.mk (below_step HB11.out hBa)
        clear hBa HT11 hX11 Hy11 Hz11
        go_wp2_with fail
        generalize w11.alloc (.cells #[.slice B11 C.nodes.length d11, .int .i64 C.root] 34) = w12 at k0 k1 x0 x1 y0 y1 z0 z1 u0 u1 HB12 HT12 Hy12 Hz12 Hu12 ⊢
        generalize w11.heap.size = gc at u0 u1 ⊢
        refine (canon_any A4 c4 t w12 HT12.out (by have := HFt.out.rows; omega) HFt.out.small).mono ?_
        rw [HKt.out, HZt.out]
        rintro e w13 ⟨B13, d13, rfl, hRn, hBa⟩
        replace k0 := pw_cell_below hBa k0
        replace k1 := pw_cell_below hBa k1
        replace x0 := pw_cell_below hBa x0
        replace x1 := pw_cell_below hBa x1
        replace y0 := pw_cell_below hBa y0
        replace y1 := pw_cell_below hBa y1
        replace z0 := pw_cell_below hBa z0
        replace z1 := pw_cell_below hBa z1
        replace u0 := pw_cell_below hBa u0
        replace u1 := pw_cell_below hBa u1
        have HT13 := Aside0.mk (Kd.C_below HT12.out hBa)
        have Hy13 := Aside0.mk (Kd.C_below Hy12.out hBa)
        have Hz13 := Aside0.mk (Kd.C_below Hz12.out hBa)
        have Hu13 := Aside0.mk (Kd.C_below Hu12.out hBa)
        have HB13 := Aside0.mk (below_step HB12.out hBa)
        have hX13 := (Kd.R_reads' hRn).2.2
        clear hBa hRn HT12 Hy12 Hz12 Hu12
        generalize canS t = D at HKt HCt hX13 ⊢
        have v0 := box_cell w13 _ rfl #[.slice B13 D.nodes.length d13, .int .i64 D.root] 34 0 (.slice B13 D.nodes.length d13) rfl
        have v1 := box_cell w13 _ rfl #[.slice B13 D.nodes.length d13, .int .i64 D.root] 34 1 (.int .i64 D.root) rfl
        have hBa := below_alloc (Below.refl w13.heap.size w13) (.cells #[.slice B13 D.nodes.length d13, .int .i64 D.root] 34)
        have HT14 := Aside0.mk (Kd.C_below HT13.out hBa)
        have Hy14 := Aside0.mk (Kd.C_below Hy13.out hBa)
        have Hz14 := Aside0.mk (Kd.C_below Hz13.out hBa)
        have Hu14 := Aside0.mk (Kd.C_below Hu13.out hBa)
        have Hv14 := Aside0.mk (Kd.C_below hX13 hBa)
        replace k0 := pw_cell_below hBa k0
        replace k1 := pw_cell_below hBa k1
        replace x0 := pw_cell_below hBa x0
        replace x1 := pw_cell_below hBa x1
        replace y0 := pw_cell_below hBa y0
        replace y1 := pw_cell_below hBa y1
        replace z0 := pw_cell_below hBa z0
        replace z1 := pw_cell_below hBa z1
        replace u0 := pw_cell_below hBa u0
        replace u1 := pw_cell_below hBa u1
        have HB14 := Aside0.mk (below_step HB13.out hBa)
        clear hBa HT13 hX13 Hy13 Hz13 Hu13
        go_wp2
        generalize w13.alloc (.cells #[.slice B13 D.nodes.length d13, .int .i64 D.root] 34) = w14 at k0 k1 x0 x1 y0 y1 z0 z1 u0 u1 v0 v1 HB14 HT14 Hy14 Hz14 Hu14 Hv14 ⊢
        generalize w13.heap.size = gd at v0 v1 ⊢
        have k0d : w14.drew.cell? ⟨w.heap.size, 0, none⟩ = some (.slice A s.nodes.length c) := k0
        have k1d : w14.drew.cell? ⟨w.heap.size, 1, none⟩ = some (.int .i64 s.root) := k1
        have x0d : w14.drew.cell? ⟨gt, 0, none⟩ = some (.slice A4 t.nodes.length c4) := x0
        have x1d : w14.drew.cell? ⟨gt, 1, none⟩ = some (.int .i64 t.root) := x1
        have y0d : w14.drew.cell? ⟨gx, 0, none⟩ = some (.slice A7 X.nodes.length c7) := y0
        have y1d : w14.drew.cell? ⟨gx, 1, none⟩ = some (.int .i64 X.root) := y1
        have z0d : w14.drew.cell? ⟨gy, 0, none⟩ = some (.slice A9 X.nodes.length c9) := z0
        have z1d : w14.drew.cell? ⟨gy, 1, none⟩ = some (.int .i64 X.root) := z1
        have u0d : w14.drew.cell? ⟨gc, 0, none⟩ = some (.slice B11 C.nodes.length d11) := u0
        have u1d : w14.drew.cell? ⟨gc, 1, none⟩ = some (.int .i64 C.root) := u1
        have v0d : w14.drew.cell? ⟨gd, 0, none⟩ = some (.slice B13 D.nodes.length d13) := v0
        have v1d : w14.drew.cell? ⟨gd, 1, none⟩ = some (.int .i64 D.root) := v1
        have HBd := Aside0.mk (below_drew HB14.out)
        have HC1 := Aside0.mk (fun (W : World) (hW : Below w14.drew.heap.size w14.drew W) => (show Calls Tryd.prog 24 #[.agg #[.slice A s.nodes.length c, .int .i64 s.root], .agg #[.slice A4 t.nodes.length c4, .int .i64 t.root]] W fun e w' => e = .returned (.bool true) ∧ Below W.heap.size W w' from by
          have h1 := uequal_any T A c s A4 c4 t W (Kd.C_below HR.out (below_step HBd.out hW)) hc (Kd.C_below (Kd.C_drew HT14.out) hW) hc4 HF.out HFt.out (HT.out.below (below_step HBd.out hW))
          rw [HEt.out] at h1
          exact h1))
        have HC2 := Aside0.mk (fun (W : World) (hW : Below w14.drew.heap.size w14.drew W) => (show Calls Tryd.prog 34 #[.agg #[.slice A7 X.nodes.length c7, .int .i64 X.root], .agg #[.slice A9 X.nodes.length c9, .int .i64 X.root]] W fun e w' => e = .returned (.bool true) ∧ Below W.heap.size W w' from by
          have h1 := sameS_any A7 c7 X A9 c9 X W (Kd.C_below (Kd.C_drew Hy14.out) hW) (Kd.C_below (Kd.C_drew Hz14.out) hW) HFX.out.small
          rw [sameS_yes rfl] at h1
          exact h1))
        have HC3 := Aside0.mk (fun (W : World) (hW : Below w14.drew.heap.size w14.drew W) => (show Calls Tryd.prog 34 #[.agg #[.slice B11 C.nodes.length d11, .int .i64 C.root], .agg #[.slice B13 D.nodes.length d13, .int .i64 D.root]] W fun e w' => e = .returned (.bool (decide ((s.nodes.length : Int) = (t.nodes.length : Int)))) ∧ Below W.heap.size W w' from by
          have h1 := sameS_any B11 d11 C B13 d13 D W (Kd.C_below (Kd.C_drew Hu14.out) hW) (Kd.C_below (Kd.C_drew Hv14.out) hW) HFC.out.small
          rw [HCt.out] at h1
          exact h1))
        obtain ⟨E, hE⟩ : ∃ E, decide ((s.nodes.length : Int) = (t.nodes.length : Int)) = E := ⟨_, rfl⟩
        have hEn : decide (s.nodes.length = t.nodes.length) = E := by rw [← hE]; exact decide_eq_decide.2 (by omega)
        have hEb : ((s.nodes.length : Int) == (t.nodes.length : Int)) = E := hE
        have hEnb : (s.nodes.length == t.nodes.length) = E := by rw [← hEn]; rfl
        rw [hE] at HC3
        have hEE : (E == E) = true := by simp
        clear k0 k1 x0 x1 y0 y1 z0 z1 u0 u1 v0 v1
        go_region_held3 (fun W => W.cell? ⟨w.heap.size, 0, none⟩ = some (.slice A s.nodes.length c) ∧ W.cell? ⟨w.heap.size, 1, none⟩ = some (.int .i64 s.root) ∧ W.cell? ⟨gt, 0, none⟩ = some (.slice A4 t.nodes.length c4) ∧ W.cell? ⟨gt, 1, none⟩ = some (.int .i64 t.root) ∧ W.cell? ⟨gx, 0, none⟩ = some (.slice A7 X.nodes.length c7) ∧ W.cell? ⟨gx, 1, none⟩ = some (.int .i64 X.root) ∧ W.cell? ⟨gy, 0, none⟩ = some (.slice A9 X.nodes.length c9) ∧ W.cell? ⟨gy, 1, none⟩ = some (.int .i64 X.root) ∧ W.cell? ⟨gc, 0, none⟩ = some (.slice B11 C.nodes.length d11) ∧ W.cell? ⟨gc, 1, none⟩ = some (.int .i64 C.root) ∧ W.cell? ⟨gd, 0, none⟩ = some (.slice B13 D.nodes.length d13) ∧ W.cell? ⟨gd, 1, none⟩ = some (.int .i64 D.root))
          (first
            | (go_split_ands
               (repeat' apply And.intro)
               all_goals first
                 | with_reducible assumption
                 | with_reducible exact pw_cell_below hBe (by assumption)
                 | with_reducible exact pw_cell_below hBs (by assumption)
                 | with_reducible exact pw_cell_below hBf (by assumption)
                 | (simp [*]; done)))
          (first
            | (go_at_call 24; (with_reducible refine (HC1.out w14.drew (Below.refl _ _)).mono ?_); rintro e we ⟨rfl, hBe⟩)
            | (go_at_call 34; (with_reducible refine (HC2.out we hBe).mono ?_); rintro e ws ⟨rfl, hBs⟩; have HWs := Aside0.mk (below_step hBe hBs))
            | (go_at_call 34; (with_reducible refine (HC3.out ws HWs.out).mono ?_); rintro e wf ⟨rfl, hBf⟩; have HBf := Aside0.mk (below_step HBd.out (below_step HWs.out hBf))))
        all_goals
          go_wp2
          go_ret
          exact ⟨rfl, HBf.out⟩
      · have d1 : ((gcheck t).1 != 0) = true := by simpa using hz
        clear hz k0 k1 x0 x1
        go_wp2
        go_ret
        exact ⟨rfl, HB6.out⟩
end Go.Proofs.YtdfneldenipljaaDoor.L
end
section
namespace Go.Proofs.YtdfneldenipljaaDoor.L
open Go.RowKit Go.ChangeShapes Go.WideShapes Go.Proofs.YtdfneldenipljaaDoorW.PrintWords Go.Proofs.YtdfneldenipljaaDoorW.PrintLast Go.Proofs.YtdfneldenipljaaDoorW.PrintMore
attribute [local go_sem] max2_int min2_int max_two min_two max_three min_three max_four min_four
section
variable {P : Program} {α β : Type}
def Opens (P : Program) (k : Kd α) (t : TypeId) (good : α → Prop) : Prop :=
  ∀ (H : Type) (enc : TypeId × Value → H) (w : World) (base : Nat) (spare : Nat → Bool) (held : Bool) (fuel : Nat) (cs : List Value) (x : DataW H × List MemPlace), DataW.trod enc P w base spare held fuel t cs = some x → ∃ v, k.K w v cs ∧ good v
theorem opens_int {t : TypeId} {k : IntKind} (ht : P.underlying t = some (.int k)) : Opens P (Kd.int k) t (fun n => (Lit.int k n).wf = true) := by
  intro H enc w base spare held fuel cs x h
  obtain ⟨n, rfl, _, hw⟩ := DataW.trod_int ht h
  exact ⟨n, rfl, hw⟩
theorem opens_string {t : TypeId} (ht : P.underlying t = some .string) : Opens P Kd.string t (fun s => s.size ≤ maxLen) := by
  intro H enc w base spare held fuel cs x h
  obtain ⟨s, rfl, _, hs⟩ := DataW.trod_string ht h
  exact ⟨s, rfl, hs⟩
theorem list_of {R : Nat → α → Prop} : ∀ n, (∀ i, i < n → ∃ p, R i p) → ∃ xs : List α, xs.length = n ∧ ∀ j p, xs[j]? = some p → R j p := by
  intro n
  induction n with
  | zero => intro _; exact ⟨[], rfl, fun j p h => by simp at h⟩
  | succ n ih =>
    intro h
    obtain ⟨xs, hl, hx⟩ := ih (fun i hi => h i (by omega))
    obtain ⟨p, hp⟩ := h n (by omega)
    refine ⟨xs ++ [p], by simp [hl], fun j q hq => ?_⟩
    rw [List.getElem?_append] at hq
    split at hq
    · exact hx j q hq
    · have hj : j = n := by
        have := (List.getElem?_eq_some_iff.1 hq).1
        simp at this
        omega
      subst hj
      rw [hl, Nat.sub_self] at hq
      simp at hq
      subst hq
      exact hp
theorem opens_slice {d : Kd α} {t e e' : TypeId} {good : α → Prop} (ht : P.underlying t = some (.slice e)) (hc : P.cellsOf e = d.sz) (hd : Opens P d e good) : Opens P (Kd.slice e' d) t (fun xs => xs.length ≤ maxLen ∧ ∀ x ∈ xs, good x) := by
  intro H enc w base spare held fuel cs x h
  rcases Deep.open_slice ht h with ⟨rfl, _⟩ | ⟨a, len, cap, m, n, D, Pl, rfl, _, hl, hm, hmm, _, hx⟩
  · exact ⟨[], ⟨none, 0, rfl, Nat.le_refl _, rfl, by simp, fun h => by simp at h⟩, by simp, by simp⟩
  · have hlm : len ≤ m := by rw [hmm]; split <;> omega
    rw [hc] at hx
    obtain ⟨xs, hxl, hxs⟩ := list_of (R := fun i p => (∃ c, c.length = d.sz ∧ d.K w p c ∧ ∀ j u, c[j]? = some u → w.cell? (a.add (i * d.sz + j)) = some u) ∧ good p) len (fun i hi => by
      obtain ⟨cs', h1, h2⟩ := hx i (by omega)
      obtain ⟨_, hcl, hat⟩ := World.cells?_some h1
      obtain ⟨p, hK, hg⟩ := hd H enc w base spare held n cs' _ h2
      refine ⟨p, ⟨cs', hcl, hK, fun j u hu => ?_⟩, hg⟩
      have hj : j < d.sz := by rw [← hcl]; exact (List.getElem?_eq_some_iff.1 hu).1
      rw [← Deep.add_add, hat j hj, hu])
    subst hxl
    refine ⟨xs, ⟨some a, cap, rfl, hl, rfl, by unfold maxLen at hm; omega, fun _ => ⟨a, rfl, fun j p hp => (hxs j p hp).1⟩⟩, by omega, fun x hx => ?_⟩
    obtain ⟨j, hj⟩ := List.getElem?_of_mem hx
    exact (hxs j x hj).2
def OpensL (P : Program) (k : Kd α) (fs : List Field) (off : Nat) (good : α → Prop) : Prop :=
  ∀ (H : Type) (enc : TypeId × Value → H) (w : World) (base : Nat) (spare : Nat → Bool) (held : Bool) (n : Nat) (cs : List Value), cs.length = k.sz → (∀ f ∈ fs, ∃ x, DataW.trod enc P w base spare held n f.type ((cs.drop (f.offset - off)).take (P.cellsOf f.type)) = some x) → ∃ v, k.K w v cs ∧ good v
theorem opensL_one {k : Kd α} {f : Field} {off : Nat} {good : α → Prop} (ho : f.offset = off) (hc : P.cellsOf f.type = k.sz) (h : Opens P k f.type good) : OpensL P k [f] off good := by
  intro H enc w base spare held n cs hl hf
  obtain ⟨x, hx⟩ := hf f (by simp)
  rw [ho, Nat.sub_self, List.drop_zero, hc, ← hl, List.take_length] at hx
  exact h H enc w base spare held n cs x hx
theorem opensL_cons {a : Kd α} {b : Kd β} {f : Field} {fs : List Field} {off : Nat} {ga : α → Prop} {gb : β → Prop} (ho : f.offset = off) (hc : P.cellsOf f.type = a.sz) (h : Opens P a f.type ga) (hoff : ∀ g ∈ fs, off + a.sz ≤ g.offset) (hs : OpensL P b fs (off + a.sz) gb) :
    OpensL P (Kd.pair a b) (f :: fs) off (fun x => ga x.1 ∧ gb x.2) := by
  intro H enc w base spare held n cs hl hf
  have hl' : cs.length = a.sz + b.sz := hl
  obtain ⟨x, hx⟩ := hf f (by simp)
  rw [ho, Nat.sub_self, List.drop_zero, hc] at hx
  obtain ⟨v, hv, hg⟩ := h H enc w base spare held n _ x hx
  obtain ⟨u, hu, hg'⟩ := hs H enc w base spare held n (cs.drop a.sz) (by rw [List.length_drop]; omega) (fun g hg => by
    obtain ⟨y, hy⟩ := hf g (by simp [hg])
    have := hoff g hg
    refine ⟨y, ?_⟩
    rw [List.drop_drop, show a.sz + (g.offset - (off + a.sz)) = g.offset - off from by omega]
    exact hy)
  exact ⟨(v, u), ⟨_, _, (List.take_append_drop a.sz cs).symm, hv, hu⟩, hg, hg'⟩
theorem opens_struct {k : Kd α} {t : TypeId} {fs : Array Field} {good : α → Prop} (ht : P.underlying t = some (.struct fs)) (hc : P.cellsOf t = k.sz) (h : OpensL P k fs.toList 0 good) : Opens P k t good := by
  intro H enc w base spare held fuel cs x hx
  obtain ⟨xs, n, _, _, hl, hxl, hf⟩ := DataW.trod_struct ht hx
  refine h H enc w base spare held n cs (hl.trans hc) (fun f hfm => ?_)
  obtain ⟨i, hi⟩ := List.getElem?_of_mem hfm
  have hi' : fs[i]? = some f := by simpa using hi
  have hil : i < xs.length := by rw [hxl]; exact (Array.getElem?_eq_some_iff.1 hi').1
  exact ⟨xs[i]'hil, by rw [Nat.sub_zero, hf i f hi', List.getElem?_eq_getElem hil]⟩
theorem opens_iso {d : Kd α} {f : β → α} {t : TypeId} {good : α → Prop} (hf : ∀ v, ∃ x, f x = v) (h : Opens P d t good) : Opens P (Kd.iso d f) t (fun x => good (f x)) := by
  intro H enc w base spare held fuel cs x hx
  obtain ⟨v, hv, hg⟩ := h H enc w base spare held fuel cs x hx
  obtain ⟨y, rfl⟩ := hf v
  exact ⟨y, hv, hg⟩
theorem Opens.arg_struct {k : Kd α} {H : Type} {enc : TypeId × Value → H} {W : World} {b0 base : Nat} {r : Reach} {spare : Nat → Bool} {held : Bool} {t : TypeId} {fs : Array Field} {good : α → Prop} {v : Value} {q : DataW H} {p : List MemPlace} (hs : P.underlying t = some (.struct fs)) (ho : Opens P k t good)
    (hv : Value.okWide P W r b0 t v) (h : DataW.Trod enc P W base spare held t v q p) : ∃ x cs, v = .agg cs ∧ k.K W x cs.toList ∧ good x := by
  obtain ⟨cs, rfl, _⟩ := okWide_struct hs hv
  obtain ⟨fuel, hf⟩ := h
  obtain ⟨x, hK, hg⟩ := ho H enc W base spare held fuel _ _ hf
  exact ⟨x, cs, rfl, by simpa [Value.cells] using hK, hg⟩
end
end Go.Proofs.YtdfneldenipljaaDoor.L
end
section
namespace Go.Proofs.YtdfneldenipljaaDoor.L
open Go.RowKit Go.ChangeShapes Go.WideShapes Go.Proofs.YtdfneldenipljaaDoorW.PrintWords Go.Proofs.YtdfneldenipljaaDoorW.PrintLast Go.Proofs.YtdfneldenipljaaDoorW.PrintMore
attribute [local go_sem] max2_int min2_int max_two min_two max_three min_three max_four min_four
open Go.ChangeShapes Go.WideShapes Go.ChangeAt Go.RowKit
theorem own : ownKnob Tryd.prog.godebug = none := by kernel_rfl
theorem laidOut : laidOutB Tryd.prog = true := by kernel_rfl
def rowLaid : List (String × DataW Unit) := [("math/bits.deBruijn32tab", Rows.laid_math_bits_deBruijn32tab), ("math/bits.deBruijn64tab", Rows.laid_math_bits_deBruijn64tab), ("internal/strconv.uint64pow10", Rows.laid_internal_strconv_uint64pow10), ("unicode/utf8.acceptRanges", Rows.laid_unicode_utf8_acceptRanges), ("strconv.isGraphic", Rows.laid_strconv_isGraphic), ("strconv.isNotPrint16", Rows.laid_strconv_isNotPrint16), ("strconv.isNotPrint32", Rows.laid_strconv_isNotPrint32), ("strconv.isPrint16", Rows.laid_strconv_isPrint16), ("strconv.isPrint32", Rows.laid_strconv_isPrint32), ("unicode/utf8.first", Rows.laid_unicode_utf8_first)]
theorem firstD : Go.Pinned.utf8First = Lib.firstData := by kernel_rfl
theorem acceptD : (Rows.laid_unicode_utf8_acceptRanges : DataW Unit) = Lib.acceptData := by kernel_rfl
theorem p16D : Go.Pinned.isPrint16 = Lib.sliceData .u16 Lib.goPrintTabs.p16 := by kernel_rfl
theorem n16D : Go.Pinned.isNotPrint16 = Lib.sliceData .u16 Lib.goPrintTabs.n16 := by kernel_rfl
theorem p32D : Go.Pinned.isPrint32 = Lib.sliceData .u32 Lib.goPrintTabs.p32 := by kernel_rfl
theorem n32D : Go.Pinned.isNotPrint32 = Lib.sliceData .u16 Lib.goPrintTabs.n32 := by kernel_rfl
theorem utf_of_laid {W : World} (h : laidMet Tryd.prog rowLaid W) : Tabs W :=
  utf8Tabs_of_reads Tryd.lays260 ⟨by kernel_rfl, by kernel_rfl, by kernel_rfl, by kernel_rfl, by kernel_rfl, by kernel_rfl, by kernel_rfl⟩
    (firstD ▸ (Lib.laidMet.reads h (show ("unicode/utf8.first", Go.Pinned.utf8First) ∈ rowLaid from (.tail _ (.tail _ (.tail _ (.tail _ (.tail _ (.tail _ (.tail _ (.tail _ (.tail _ (.head _))))))))))))) (acceptD ▸ (Lib.laidMet.reads h (show ("unicode/utf8.acceptRanges", Rows.laid_unicode_utf8_acceptRanges) ∈ rowLaid from (.tail _ (.tail _ (.tail _ (.head _)))))))
theorem prt_of_laid {W : World} (h : laidMet Tryd.prog rowLaid W) : Lib.PrintTabsAt 5 6 7 8 Lib.goPrintTabs W :=
  printTabs_of_reads Tryd.lays339 ⟨by kernel_rfl, by kernel_rfl, by kernel_rfl, by kernel_rfl, by kernel_rfl, by kernel_rfl, by kernel_rfl, by kernel_rfl, by kernel_rfl, by kernel_rfl⟩
    (p16D ▸ (Lib.laidMet.reads h (show ("strconv.isPrint16", Go.Pinned.isPrint16) ∈ rowLaid from (.tail _ (.tail _ (.tail _ (.tail _ (.tail _ (.tail _ (.tail _ (.head _))))))))))) (n16D ▸ (Lib.laidMet.reads h (show ("strconv.isNotPrint16", Go.Pinned.isNotPrint16) ∈ rowLaid from (.tail _ (.tail _ (.tail _ (.tail _ (.tail _ (.head _))))))))) (p32D ▸ (Lib.laidMet.reads h (show ("strconv.isPrint32", Go.Pinned.isPrint32) ∈ rowLaid from (.tail _ (.tail _ (.tail _ (.tail _ (.tail _ (.tail _ (.tail _ (.tail _ (.head _)))))))))))) (n32D ▸ (Lib.laidMet.reads h (show ("strconv.isNotPrint32", Go.Pinned.isNotPrint32) ∈ rowLaid from (.tail _ (.tail _ (.tail _ (.tail _ (.tail _ (.tail _ (.head _))))))))))
theorem powD : (Rows.laid_internal_strconv_uint64pow10 : DataW Unit) = Lib.tabData .u64 Lib.pow10Tab := by kernel_rfl
theorem tabIs_reads {P : Program} {W : World} {name : String} {k : IntKind} {zs : List Int} {g : Nat} {t e : TypeId} {n : Nat}
    (hg : P.globalNamed name = some g) (hty : (P.globals[g]?).map (·.type) = some t) (ht : P.underlying t = some (.array n e)) (he : P.underlying e = some (.int k)) (hce : P.cellsOf e = 1) (hct : P.cellsOf t = n)
    (h : Lib.VarReads P W name (Lib.tabData k zs)) : Lib.TabIs P W name k zs := by
  obtain ⟨g', t', cs, fuel, p, hg', ht', hvar, hd⟩ := h
  obtain rfl := Option.some.inj (hg.symm.trans hg')
  obtain rfl := Option.some.inj (hty.symm.trans ht')
  unfold Lib.TabIs
  rw [hvar, ← Lib.cells_of_tab ht he hce hct hd]
theorem pow_of_laid {W : World} (h : laidMet Tryd.prog rowLaid W) : Lib.TabIs Tryd.prog W "internal/strconv.uint64pow10" .u64 Lib.pow10Tab :=
  tabIs_reads (g := 0) (t := (((Tryd.prog.globals[0]?).map (·.type)).getD 0)) (e := 105) (n := 20) (by kernel_rfl) (by kernel_rfl) (by kernel_rfl) (by kernel_rfl) (by kernel_rfl) (by kernel_rfl) (powD ▸ (Lib.laidMet.reads h (show ("internal/strconv.uint64pow10", Rows.laid_internal_strconv_uint64pow10) ∈ rowLaid from .tail _ (.tail _ (.head _)))))
theorem qtabs_of_laid {W : World} (h : laidMetH Tryd.prog rowLaid W) : QTabs Lib.goPrintTabs W := by
  rw [MakeChecks.laidMetH_plain _ _ _ (by kernel_rfl)] at h
  exact ⟨utf_of_laid h, prt_of_laid h, pow_of_laid h⟩
theorem laid_met (os : Os) (args : Array Value) : laidMetH Tryd.prog rowLaid ((World.laidAll Tryd.prog os rowLaid).forCall (fun _ _ => 0) ⟨#[], args, []⟩).memory := by
  rw [MakeChecks.laidMetH_plain _ _ _ (by kernel_rfl)]
  exact laidMet_laidAll _ (by kernel_rfl) (by kernel_rfl)
theorem opensL_imp {P : Program} {α : Type} {k : Kd α} {fs : List Field} {off : Nat} {good good' : α → Prop} (h : OpensL P k fs off good) (hi : ∀ v, good v → good' v) : OpensL P k fs off good' := by
  intro H enc w base spare held n cs hl hf
  obtain ⟨v, hv, hg⟩ := h H enc w base spare held n cs hl hf
  exact ⟨v, hv, hi v hg⟩
theorem opens_nodeB : Opens Tryd.prog kNode 52 NBd := by
  unfold kNode
  refine opens_iso (good := fun x : Int × List Int × List ByteArray × List Int => NBd ⟨x.1, x.2.1, x.2.2.1, x.2.2.2⟩) (fun v => ⟨⟨v.1, v.2.1, v.2.2.1, v.2.2.2⟩, rfl⟩) (opens_struct Tryd.underlying52 (by kernel_rfl) ?_)
  refine opensL_imp (opensL_cons rfl (by kernel_rfl) (opens_int Tryd.underlying3) (by decide)
    (opensL_cons rfl (by kernel_rfl) (opens_slice Tryd.underlying49 (by kernel_rfl) (opens_int Tryd.underlying2)) (by decide)
    (opensL_cons rfl (by kernel_rfl) (opens_slice Tryd.underlying50 (by kernel_rfl) (opens_string Tryd.underlying9)) (by decide)
    (opensL_one rfl (by kernel_rfl) (opens_slice Tryd.underlying31 (by kernel_rfl) (opens_int Tryd.underlying3)))))) ?_
  rintro ⟨k, i, t, q⟩ ⟨h1, h2, _⟩
  exact ⟨wf_i64 h1, fun x hx => wf_i64 (h2.2 x hx)⟩
theorem opens_sceneB : Opens Tryd.prog kScene 34 (fun s => ∀ i : Nat, i < s.nodes.length → NBd (nd s.nodes i)) := by
  unfold kScene
  refine opens_iso (good := fun x : List Node × Int => ∀ i : Nat, i < x.1.length → NBd (nd x.1 i)) (fun v => ⟨⟨v.1, v.2⟩, rfl⟩) (opens_struct Tryd.underlying34 (by kernel_rfl) ?_)
  refine opensL_imp (opensL_cons rfl (by kernel_rfl) (opens_slice Tryd.underlying32 (by kernel_rfl) opens_nodeB) (by decide)
    (opensL_one rfl (by kernel_rfl) (opens_int Tryd.underlying3))) ?_
  rintro ⟨ns, r⟩ ⟨h1, _⟩ i hi
  refine h1.2 _ ?_
  show nd ns i ∈ ns
  unfold nd
  rw [getD_eq _ hi]
  exact List.getElem_mem hi
end Go.Proofs.YtdfneldenipljaaDoor.L
end
