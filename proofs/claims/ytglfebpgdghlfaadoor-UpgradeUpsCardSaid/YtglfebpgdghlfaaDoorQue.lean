/- Part 5 of the texts that YtglfebpgdghlfaaDoorRowUU rests on, joined by a program: what its functions come to. Conditions: those that each theorem states. -/
import Derived.Test.YtglfebpgdghlfaaDoorQud
import Derived.Laws.CopyOwn
import Derived.Deep.RegionLaw
import Derived.Deep.RegionHeld3
set_option linter.unusedVariables false
set_option linter.unusedSimpArgs false
section
-- PRINTED BY print.sh 35421559b90ae4d0a3588c463048766b98c2df88dd9212a6774a882060cdf62d: not written by this session
namespace Go.Proofs.YtglfebpgdghlfaaDoor.PUpgradeUps
open Go.RowKit Go.Proofs.YtglfebpgdghlfaaDoorW.PrintWords Go.Proofs.YtglfebpgdghlfaaDoorW.PrintLast Go.Proofs.YtglfebpgdghlfaaDoorW.PrintMore
attribute [local go_sem] max2_int min2_int max_two min_two max_three min_three max_four min_four   -- for this text's walks alone
set_option linter.unusedVariables false
set_option linter.unusedSimpArgs false
def dioramaref08_Copy.f (a0_0 : Int) (l0_1 : List Int) (l0_2 : List ByteArray) (l0_3 : List Int) : Option (Int × List Int × List ByteArray × List Int) := (some (([] : List Int) : List Int)).bind fun y212 => (if y212.length + l0_1.length < 17592186044416 then ((some (([] : List ByteArray) : List ByteArray)).bind fun y218 => (if y218.length + l0_2.length < 8796093022208 then ((some (([] : List Int) : List Int)).bind fun y224 => (if y224.length + l0_3.length < 17592186044416 then (some (a0_0, (y212 ++ l0_1), (y218 ++ l0_2), (y224 ++ l0_3))) else (none))) else (none))) else (none))
def dioramaref08_Copy.T1 : Bool × List (List Nat × List Nat) := (true, [([], []), ([0], [0]), ([], []), ([], []), ([3], [3]), ([2, 4], [2, 4]), ([], []), ([], []), ([7], [7]), ([6, 8, 5], [6, 8]), ([], []), ([], []), ([11], [11]), ([10, 12, 9], [10, 12]), ([1, 5, 9, 13], [1, 5, 9, 13]), ([14, 13, 0, 1, 2, 3, 4, 5, 6, 7, 8, 9, 10, 11, 12, 13, 14], [14])])
def dioramaref08_Copy.B1 : List Nat := [0, 1, 0, 0, 8, 28, 0, 0, 128, 508, 0, 0, 2048, 8188, 16383, 32767]
theorem dioramaref08_Copy.tab1 : rtab .any (opsOf Tryd.f13 1) = dioramaref08_Copy.T1 := by kernel_rfl
theorem dioramaref08_Copy.bits1 : waitsOk dioramaref08_Copy.T1.2 dioramaref08_Copy.B1 = true := by kernel_rfl
set_option maxHeartbeats 8000000 in
set_option maxRecDepth 100000 in
theorem dioramaref08_Copy.calls (a0_0 : Int) (A0_1 : Option Addr) (c0_1 : Nat) (l0_1 : List Int) (A0_2 : Option Addr) (c0_2 : Nat) (l0_2 : List ByteArray) (A0_3 : Option Addr) (c0_3 : Nat) (l0_3 : List Int) (r1 : Int) (r2 : List Int) (r3 : List ByteArray) (r4 : List Int) (w : World) (hr0_1 : Kd.C (Kd.int .i64) w A0_1 l0_1.length l0_1) (hc0_1 : l0_1.length ≤ c0_1) (hr0_2 : Kd.C Kd.string w A0_2 l0_2.length l0_2) (hc0_2 : l0_2.length ≤ c0_2) (hr0_3 : Kd.C (Kd.int .i64) w A0_3 l0_3.length l0_3) (hc0_3 : l0_3.length ≤ c0_3) (h : dioramaref08_Copy.f a0_0 l0_1 l0_2 l0_3 = some (r1, r2, r3, r4)) :
  Calls Tryd.prog 13 #[.agg #[.int .i64 a0_0, .slice A0_1 l0_1.length c0_1, .slice A0_2 l0_2.length c0_2, .slice A0_3 l0_3.length c0_3]] w fun e w' => ∃ v1_ v2_ v3_ : Value, e = .returned (.agg #[.int .i64 r1, v1_, v2_, v3_]) ∧ Kd.R (Kd.int .i64) 2 w' w.heap.size (fun _ => True) v1_ r2 ∧ Kd.R Kd.string 9 w' w.heap.size (fun _ => True) v2_ r3 ∧ Kd.R (Kd.int .i64) 3 w' w.heap.size (fun _ => True) v3_ r4 ∧ Below w.heap.size w w' := by
 have hu26 := Tryd.underlying26
 have HR0_1 := Aside0.mk hr0_1
 have HC0_1 := Aside0.mk hc0_1
 clear hr0_1 hc0_1
 have HR0_2 := Aside0.mk hr0_2
 have HC0_2 := Aside0.mk hc0_2
 clear hr0_2 hc0_2
 have HR0_3 := Aside0.mk hr0_3
 have HC0_3 := Aside0.mk hc0_3
 clear hr0_3 hc0_3
 have HB := Aside0.mk (Below.refl w.heap.size w)
 have H : ((some (([] : List Int) : List Int)).bind fun y212 => (if y212.length + l0_1.length < 17592186044416 then ((some (([] : List ByteArray) : List ByteArray)).bind fun y218 => (if y218.length + l0_2.length < 8796093022208 then ((some (([] : List Int) : List Int)).bind fun y224 => (if y224.length + l0_3.length < 17592186044416 then (some (a0_0, (y212 ++ l0_1), (y218 ++ l0_2), (y224 ++ l0_3))) else (none))) else (none))) else (none))) = some (r1, r2, r3, r4) := h
 clear h
 obtain ⟨y212, hy212⟩ : ∃ y_ : List Int, y_ = (([] : List Int)) := ⟨_, rfl⟩
 replace H : (if y212.length + l0_1.length < 17592186044416 then ((some (([] : List ByteArray) : List ByteArray)).bind fun y218 => (if y218.length + l0_2.length < 8796093022208 then ((some (([] : List Int) : List Int)).bind fun y224 => (if y224.length + l0_3.length < 17592186044416 then (some (a0_0, (y212 ++ l0_1), (y218 ++ l0_2), (y224 ++ l0_3))) else (none))) else (none))) else (none)) = some (r1, r2, r3, r4) := by first | (rw [hy212]; with_reducible exact H) | (have H2_ := (Option.bind_some _ _).symm.trans H; rw [hy212]; with_reducible exact H2_) | (have H2_ := (Option.bind_some _ _).symm.trans H; with_reducible exact H2_) | with_reducible exact H | (rw [hy212]; exact H) | exact H
 have Ny212 := Aside0.mk hy212
 clear hy212
 by_cases c2 : y212.length + l0_1.length < 17592186044416
 ·rw [if_pos c2] at H
  have LMc2 := Aside0.mk c2
  clear c2
  obtain ⟨y215, hy215⟩ : ∃ y_ : List Int, y_ = (y212 ++ l0_1) := ⟨_, rfl⟩
  replace H : ((some (([] : List ByteArray) : List ByteArray)).bind fun y218 => (if y218.length + l0_2.length < 8796093022208 then ((some (([] : List Int) : List Int)).bind fun y224 => (if y224.length + l0_3.length < 17592186044416 then (some (a0_0, y215, (y218 ++ l0_2), (y224 ++ l0_3))) else (none))) else (none))) = some (r1, r2, r3, r4) := by first | (rw [hy215]; with_reducible exact H) | (have H2_ := (Option.bind_some _ _).symm.trans H; rw [hy215]; with_reducible exact H2_) | (have H2_ := (Option.bind_some _ _).symm.trans H; with_reducible exact H2_) | with_reducible exact H | (rw [hy215]; exact H) | exact H
  have Ny215 := Aside0.mk hy215
  clear hy215
  obtain ⟨y218, hy218⟩ : ∃ y_ : List ByteArray, y_ = (([] : List ByteArray)) := ⟨_, rfl⟩
  replace H : (if y218.length + l0_2.length < 8796093022208 then ((some (([] : List Int) : List Int)).bind fun y224 => (if y224.length + l0_3.length < 17592186044416 then (some (a0_0, y215, (y218 ++ l0_2), (y224 ++ l0_3))) else (none))) else (none)) = some (r1, r2, r3, r4) := by first | (rw [hy218]; with_reducible exact H) | (have H2_ := (Option.bind_some _ _).symm.trans H; rw [hy218]; with_reducible exact H2_) | (have H2_ := (Option.bind_some _ _).symm.trans H; with_reducible exact H2_) | with_reducible exact H | (rw [hy218]; exact H) | exact H
  have Ny218 := Aside0.mk hy218
  clear hy218
  by_cases c3 : y218.length + l0_2.length < 8796093022208
  ·rw [if_pos c3] at H
   have LMc3 := Aside0.mk c3
   clear c3
   obtain ⟨y221, hy221⟩ : ∃ y_ : List ByteArray, y_ = (y218 ++ l0_2) := ⟨_, rfl⟩
   replace H : ((some (([] : List Int) : List Int)).bind fun y224 => (if y224.length + l0_3.length < 17592186044416 then (some (a0_0, y215, y221, (y224 ++ l0_3))) else (none))) = some (r1, r2, r3, r4) := by first | (rw [hy221]; with_reducible exact H) | (have H2_ := (Option.bind_some _ _).symm.trans H; rw [hy221]; with_reducible exact H2_) | (have H2_ := (Option.bind_some _ _).symm.trans H; with_reducible exact H2_) | with_reducible exact H | (rw [hy221]; exact H) | exact H
   have Ny221 := Aside0.mk hy221
   clear hy221
   obtain ⟨y224, hy224⟩ : ∃ y_ : List Int, y_ = (([] : List Int)) := ⟨_, rfl⟩
   replace H : (if y224.length + l0_3.length < 17592186044416 then (some (a0_0, y215, y221, (y224 ++ l0_3))) else (none)) = some (r1, r2, r3, r4) := by first | (rw [hy224]; with_reducible exact H) | (have H2_ := (Option.bind_some _ _).symm.trans H; rw [hy224]; with_reducible exact H2_) | (have H2_ := (Option.bind_some _ _).symm.trans H; with_reducible exact H2_) | with_reducible exact H | (rw [hy224]; exact H) | exact H
   have Ny224 := Aside0.mk hy224
   clear hy224
   by_cases c4 : y224.length + l0_3.length < 17592186044416
   ·rw [if_pos c4] at H
    have LMc4 := Aside0.mk c4
    clear c4
    obtain ⟨y227, hy227⟩ : ∃ y_ : List Int, y_ = (y224 ++ l0_3) := ⟨_, rfl⟩
    replace H : (some (a0_0, y215, y221, y227)) = some (r1, r2, r3, r4) := by first | (rw [hy227]; with_reducible exact H) | (have H2_ := (Option.bind_some _ _).symm.trans H; rw [hy227]; with_reducible exact H2_) | (have H2_ := (Option.bind_some _ _).symm.trans H; with_reducible exact H2_) | with_reducible exact H | (rw [hy227]; exact H) | exact H
    have Ny227 := Aside0.mk hy227
    clear hy227
    simp only [Option.some.injEq, Prod.mk.injEq] at H
    obtain ⟨rfl, rfl, rfl, rfl⟩ := H
    go_enter Tryd.func13, Tryd.ntmps13
    try go_wp2_with (first | ((with_reducible refine gate_dst (N := 1) rfl ?_); refine box_event ?hg (N := 1) ?hd (cs := #[.int .i64 a0_0, .slice A0_1 l0_1.length c0_1, .slice A0_2 l0_2.length c0_2, .slice A0_3 l0_3.length c0_3]) (t := 26) ?hr ?_; (case hd => rfl); (case hg => rfl); (case hr => first | (go_simp; done) | (go_simp; rfl)); intro gb210 hg w5 hbox hb; have n0_ := Aside0.mk (below_step (by repeat (first | (with_reducible first | exact HB.out | apply below_alloc | apply pw_below_drewN | apply below_drew1) | exact HB.out)) hb); have n1_ := Aside0.mk (hbox); have n2_ := Aside0.mk ((by rw [hg]; exact (below_size (by repeat (first | (with_reducible first | exact HB.out | apply below_alloc | apply pw_below_drewN | apply below_drew1) | exact HB.out))) : w.heap.size ≤ gb210)); have n3_ := Aside0.mk ((by rw [hg]; exact (below_size (by repeat (first | (with_reducible first | exact HB.out | apply below_alloc | apply pw_below_drewN | apply below_drew1) | exact HB.out))) : w.heap.size ≤ gb210)); clear HB; have HB := n0_; have BK210 := n1_; have GW210 := n2_; have GE210 := n3_; clear n0_ n1_ n2_ n3_; clear hb hbox hg) | ((with_reducible refine gate_dst (N := 2) rfl ?_); refine box_event ?hg (N := 2) ?hd (cs := #[.int .i64 0, .slice none 0 0, .slice none 0 0, .slice none 0 0]) (t := 26) ?hr ?_; (case hd => rfl); (case hg => rfl); (case hr => first | (go_simp; done) | (go_simp; rfl)); intro gb211 hg w6 hbox hb; have n0_ := Aside0.mk (blk_below (g := gb210) (o := .cells #[.int .i64 a0_0, .slice A0_1 l0_1.length c0_1, .slice A0_2 l0_2.length c0_2, .slice A0_3 l0_3.length c0_3] 26 (0, 0)) (by (with_reducible repeat (first | refine blk_drewN ?_ _ | refine blk_drew ?_ | refine blk_alloc ?_ _)); exact BK210.out) hb); have n1_ := Aside0.mk (below_step (by repeat (first | (with_reducible first | exact HB.out | apply below_alloc | apply pw_below_drewN | apply below_drew1 | refine below_set ?_ GE210.out) | exact HB.out)) hb); have n2_ := Aside0.mk (hbox); have n3_ := Aside0.mk ((by rw [hg]; exact (below_size (by repeat (first | (with_reducible first | exact HB.out | apply below_alloc | apply pw_below_drewN | apply below_drew1 | refine below_set ?_ GE210.out) | exact HB.out))) : w.heap.size ≤ gb211)); have n4_ := Aside0.mk ((by rw [hg]; exact (below_size (by repeat (first | (with_reducible first | exact HB.out | apply below_alloc | apply pw_below_drewN | apply below_drew1 | refine below_set ?_ GE210.out) | exact HB.out))) : w.heap.size ≤ gb211)); have n5_ := Aside0.mk ((by rw [hg]; exact Nat.ne_of_lt (blk_lt (g := gb210) (o := .cells #[.int .i64 a0_0, .slice A0_1 l0_1.length c0_1, .slice A0_2 l0_2.length c0_2, .slice A0_3 l0_3.length c0_3] 26 (0, 0)) (by (with_reducible repeat (first | refine blk_drewN ?_ _ | refine blk_drew ?_ | refine blk_alloc ?_ _)); exact BK210.out)) : gb210 ≠ gb211)); have n6_ := Aside0.mk ((by rw [hg]; exact Nat.ne_of_gt (blk_lt (g := gb210) (o := .cells #[.int .i64 a0_0, .slice A0_1 l0_1.length c0_1, .slice A0_2 l0_2.length c0_2, .slice A0_3 l0_3.length c0_3] 26 (0, 0)) (by (with_reducible repeat (first | refine blk_drewN ?_ _ | refine blk_drew ?_ | refine blk_alloc ?_ _)); exact BK210.out)) : gb211 ≠ gb210)); clear BK210; clear HB; have BK210 := n0_; have HB := n1_; have BK211 := n2_; have GW211 := n3_; have GE211 := n4_; have NB210_211 := n5_; have NB211_210 := n6_; clear n0_ n1_ n2_ n3_ n4_ n5_ n6_; clear hb hbox hg))
    have n0_ := Aside0.mk (blk_drew BK210.out)
    have n1_ := Aside0.mk (blk_drew BK211.out)
    have n2_ := Aside0.mk (below_drew1 HB.out)
    clear BK210
    clear BK211
    clear HB
    have BK210 := n0_
    have BK211 := n1_
    have HB := n2_
    clear n0_ n1_ n2_
    refine start_ (n := 16) (S := fun w' => w'.cell? ⟨gb210, 0, none⟩ = some (.int .i64 a0_0) ∧ w'.cell? ⟨gb210, 1, none⟩ = some (.slice A0_1 l0_1.length c0_1) ∧ w'.cell? ⟨gb210, 2, none⟩ = some (.slice A0_2 l0_2.length c0_2) ∧ w'.cell? ⟨gb210, 3, none⟩ = some (.slice A0_3 l0_3.length c0_3)) (ds := []) #[false, false, false, false, false, false, false, false, false, false, false, false, false, false, false, false] (by kernel_rfl) rfl rfl ⟨(blk_cell BK210.out 0).trans rfl, (blk_cell BK210.out 1).trans rfl, (blk_cell BK210.out 2).trans rfl, (blk_cell BK210.out 3).trans rfl⟩ (fun hHeld => ?_); refine with_tabW dioramaref08_Copy.tab1 dioramaref08_Copy.bits1 (fun HT_ HW_ => ?_)
    generalize w6.drew = w7 at BK210 BK211 HB hHeld ⊢
    refine pure_ (i := 0) (N := some 3) (v := ?_) (a' := ?_) #[true, false, false, false, false, false, false, false, false, false, false, false, false, false, false, false] rfl rfl (any_of HT_.out (by kernel_rfl)) (fun _ _ _ h => h) (Or.inl ⟨by rfl, ?_⟩) ?_ ?_
    rotate_left
    ·intro w'
     go_simp
     with_reducible rfl
    rotate_left
    ·simp only [Act.put, List.setIfInBounds_toArray, List.set_cons_zero, List.set_cons_succ, i64_w, i32_w]
     rfl
    refine pure_ (i := 3) (N := some 6) (v := ?_) (a' := ?_) #[true, false, false, true, false, false, false, false, false, false, false, false, false, false, false, false] rfl rfl (any_of HT_.out (by kernel_rfl)) (fun _ _ _ h => h) (Or.inl ⟨by rfl, ?_⟩) ?_ ?_
    rotate_left
    ·intro w'
     go_simp
     with_reducible rfl
    rotate_left
    ·simp only [Act.put, List.setIfInBounds_toArray, List.set_cons_zero, List.set_cons_succ, i64_w, i32_w]
     rfl
    refine pure_ (i := 7) (N := some 10) (v := ?_) (a' := ?_) #[true, false, false, true, false, false, false, true, false, false, false, false, false, false, false, false] rfl rfl (any_of HT_.out (by kernel_rfl)) (fun _ _ _ h => h) (Or.inl ⟨by rfl, ?_⟩) ?_ ?_
    rotate_left
    ·intro w'
     go_simp
     with_reducible rfl
    rotate_left
    ·simp only [Act.put, List.setIfInBounds_toArray, List.set_cons_zero, List.set_cons_succ, i64_w, i32_w]
     rfl
    refine pure_ (i := 11) (N := some 14) (v := ?_) (a' := ?_) #[true, false, false, true, false, false, false, true, false, false, false, true, false, false, false, false] rfl rfl (any_of HT_.out (by kernel_rfl)) (fun _ _ _ h => h) (Or.inl ⟨by rfl, ?_⟩) ?_ ?_
    rotate_left
    ·intro w'
     go_simp
     with_reducible rfl
    rotate_left
    ·simp only [Act.put, List.setIfInBounds_toArray, List.set_cons_zero, List.set_cons_succ, i64_w, i32_w]
     rfl
    refine take_ (i := 1) (N := some 4) (v := ?_) (a' := ?_) #[true, true, false, true, false, false, false, true, false, false, false, true, false, false, false, false] rfl rfl (take_ofW HT_.out HW_.out (by kernel_rfl)) (fun _ _ _ h => h) (Or.inl ⟨by rfl, ?_⟩) hHeld ?_ ?_
    rotate_left
    ·rintro w' ⟨s0, s1, s2, s3⟩
     go_simp
     with_reducible rfl
    rotate_left
    ·simp only [Act.put, List.setIfInBounds_toArray, List.set_cons_zero, List.set_cons_succ, i64_w, i32_w]
     rfl
    refine take_ (i := 4) (N := some 7) (v := ?_) (a' := ?_) #[true, true, false, true, true, false, false, true, false, false, false, true, false, false, false, false] rfl rfl (take_ofW HT_.out HW_.out (by kernel_rfl)) (fun _ _ _ h => h) (Or.inl ⟨by rfl, ?_⟩) hHeld ?_ ?_
    rotate_left
    ·rintro w' ⟨s0, s1, s2, s3⟩
     go_simp
     with_reducible rfl
    rotate_left
    ·simp only [Act.put, List.setIfInBounds_toArray, List.set_cons_zero, List.set_cons_succ, i64_w, i32_w]
     rfl
    refine take_ (i := 8) (N := some 11) (v := ?_) (a' := ?_) #[true, true, false, true, true, false, false, true, true, false, false, true, false, false, false, false] rfl rfl (take_ofW HT_.out HW_.out (by kernel_rfl)) (fun _ _ _ h => h) (Or.inl ⟨by rfl, ?_⟩) hHeld ?_ ?_
    rotate_left
    ·rintro w' ⟨s0, s1, s2, s3⟩
     go_simp
     with_reducible rfl
    rotate_left
    ·simp only [Act.put, List.setIfInBounds_toArray, List.set_cons_zero, List.set_cons_succ, i64_w, i32_w]
     rfl
    refine take_ (i := 12) (N := some 15) (v := ?_) (a' := ?_) #[true, true, false, true, true, false, false, true, true, false, false, true, true, false, false, false] rfl rfl (take_ofW HT_.out HW_.out (by kernel_rfl)) (fun _ _ _ h => h) (Or.inl ⟨by rfl, ?_⟩) hHeld ?_ ?_
    rotate_left
    ·rintro w' ⟨s0, s1, s2, s3⟩
     go_simp
     with_reducible rfl
    rotate_left
    ·simp only [Act.put, List.setIfInBounds_toArray, List.set_cons_zero, List.set_cons_succ, i64_w, i32_w]
     rfl
    refine join_ (σ := Value × Value × Value × Value × Value) 3 #[true, true, true, true, true, true, true, true, true, true, true, true, true, false, false, false] (fun s_ => [(5, s_.1), (8, s_.2.1), (9, s_.2.2.1), (12, s_.2.2.2.1), (13, s_.2.2.2.2)]) (fun s_ w' => (w'.cell? ⟨gb210, 0, none⟩ = some (.int .i64 a0_0) ∧ w'.cell? ⟨gb210, 1, none⟩ = some (.slice A0_1 l0_1.length c0_1) ∧ w'.cell? ⟨gb210, 2, none⟩ = some (.slice A0_2 l0_2.length c0_2) ∧ w'.cell? ⟨gb210, 3, none⟩ = some (.slice A0_3 l0_3.length c0_3)) ∧ (Kd.R (Kd.int .i64) 2 w' w.heap.size (fun _ => True) s_.2.1 y215) ∧ (Kd.R Kd.string 9 w' w.heap.size (fun _ => True) s_.2.2.2.1 y221) ∧ (Kd.R (Kd.int .i64) 3 w' w.heap.size (fun _ => True) s_.2.2.2.2 y224) ∧ (w'.heap[gb210]? = some (.cells #[.int .i64 a0_0, .slice A0_1 l0_1.length c0_1, .slice A0_2 l0_2.length c0_2, .slice A0_3 l0_3.length c0_3] 26 (0, 0))) ∧ (w'.heap[gb211]? = some (.cells #[.int .i64 0, .slice none 0 0, .slice none 0 0, .slice none 0 0] 26 (0, 0))) ∧ (Below w.heap.size w w')) ?_ ?_
    rotate_left
    ·intro hJ2_5_6_9_10
     refine join_ (σ := Value × Value × Value × Value) 4 #[true, true, true, true, true, true, true, true, true, true, false, true, true, false, false, false] (fun s_ => [(5, s_.1), (8, s_.2.1), (9, s_.2.2.1), (12, s_.2.2.2)]) (fun s_ w' => (w'.cell? ⟨gb210, 0, none⟩ = some (.int .i64 a0_0) ∧ w'.cell? ⟨gb210, 1, none⟩ = some (.slice A0_1 l0_1.length c0_1) ∧ w'.cell? ⟨gb210, 2, none⟩ = some (.slice A0_2 l0_2.length c0_2) ∧ w'.cell? ⟨gb210, 3, none⟩ = some (.slice A0_3 l0_3.length c0_3)) ∧ (Kd.R (Kd.int .i64) 2 w' w.heap.size (fun _ => True) s_.2.1 y215) ∧ (Kd.R Kd.string 9 w' w.heap.size (fun _ => True) s_.2.2.2 y221) ∧ (w'.heap[gb210]? = some (.cells #[.int .i64 a0_0, .slice A0_1 l0_1.length c0_1, .slice A0_2 l0_2.length c0_2, .slice A0_3 l0_3.length c0_3] 26 (0, 0))) ∧ (w'.heap[gb211]? = some (.cells #[.int .i64 0, .slice none 0 0, .slice none 0 0, .slice none 0 0] 26 (0, 0))) ∧ (Below w.heap.size w w')) ?_ ?_
     rotate_left
     ·intro hJ2_5_6_9
      refine join_ (σ := Value × Value × Value × Value) 4 #[true, true, true, true, true, true, true, true, true, false, true, true, true, false, false, false] (fun s_ => [(5, s_.1), (8, s_.2.1), (9, s_.2.2.1), (13, s_.2.2.2)]) (fun s_ w' => (w'.cell? ⟨gb210, 0, none⟩ = some (.int .i64 a0_0) ∧ w'.cell? ⟨gb210, 1, none⟩ = some (.slice A0_1 l0_1.length c0_1) ∧ w'.cell? ⟨gb210, 2, none⟩ = some (.slice A0_2 l0_2.length c0_2) ∧ w'.cell? ⟨gb210, 3, none⟩ = some (.slice A0_3 l0_3.length c0_3)) ∧ (Kd.R (Kd.int .i64) 2 w' w.heap.size (fun _ => True) s_.2.1 y215) ∧ (Kd.R Kd.string 9 w' w.heap.size (fun _ => True) s_.2.2.1 y218) ∧ (Kd.R (Kd.int .i64) 3 w' w.heap.size (fun _ => True) s_.2.2.2 y224) ∧ (w'.heap[gb210]? = some (.cells #[.int .i64 a0_0, .slice A0_1 l0_1.length c0_1, .slice A0_2 l0_2.length c0_2, .slice A0_3 l0_3.length c0_3] 26 (0, 0))) ∧ (w'.heap[gb211]? = some (.cells #[.int .i64 0, .slice none 0 0, .slice none 0 0, .slice none 0 0] 26 (0, 0))) ∧ (Below w.heap.size w w')) ?_ ?_
      rotate_left
      ·intro hJ2_5_6_10
       refine join_ (σ := Value × Value × Value) 5 #[true, true, true, true, true, true, true, true, true, false, false, true, true, false, false, false] (fun s_ => [(5, s_.1), (8, s_.2.1), (9, s_.2.2)]) (fun s_ w' => (w'.cell? ⟨gb210, 0, none⟩ = some (.int .i64 a0_0) ∧ w'.cell? ⟨gb210, 1, none⟩ = some (.slice A0_1 l0_1.length c0_1) ∧ w'.cell? ⟨gb210, 2, none⟩ = some (.slice A0_2 l0_2.length c0_2) ∧ w'.cell? ⟨gb210, 3, none⟩ = some (.slice A0_3 l0_3.length c0_3)) ∧ (Kd.R (Kd.int .i64) 2 w' w.heap.size (fun _ => True) s_.2.1 y215) ∧ (Kd.R Kd.string 9 w' w.heap.size (fun _ => True) s_.2.2 y218) ∧ (w'.heap[gb210]? = some (.cells #[.int .i64 a0_0, .slice A0_1 l0_1.length c0_1, .slice A0_2 l0_2.length c0_2, .slice A0_3 l0_3.length c0_3] 26 (0, 0))) ∧ (w'.heap[gb211]? = some (.cells #[.int .i64 0, .slice none 0 0, .slice none 0 0, .slice none 0 0] 26 (0, 0))) ∧ (Below w.heap.size w w')) ?_ ?_
       rotate_left
       ·intro hJ2_5_6
        refine join_ (σ := Value × Value × Value) 5 #[true, true, true, true, true, true, false, true, true, false, true, true, true, false, false, false] (fun s_ => [(5, s_.1), (8, s_.2.1), (13, s_.2.2)]) (fun s_ w' => (w'.cell? ⟨gb210, 0, none⟩ = some (.int .i64 a0_0) ∧ w'.cell? ⟨gb210, 1, none⟩ = some (.slice A0_1 l0_1.length c0_1) ∧ w'.cell? ⟨gb210, 2, none⟩ = some (.slice A0_2 l0_2.length c0_2) ∧ w'.cell? ⟨gb210, 3, none⟩ = some (.slice A0_3 l0_3.length c0_3)) ∧ (Kd.R (Kd.int .i64) 2 w' w.heap.size (fun _ => True) s_.2.1 y215) ∧ (Kd.R (Kd.int .i64) 3 w' w.heap.size (fun _ => True) s_.2.2 y224) ∧ (w'.heap[gb210]? = some (.cells #[.int .i64 a0_0, .slice A0_1 l0_1.length c0_1, .slice A0_2 l0_2.length c0_2, .slice A0_3 l0_3.length c0_3] 26 (0, 0))) ∧ (w'.heap[gb211]? = some (.cells #[.int .i64 0, .slice none 0 0, .slice none 0 0, .slice none 0 0] 26 (0, 0))) ∧ (Below w.heap.size w w')) ?_ ?_
        rotate_left
        ·intro hJ2_5_10
         refine join_ (σ := Value × Value × Value) 5 #[true, true, true, true, true, false, true, true, true, false, true, true, true, false, false, false] (fun s_ => [(5, s_.1), (9, s_.2.1), (13, s_.2.2)]) (fun s_ w' => (w'.cell? ⟨gb210, 0, none⟩ = some (.int .i64 a0_0) ∧ w'.cell? ⟨gb210, 1, none⟩ = some (.slice A0_1 l0_1.length c0_1) ∧ w'.cell? ⟨gb210, 2, none⟩ = some (.slice A0_2 l0_2.length c0_2) ∧ w'.cell? ⟨gb210, 3, none⟩ = some (.slice A0_3 l0_3.length c0_3)) ∧ (Kd.R (Kd.int .i64) 2 w' w.heap.size (fun _ => True) s_.1 y212) ∧ (Kd.R Kd.string 9 w' w.heap.size (fun _ => True) s_.2.1 y218) ∧ (Kd.R (Kd.int .i64) 3 w' w.heap.size (fun _ => True) s_.2.2 y224) ∧ (w'.heap[gb210]? = some (.cells #[.int .i64 a0_0, .slice A0_1 l0_1.length c0_1, .slice A0_2 l0_2.length c0_2, .slice A0_3 l0_3.length c0_3] 26 (0, 0))) ∧ (w'.heap[gb211]? = some (.cells #[.int .i64 0, .slice none 0 0, .slice none 0 0, .slice none 0 0] 26 (0, 0))) ∧ (Below w.heap.size w w')) ?_ ?_
         rotate_left
         ·intro hJ2_6_10
          refine join_ (σ := Value × Value) 6 #[true, true, true, true, true, true, false, true, true, false, false, true, true, false, false, false] (fun s_ => [(5, s_.1), (8, s_.2)]) (fun s_ w' => (w'.cell? ⟨gb210, 0, none⟩ = some (.int .i64 a0_0) ∧ w'.cell? ⟨gb210, 1, none⟩ = some (.slice A0_1 l0_1.length c0_1) ∧ w'.cell? ⟨gb210, 2, none⟩ = some (.slice A0_2 l0_2.length c0_2) ∧ w'.cell? ⟨gb210, 3, none⟩ = some (.slice A0_3 l0_3.length c0_3)) ∧ (Kd.R (Kd.int .i64) 2 w' w.heap.size (fun _ => True) s_.2 y215) ∧ (w'.heap[gb210]? = some (.cells #[.int .i64 a0_0, .slice A0_1 l0_1.length c0_1, .slice A0_2 l0_2.length c0_2, .slice A0_3 l0_3.length c0_3] 26 (0, 0))) ∧ (w'.heap[gb211]? = some (.cells #[.int .i64 0, .slice none 0 0, .slice none 0 0, .slice none 0 0] 26 (0, 0))) ∧ (Below w.heap.size w w')) ?_ ?_
          rotate_left
          ·intro hJ2_5
           refine join_ (σ := Value × Value) 6 #[true, true, true, true, true, false, true, true, true, false, false, true, true, false, false, false] (fun s_ => [(5, s_.1), (9, s_.2)]) (fun s_ w' => (w'.cell? ⟨gb210, 0, none⟩ = some (.int .i64 a0_0) ∧ w'.cell? ⟨gb210, 1, none⟩ = some (.slice A0_1 l0_1.length c0_1) ∧ w'.cell? ⟨gb210, 2, none⟩ = some (.slice A0_2 l0_2.length c0_2) ∧ w'.cell? ⟨gb210, 3, none⟩ = some (.slice A0_3 l0_3.length c0_3)) ∧ (Kd.R (Kd.int .i64) 2 w' w.heap.size (fun _ => True) s_.1 y212) ∧ (Kd.R Kd.string 9 w' w.heap.size (fun _ => True) s_.2 y218) ∧ (w'.heap[gb210]? = some (.cells #[.int .i64 a0_0, .slice A0_1 l0_1.length c0_1, .slice A0_2 l0_2.length c0_2, .slice A0_3 l0_3.length c0_3] 26 (0, 0))) ∧ (w'.heap[gb211]? = some (.cells #[.int .i64 0, .slice none 0 0, .slice none 0 0, .slice none 0 0] 26 (0, 0))) ∧ (Below w.heap.size w w')) ?_ ?_
           rotate_left
           ·intro hJ2_6
            refine join_ (σ := Value × Value) 6 #[true, true, true, true, true, false, false, true, true, false, true, true, true, false, false, false] (fun s_ => [(5, s_.1), (13, s_.2)]) (fun s_ w' => (w'.cell? ⟨gb210, 0, none⟩ = some (.int .i64 a0_0) ∧ w'.cell? ⟨gb210, 1, none⟩ = some (.slice A0_1 l0_1.length c0_1) ∧ w'.cell? ⟨gb210, 2, none⟩ = some (.slice A0_2 l0_2.length c0_2) ∧ w'.cell? ⟨gb210, 3, none⟩ = some (.slice A0_3 l0_3.length c0_3)) ∧ (Kd.R (Kd.int .i64) 2 w' w.heap.size (fun _ => True) s_.1 y212) ∧ (Kd.R (Kd.int .i64) 3 w' w.heap.size (fun _ => True) s_.2 y224) ∧ (w'.heap[gb210]? = some (.cells #[.int .i64 a0_0, .slice A0_1 l0_1.length c0_1, .slice A0_2 l0_2.length c0_2, .slice A0_3 l0_3.length c0_3] 26 (0, 0))) ∧ (w'.heap[gb211]? = some (.cells #[.int .i64 0, .slice none 0 0, .slice none 0 0, .slice none 0 0] 26 (0, 0))) ∧ (Below w.heap.size w w')) ?_ ?_
            rotate_left
            ·intro hJ2_10
             refine join_ (σ := Value × Value) 6 #[true, true, false, true, true, false, true, true, true, false, true, true, true, false, false, false] (fun s_ => [(9, s_.1), (13, s_.2)]) (fun s_ w' => (w'.cell? ⟨gb210, 0, none⟩ = some (.int .i64 a0_0) ∧ w'.cell? ⟨gb210, 1, none⟩ = some (.slice A0_1 l0_1.length c0_1) ∧ w'.cell? ⟨gb210, 2, none⟩ = some (.slice A0_2 l0_2.length c0_2) ∧ w'.cell? ⟨gb210, 3, none⟩ = some (.slice A0_3 l0_3.length c0_3)) ∧ (Kd.R Kd.string 9 w' w.heap.size (fun _ => True) s_.1 y218) ∧ (Kd.R (Kd.int .i64) 3 w' w.heap.size (fun _ => True) s_.2 y224) ∧ (w'.heap[gb210]? = some (.cells #[.int .i64 a0_0, .slice A0_1 l0_1.length c0_1, .slice A0_2 l0_2.length c0_2, .slice A0_3 l0_3.length c0_3] 26 (0, 0))) ∧ (w'.heap[gb211]? = some (.cells #[.int .i64 0, .slice none 0 0, .slice none 0 0, .slice none 0 0] 26 (0, 0))) ∧ (Below w.heap.size w w')) ?_ ?_
             rotate_left
             ·intro hJ6_10
              refine join_ (σ := Value) 7 #[true, true, true, true, true, false, false, true, true, false, false, true, true, false, false, false] (fun s_ => [(5, s_)]) (fun s_ w' => (w'.cell? ⟨gb210, 0, none⟩ = some (.int .i64 a0_0) ∧ w'.cell? ⟨gb210, 1, none⟩ = some (.slice A0_1 l0_1.length c0_1) ∧ w'.cell? ⟨gb210, 2, none⟩ = some (.slice A0_2 l0_2.length c0_2) ∧ w'.cell? ⟨gb210, 3, none⟩ = some (.slice A0_3 l0_3.length c0_3)) ∧ (Kd.R (Kd.int .i64) 2 w' w.heap.size (fun _ => True) s_ y212) ∧ (w'.heap[gb210]? = some (.cells #[.int .i64 a0_0, .slice A0_1 l0_1.length c0_1, .slice A0_2 l0_2.length c0_2, .slice A0_3 l0_3.length c0_3] 26 (0, 0))) ∧ (w'.heap[gb211]? = some (.cells #[.int .i64 0, .slice none 0 0, .slice none 0 0, .slice none 0 0] 26 (0, 0))) ∧ (Below w.heap.size w w')) ?_ ?_
              rotate_left
              ·intro hJ2
               refine join_ (σ := Value) 7 #[true, true, false, true, true, false, true, true, true, false, false, true, true, false, false, false] (fun s_ => [(9, s_)]) (fun s_ w' => (w'.cell? ⟨gb210, 0, none⟩ = some (.int .i64 a0_0) ∧ w'.cell? ⟨gb210, 1, none⟩ = some (.slice A0_1 l0_1.length c0_1) ∧ w'.cell? ⟨gb210, 2, none⟩ = some (.slice A0_2 l0_2.length c0_2) ∧ w'.cell? ⟨gb210, 3, none⟩ = some (.slice A0_3 l0_3.length c0_3)) ∧ (Kd.R Kd.string 9 w' w.heap.size (fun _ => True) s_ y218) ∧ (w'.heap[gb210]? = some (.cells #[.int .i64 a0_0, .slice A0_1 l0_1.length c0_1, .slice A0_2 l0_2.length c0_2, .slice A0_3 l0_3.length c0_3] 26 (0, 0))) ∧ (w'.heap[gb211]? = some (.cells #[.int .i64 0, .slice none 0 0, .slice none 0 0, .slice none 0 0] 26 (0, 0))) ∧ (Below w.heap.size w w')) ?_ ?_
               rotate_left
               ·intro hJ6
                refine join_ (σ := Value) 7 #[true, true, false, true, true, false, false, true, true, false, true, true, true, false, false, false] (fun s_ => [(13, s_)]) (fun s_ w' => (w'.cell? ⟨gb210, 0, none⟩ = some (.int .i64 a0_0) ∧ w'.cell? ⟨gb210, 1, none⟩ = some (.slice A0_1 l0_1.length c0_1) ∧ w'.cell? ⟨gb210, 2, none⟩ = some (.slice A0_2 l0_2.length c0_2) ∧ w'.cell? ⟨gb210, 3, none⟩ = some (.slice A0_3 l0_3.length c0_3)) ∧ (Kd.R (Kd.int .i64) 3 w' w.heap.size (fun _ => True) s_ y224) ∧ (w'.heap[gb210]? = some (.cells #[.int .i64 a0_0, .slice A0_1 l0_1.length c0_1, .slice A0_2 l0_2.length c0_2, .slice A0_3 l0_3.length c0_3] 26 (0, 0))) ∧ (w'.heap[gb211]? = some (.cells #[.int .i64 0, .slice none 0 0, .slice none 0 0, .slice none 0 0] 26 (0, 0))) ∧ (Below w.heap.size w w')) ?_ ?_
                rotate_left
                ·intro hJ10
                 refine three_ (i := 2) (j := 6) (k := 10) (Ni := some 5) (Nj := some 9) (Nk := some 13) #[true, true, true, true, true, false, false, true, true, false, false, true, true, false, false, false] #[true, true, false, true, true, false, true, true, true, false, false, true, true, false, false, false] #[true, true, false, true, true, false, false, true, true, false, true, true, true, false, false, false] rfl rfl rfl rfl rfl rfl (three_of HT_.out (by kernel_rfl)) (by decide) (by decide) (by decide) (fun K hK => ?_) (fun K hK => ?_) (fun K hK => ?_)
                 ·skip
                  refine Kd.R_lit_step (Kd.int .i64) _ 2 ?hg (N := 5) ?hd (xs := ([] : List Int)) (inner := []) (ok := fun _ => True) (okp := fun _ => True) ?hr ?hp (fun _ hk => hk) trivial (Below.refl _ _) (Nat.le_refl _) (by simp) ?_; (case hd => rfl); (case hg => rfl); (case hr => first | (go_simp; done) | (go_simp; rfl)); (case hp => exact (Reps.none _ _))
                  intro v213 w8 ho9 hb hg_ hnew_
                  clear hg_ hnew_
                  (first | rw [← Ny212.out] at ho9 | (simp only [Int.reduceToNat] at ho9; rw [← Ny212.out] at ho9))
                  have n0_ := Aside0.mk (Kd.R_lower ho9 (below_size (by repeat (first | (with_reducible first | exact HB.out | apply below_alloc | apply pw_below_drewN | apply below_drew1 | refine below_set ?_ GE210.out | refine below_set ?_ GE211.out) | exact HB.out))))
                  have n1_ := Aside0.mk (blk_below (g := gb210) (o := .cells #[.int .i64 a0_0, .slice A0_1 l0_1.length c0_1, .slice A0_2 l0_2.length c0_2, .slice A0_3 l0_3.length c0_3] 26 (0, 0)) (by (with_reducible repeat (first | refine blk_drewN ?_ _ | refine blk_drew ?_ | refine blk_alloc ?_ _)); exact BK210.out) hb)
                  have n2_ := Aside0.mk (blk_below (g := gb211) (o := .cells #[.int .i64 0, .slice none 0 0, .slice none 0 0, .slice none 0 0] 26 (0, 0)) (by (with_reducible repeat (first | refine blk_drewN ?_ _ | refine blk_drew ?_ | refine blk_alloc ?_ _)); exact BK211.out) hb)
                  have n3_ := Aside0.mk (below_step (by repeat (first | (with_reducible first | exact HB.out | apply below_alloc | apply pw_below_drewN | apply below_drew1 | refine below_set ?_ GE210.out | refine below_set ?_ GE211.out) | exact HB.out)) hb)
                  clear BK210
                  clear BK211
                  clear HB
                  have HO214 := n0_
                  have BK210 := n1_
                  have BK211 := n2_
                  have HB := n3_
                  clear n0_ n1_ n2_ n3_
                  clear hb ho9
                  refine hK.out _ _ ⟨(blk_cell BK210.out 0).trans rfl, (blk_cell BK210.out 1).trans rfl, (blk_cell BK210.out 2).trans rfl, (blk_cell BK210.out 3).trans rfl⟩ (fun hHeld => ?_)
                  clear hK K
                  refine norm_ (a' := ?_) ?_ ?_
                  rotate_left
                  ·show Act.put _ (some 5) _ = _
                   simp only [Act.put, List.setIfInBounds_toArray, List.set_cons_zero, List.set_cons_succ, i64_w, i32_w]
                   rfl
                  exact norm_ (by first | (simp only [putAll, Act.put, List.setIfInBounds_toArray, List.set_cons_zero, List.set_cons_succ]; done) | (simp only [putAll, Act.put, List.setIfInBounds_toArray, List.set_cons_zero, List.set_cons_succ]; rfl)) (hJ2 (v213) _ ⟨hHeld, (by (with_reducible repeat (first | apply Kd.R_alloc | apply Kd.R_drewN | apply Kd.R_drew)); exact HO214.out), (by (with_reducible repeat (first | refine blk_drewN ?_ _ | refine blk_drew ?_ | refine blk_alloc ?_ _)); exact BK210.out), (by (with_reducible repeat (first | refine blk_drewN ?_ _ | refine blk_drew ?_ | refine blk_alloc ?_ _)); exact BK211.out), (by repeat (first | (with_reducible first | exact HB.out | apply below_alloc | apply pw_below_drewN | apply below_drew1 | refine below_set ?_ GE210.out | refine below_set ?_ GE211.out) | exact HB.out))⟩)
                 ·skip
                  refine Kd.R_lit_step Kd.string _ 9 ?hg (N := 9) ?hd (xs := ([] : List ByteArray)) (inner := []) (ok := fun _ => True) (okp := fun _ => True) ?hr ?hp (fun _ hk => hk) trivial (Below.refl _ _) (Nat.le_refl _) (by simp) ?_; (case hd => rfl); (case hg => rfl); (case hr => first | (go_simp; done) | (go_simp; rfl)); (case hp => exact (Reps.none _ _))
                  intro v219 w8 ho9 hb hg_ hnew_
                  clear hg_ hnew_
                  (first | rw [← Ny218.out] at ho9 | (simp only [Int.reduceToNat] at ho9; rw [← Ny218.out] at ho9))
                  have n0_ := Aside0.mk (Kd.R_lower ho9 (below_size (by repeat (first | (with_reducible first | exact HB.out | apply below_alloc | apply pw_below_drewN | apply below_drew1 | refine below_set ?_ GE210.out | refine below_set ?_ GE211.out) | exact HB.out))))
                  have n1_ := Aside0.mk (blk_below (g := gb210) (o := .cells #[.int .i64 a0_0, .slice A0_1 l0_1.length c0_1, .slice A0_2 l0_2.length c0_2, .slice A0_3 l0_3.length c0_3] 26 (0, 0)) (by (with_reducible repeat (first | refine blk_drewN ?_ _ | refine blk_drew ?_ | refine blk_alloc ?_ _)); exact BK210.out) hb)
                  have n2_ := Aside0.mk (blk_below (g := gb211) (o := .cells #[.int .i64 0, .slice none 0 0, .slice none 0 0, .slice none 0 0] 26 (0, 0)) (by (with_reducible repeat (first | refine blk_drewN ?_ _ | refine blk_drew ?_ | refine blk_alloc ?_ _)); exact BK211.out) hb)
                  have n3_ := Aside0.mk (below_step (by repeat (first | (with_reducible first | exact HB.out | apply below_alloc | apply pw_below_drewN | apply below_drew1 | refine below_set ?_ GE210.out | refine below_set ?_ GE211.out) | exact HB.out)) hb)
                  clear BK210
                  clear BK211
                  clear HB
                  have HO220 := n0_
                  have BK210 := n1_
                  have BK211 := n2_
                  have HB := n3_
                  clear n0_ n1_ n2_ n3_
                  clear hb ho9
                  refine hK.out _ _ ⟨(blk_cell BK210.out 0).trans rfl, (blk_cell BK210.out 1).trans rfl, (blk_cell BK210.out 2).trans rfl, (blk_cell BK210.out 3).trans rfl⟩ (fun hHeld => ?_)
                  clear hK K
                  refine norm_ (a' := ?_) ?_ ?_
                  rotate_left
                  ·show Act.put _ (some 9) _ = _
                   simp only [Act.put, List.setIfInBounds_toArray, List.set_cons_zero, List.set_cons_succ, i64_w, i32_w]
                   rfl
                  exact norm_ (by first | (simp only [putAll, Act.put, List.setIfInBounds_toArray, List.set_cons_zero, List.set_cons_succ]; done) | (simp only [putAll, Act.put, List.setIfInBounds_toArray, List.set_cons_zero, List.set_cons_succ]; rfl)) (hJ6 (v219) _ ⟨hHeld, (by (with_reducible repeat (first | apply Kd.R_alloc | apply Kd.R_drewN | apply Kd.R_drew)); exact HO220.out), (by (with_reducible repeat (first | refine blk_drewN ?_ _ | refine blk_drew ?_ | refine blk_alloc ?_ _)); exact BK210.out), (by (with_reducible repeat (first | refine blk_drewN ?_ _ | refine blk_drew ?_ | refine blk_alloc ?_ _)); exact BK211.out), (by repeat (first | (with_reducible first | exact HB.out | apply below_alloc | apply pw_below_drewN | apply below_drew1 | refine below_set ?_ GE210.out | refine below_set ?_ GE211.out) | exact HB.out))⟩)
                 ·skip
                  refine Kd.R_lit_step (Kd.int .i64) _ 3 ?hg (N := 13) ?hd (xs := ([] : List Int)) (inner := []) (ok := fun _ => True) (okp := fun _ => True) ?hr ?hp (fun _ hk => hk) trivial (Below.refl _ _) (Nat.le_refl _) (by simp) ?_; (case hd => rfl); (case hg => rfl); (case hr => first | (go_simp; done) | (go_simp; rfl)); (case hp => exact (Reps.none _ _))
                  intro v225 w8 ho9 hb hg_ hnew_
                  clear hg_ hnew_
                  (first | rw [← Ny224.out] at ho9 | (simp only [Int.reduceToNat] at ho9; rw [← Ny224.out] at ho9))
                  have n0_ := Aside0.mk (Kd.R_lower ho9 (below_size (by repeat (first | (with_reducible first | exact HB.out | apply below_alloc | apply pw_below_drewN | apply below_drew1 | refine below_set ?_ GE210.out | refine below_set ?_ GE211.out) | exact HB.out))))
                  have n1_ := Aside0.mk (blk_below (g := gb210) (o := .cells #[.int .i64 a0_0, .slice A0_1 l0_1.length c0_1, .slice A0_2 l0_2.length c0_2, .slice A0_3 l0_3.length c0_3] 26 (0, 0)) (by (with_reducible repeat (first | refine blk_drewN ?_ _ | refine blk_drew ?_ | refine blk_alloc ?_ _)); exact BK210.out) hb)
                  have n2_ := Aside0.mk (blk_below (g := gb211) (o := .cells #[.int .i64 0, .slice none 0 0, .slice none 0 0, .slice none 0 0] 26 (0, 0)) (by (with_reducible repeat (first | refine blk_drewN ?_ _ | refine blk_drew ?_ | refine blk_alloc ?_ _)); exact BK211.out) hb)
                  have n3_ := Aside0.mk (below_step (by repeat (first | (with_reducible first | exact HB.out | apply below_alloc | apply pw_below_drewN | apply below_drew1 | refine below_set ?_ GE210.out | refine below_set ?_ GE211.out) | exact HB.out)) hb)
                  clear BK210
                  clear BK211
                  clear HB
                  have HO226 := n0_
                  have BK210 := n1_
                  have BK211 := n2_
                  have HB := n3_
                  clear n0_ n1_ n2_ n3_
                  clear hb ho9
                  refine hK.out _ _ ⟨(blk_cell BK210.out 0).trans rfl, (blk_cell BK210.out 1).trans rfl, (blk_cell BK210.out 2).trans rfl, (blk_cell BK210.out 3).trans rfl⟩ (fun hHeld => ?_)
                  clear hK K
                  refine norm_ (a' := ?_) ?_ ?_
                  rotate_left
                  ·show Act.put _ (some 13) _ = _
                   simp only [Act.put, List.setIfInBounds_toArray, List.set_cons_zero, List.set_cons_succ, i64_w, i32_w]
                   rfl
                  exact norm_ (by first | (simp only [putAll, Act.put, List.setIfInBounds_toArray, List.set_cons_zero, List.set_cons_succ]; done) | (simp only [putAll, Act.put, List.setIfInBounds_toArray, List.set_cons_zero, List.set_cons_succ]; rfl)) (hJ10 (v225) _ ⟨hHeld, (by (with_reducible repeat (first | apply Kd.R_alloc | apply Kd.R_drewN | apply Kd.R_drew)); exact HO226.out), (by (with_reducible repeat (first | refine blk_drewN ?_ _ | refine blk_drew ?_ | refine blk_alloc ?_ _)); exact BK210.out), (by (with_reducible repeat (first | refine blk_drewN ?_ _ | refine blk_drew ?_ | refine blk_alloc ?_ _)); exact BK211.out), (by repeat (first | (with_reducible first | exact HB.out | apply below_alloc | apply pw_below_drewN | apply below_drew1 | refine below_set ?_ GE210.out | refine below_set ?_ GE211.out) | exact HB.out))⟩)
                ·skip
                 rintro v225 w10 ⟨hS_, h0_, h1_, h2_, h3_⟩
                 have n0_ : Aside0 (Kd.R (Kd.int .i64) 3 w10 w.heap.size (fun _ => True) v225 y224) := ⟨h0_⟩
                 have n1_ : Aside0 (w10.heap[gb210]? = some (.cells #[.int .i64 a0_0, .slice A0_1 l0_1.length c0_1, .slice A0_2 l0_2.length c0_2, .slice A0_3 l0_3.length c0_3] 26 (0, 0))) := ⟨h1_⟩
                 have n2_ : Aside0 (w10.heap[gb211]? = some (.cells #[.int .i64 0, .slice none 0 0, .slice none 0 0, .slice none 0 0] 26 (0, 0))) := ⟨h2_⟩
                 have n3_ : Aside0 (Below w.heap.size w w10) := ⟨h3_⟩
                 clear BK210
                 clear BK211
                 clear HB
                 clear h0_ h1_ h2_ h3_
                 have HO226 := n0_
                 have BK210 := n1_
                 have BK211 := n2_
                 have HB := n3_
                 clear n0_ n1_ n2_ n3_
                 have hHeld : w10.cell? ⟨gb210, 0, none⟩ = some (.int .i64 a0_0) ∧ w10.cell? ⟨gb210, 1, none⟩ = some (.slice A0_1 l0_1.length c0_1) ∧ w10.cell? ⟨gb210, 2, none⟩ = some (.slice A0_2 l0_2.length c0_2) ∧ w10.cell? ⟨gb210, 3, none⟩ = some (.slice A0_3 l0_3.length c0_3) := hS_
                 refine norm_ (a' := ?_) ?_ ?_
                 rotate_left
                 ·simp only [putAll, Act.put, List.setIfInBounds_toArray, List.set_cons_zero, List.set_cons_succ]
                  rfl
                 refine two_ (i := 2) (j := 6) (Ni := some 5) (Nj := some 9) #[true, true, true, true, true, false, false, true, true, false, true, true, true, false, false, false] #[true, true, false, true, true, false, true, true, true, false, true, true, true, false, false, false] rfl rfl rfl rfl (two_of HT_.out (by kernel_rfl)) (by decide) (by decide) (fun K hK => ?_) (fun K hK => ?_)
                 ·skip
                  refine Kd.R_lit_step (Kd.int .i64) _ 2 ?hg (N := 5) ?hd (xs := ([] : List Int)) (inner := []) (ok := fun _ => True) (okp := fun _ => True) ?hr ?hp (fun _ hk => hk) trivial (Below.refl _ _) (Nat.le_refl _) (by simp) ?_; (case hd => rfl); (case hg => rfl); (case hr => first | (go_simp; done) | (go_simp; rfl)); (case hp => exact (Reps.none _ _))
                  intro v213 w11 ho12 hb hg_ hnew_
                  clear hg_ hnew_
                  (first | rw [← Ny212.out] at ho12 | (simp only [Int.reduceToNat] at ho12; rw [← Ny212.out] at ho12))
                  have n0_ := Aside0.mk (Kd.R_below (by (with_reducible repeat (first | apply Kd.R_alloc | apply Kd.R_drewN | apply Kd.R_drew)); exact HO226.out) hb)
                  have n1_ := Aside0.mk (Kd.R_lower ho12 (below_size (by repeat (first | (with_reducible first | exact HB.out | apply below_alloc | apply pw_below_drewN | apply below_drew1 | refine below_set ?_ GE210.out | refine below_set ?_ GE211.out) | exact HB.out))))
                  have n2_ := Aside0.mk (blk_below (g := gb210) (o := .cells #[.int .i64 a0_0, .slice A0_1 l0_1.length c0_1, .slice A0_2 l0_2.length c0_2, .slice A0_3 l0_3.length c0_3] 26 (0, 0)) (by (with_reducible repeat (first | refine blk_drewN ?_ _ | refine blk_drew ?_ | refine blk_alloc ?_ _)); exact BK210.out) hb)
                  have n3_ := Aside0.mk (blk_below (g := gb211) (o := .cells #[.int .i64 0, .slice none 0 0, .slice none 0 0, .slice none 0 0] 26 (0, 0)) (by (with_reducible repeat (first | refine blk_drewN ?_ _ | refine blk_drew ?_ | refine blk_alloc ?_ _)); exact BK211.out) hb)
                  have n4_ := Aside0.mk (below_step (by repeat (first | (with_reducible first | exact HB.out | apply below_alloc | apply pw_below_drewN | apply below_drew1 | refine below_set ?_ GE210.out | refine below_set ?_ GE211.out) | exact HB.out)) hb)
                  clear HO226
                  clear BK210
                  clear BK211
                  clear HB
                  have HO226 := n0_
                  have HO214 := n1_
                  have BK210 := n2_
                  have BK211 := n3_
                  have HB := n4_
                  clear n0_ n1_ n2_ n3_ n4_
                  clear hb ho12
                  refine hK.out _ _ ⟨(blk_cell BK210.out 0).trans rfl, (blk_cell BK210.out 1).trans rfl, (blk_cell BK210.out 2).trans rfl, (blk_cell BK210.out 3).trans rfl⟩ (fun hHeld => ?_)
                  clear hK K
                  refine norm_ (a' := ?_) ?_ ?_
                  rotate_left
                  ·show Act.put _ (some 5) _ = _
                   simp only [Act.put, List.setIfInBounds_toArray, List.set_cons_zero, List.set_cons_succ, i64_w, i32_w]
                   rfl
                  exact norm_ (by first | (simp only [putAll, Act.put, List.setIfInBounds_toArray, List.set_cons_zero, List.set_cons_succ]; done) | (simp only [putAll, Act.put, List.setIfInBounds_toArray, List.set_cons_zero, List.set_cons_succ]; rfl)) (hJ2_10 (v213, v225) _ ⟨hHeld, (by (with_reducible repeat (first | apply Kd.R_alloc | apply Kd.R_drewN | apply Kd.R_drew)); exact HO214.out), (by (with_reducible repeat (first | apply Kd.R_alloc | apply Kd.R_drewN | apply Kd.R_drew)); exact HO226.out), (by (with_reducible repeat (first | refine blk_drewN ?_ _ | refine blk_drew ?_ | refine blk_alloc ?_ _)); exact BK210.out), (by (with_reducible repeat (first | refine blk_drewN ?_ _ | refine blk_drew ?_ | refine blk_alloc ?_ _)); exact BK211.out), (by repeat (first | (with_reducible first | exact HB.out | apply below_alloc | apply pw_below_drewN | apply below_drew1 | refine below_set ?_ GE210.out | refine below_set ?_ GE211.out) | exact HB.out))⟩)
                 ·skip
                  refine Kd.R_lit_step Kd.string _ 9 ?hg (N := 9) ?hd (xs := ([] : List ByteArray)) (inner := []) (ok := fun _ => True) (okp := fun _ => True) ?hr ?hp (fun _ hk => hk) trivial (Below.refl _ _) (Nat.le_refl _) (by simp) ?_; (case hd => rfl); (case hg => rfl); (case hr => first | (go_simp; done) | (go_simp; rfl)); (case hp => exact (Reps.none _ _))
                  intro v219 w11 ho12 hb hg_ hnew_
                  clear hg_ hnew_
                  (first | rw [← Ny218.out] at ho12 | (simp only [Int.reduceToNat] at ho12; rw [← Ny218.out] at ho12))
                  have n0_ := Aside0.mk (Kd.R_below (by (with_reducible repeat (first | apply Kd.R_alloc | apply Kd.R_drewN | apply Kd.R_drew)); exact HO226.out) hb)
                  have n1_ := Aside0.mk (Kd.R_lower ho12 (below_size (by repeat (first | (with_reducible first | exact HB.out | apply below_alloc | apply pw_below_drewN | apply below_drew1 | refine below_set ?_ GE210.out | refine below_set ?_ GE211.out) | exact HB.out))))
                  have n2_ := Aside0.mk (blk_below (g := gb210) (o := .cells #[.int .i64 a0_0, .slice A0_1 l0_1.length c0_1, .slice A0_2 l0_2.length c0_2, .slice A0_3 l0_3.length c0_3] 26 (0, 0)) (by (with_reducible repeat (first | refine blk_drewN ?_ _ | refine blk_drew ?_ | refine blk_alloc ?_ _)); exact BK210.out) hb)
                  have n3_ := Aside0.mk (blk_below (g := gb211) (o := .cells #[.int .i64 0, .slice none 0 0, .slice none 0 0, .slice none 0 0] 26 (0, 0)) (by (with_reducible repeat (first | refine blk_drewN ?_ _ | refine blk_drew ?_ | refine blk_alloc ?_ _)); exact BK211.out) hb)
                  have n4_ := Aside0.mk (below_step (by repeat (first | (with_reducible first | exact HB.out | apply below_alloc | apply pw_below_drewN | apply below_drew1 | refine below_set ?_ GE210.out | refine below_set ?_ GE211.out) | exact HB.out)) hb)
                  clear HO226
                  clear BK210
                  clear BK211
                  clear HB
                  have HO226 := n0_
                  have HO220 := n1_
                  have BK210 := n2_
                  have BK211 := n3_
                  have HB := n4_
                  clear n0_ n1_ n2_ n3_ n4_
                  clear hb ho12
                  refine hK.out _ _ ⟨(blk_cell BK210.out 0).trans rfl, (blk_cell BK210.out 1).trans rfl, (blk_cell BK210.out 2).trans rfl, (blk_cell BK210.out 3).trans rfl⟩ (fun hHeld => ?_)
                  clear hK K
                  refine norm_ (a' := ?_) ?_ ?_
                  rotate_left
                  ·show Act.put _ (some 9) _ = _
                   simp only [Act.put, List.setIfInBounds_toArray, List.set_cons_zero, List.set_cons_succ, i64_w, i32_w]
                   rfl
                  exact norm_ (by first | (simp only [putAll, Act.put, List.setIfInBounds_toArray, List.set_cons_zero, List.set_cons_succ]; done) | (simp only [putAll, Act.put, List.setIfInBounds_toArray, List.set_cons_zero, List.set_cons_succ]; rfl)) (hJ6_10 (v219, v225) _ ⟨hHeld, (by (with_reducible repeat (first | apply Kd.R_alloc | apply Kd.R_drewN | apply Kd.R_drew)); exact HO220.out), (by (with_reducible repeat (first | apply Kd.R_alloc | apply Kd.R_drewN | apply Kd.R_drew)); exact HO226.out), (by (with_reducible repeat (first | refine blk_drewN ?_ _ | refine blk_drew ?_ | refine blk_alloc ?_ _)); exact BK210.out), (by (with_reducible repeat (first | refine blk_drewN ?_ _ | refine blk_drew ?_ | refine blk_alloc ?_ _)); exact BK211.out), (by repeat (first | (with_reducible first | exact HB.out | apply below_alloc | apply pw_below_drewN | apply below_drew1 | refine below_set ?_ GE210.out | refine below_set ?_ GE211.out) | exact HB.out))⟩)
               ·skip
                rintro v219 w10 ⟨hS_, h0_, h1_, h2_, h3_⟩
                have n0_ : Aside0 (Kd.R Kd.string 9 w10 w.heap.size (fun _ => True) v219 y218) := ⟨h0_⟩
                have n1_ : Aside0 (w10.heap[gb210]? = some (.cells #[.int .i64 a0_0, .slice A0_1 l0_1.length c0_1, .slice A0_2 l0_2.length c0_2, .slice A0_3 l0_3.length c0_3] 26 (0, 0))) := ⟨h1_⟩
                have n2_ : Aside0 (w10.heap[gb211]? = some (.cells #[.int .i64 0, .slice none 0 0, .slice none 0 0, .slice none 0 0] 26 (0, 0))) := ⟨h2_⟩
                have n3_ : Aside0 (Below w.heap.size w w10) := ⟨h3_⟩
                clear BK210
                clear BK211
                clear HB
                clear h0_ h1_ h2_ h3_
                have HO220 := n0_
                have BK210 := n1_
                have BK211 := n2_
                have HB := n3_
                clear n0_ n1_ n2_ n3_
                have hHeld : w10.cell? ⟨gb210, 0, none⟩ = some (.int .i64 a0_0) ∧ w10.cell? ⟨gb210, 1, none⟩ = some (.slice A0_1 l0_1.length c0_1) ∧ w10.cell? ⟨gb210, 2, none⟩ = some (.slice A0_2 l0_2.length c0_2) ∧ w10.cell? ⟨gb210, 3, none⟩ = some (.slice A0_3 l0_3.length c0_3) := hS_
                refine norm_ (a' := ?_) ?_ ?_
                rotate_left
                ·simp only [putAll, Act.put, List.setIfInBounds_toArray, List.set_cons_zero, List.set_cons_succ]
                 rfl
                refine two_ (i := 2) (j := 10) (Ni := some 5) (Nj := some 13) #[true, true, true, true, true, false, true, true, true, false, false, true, true, false, false, false] #[true, true, false, true, true, false, true, true, true, false, true, true, true, false, false, false] rfl rfl rfl rfl (two_of HT_.out (by kernel_rfl)) (by decide) (by decide) (fun K hK => ?_) (fun K hK => ?_)
                ·skip
                 refine Kd.R_lit_step (Kd.int .i64) _ 2 ?hg (N := 5) ?hd (xs := ([] : List Int)) (inner := []) (ok := fun _ => True) (okp := fun _ => True) ?hr ?hp (fun _ hk => hk) trivial (Below.refl _ _) (Nat.le_refl _) (by simp) ?_; (case hd => rfl); (case hg => rfl); (case hr => first | (go_simp; done) | (go_simp; rfl)); (case hp => exact (Reps.none _ _))
                 intro v213 w11 ho12 hb hg_ hnew_
                 clear hg_ hnew_
                 (first | rw [← Ny212.out] at ho12 | (simp only [Int.reduceToNat] at ho12; rw [← Ny212.out] at ho12))
                 have n0_ := Aside0.mk (Kd.R_below (by (with_reducible repeat (first | apply Kd.R_alloc | apply Kd.R_drewN | apply Kd.R_drew)); exact HO220.out) hb)
                 have n1_ := Aside0.mk (Kd.R_lower ho12 (below_size (by repeat (first | (with_reducible first | exact HB.out | apply below_alloc | apply pw_below_drewN | apply below_drew1 | refine below_set ?_ GE210.out | refine below_set ?_ GE211.out) | exact HB.out))))
                 have n2_ := Aside0.mk (blk_below (g := gb210) (o := .cells #[.int .i64 a0_0, .slice A0_1 l0_1.length c0_1, .slice A0_2 l0_2.length c0_2, .slice A0_3 l0_3.length c0_3] 26 (0, 0)) (by (with_reducible repeat (first | refine blk_drewN ?_ _ | refine blk_drew ?_ | refine blk_alloc ?_ _)); exact BK210.out) hb)
                 have n3_ := Aside0.mk (blk_below (g := gb211) (o := .cells #[.int .i64 0, .slice none 0 0, .slice none 0 0, .slice none 0 0] 26 (0, 0)) (by (with_reducible repeat (first | refine blk_drewN ?_ _ | refine blk_drew ?_ | refine blk_alloc ?_ _)); exact BK211.out) hb)
                 have n4_ := Aside0.mk (below_step (by repeat (first | (with_reducible first | exact HB.out | apply below_alloc | apply pw_below_drewN | apply below_drew1 | refine below_set ?_ GE210.out | refine below_set ?_ GE211.out) | exact HB.out)) hb)
                 clear HO220
                 clear BK210
                 clear BK211
                 clear HB
                 have HO220 := n0_
                 have HO214 := n1_
                 have BK210 := n2_
                 have BK211 := n3_
                 have HB := n4_
                 clear n0_ n1_ n2_ n3_ n4_
                 clear hb ho12
                 refine hK.out _ _ ⟨(blk_cell BK210.out 0).trans rfl, (blk_cell BK210.out 1).trans rfl, (blk_cell BK210.out 2).trans rfl, (blk_cell BK210.out 3).trans rfl⟩ (fun hHeld => ?_)
                 clear hK K
                 refine norm_ (a' := ?_) ?_ ?_
                 rotate_left
                 ·show Act.put _ (some 5) _ = _
                  simp only [Act.put, List.setIfInBounds_toArray, List.set_cons_zero, List.set_cons_succ, i64_w, i32_w]
                  rfl
                 exact norm_ (by first | (simp only [putAll, Act.put, List.setIfInBounds_toArray, List.set_cons_zero, List.set_cons_succ]; done) | (simp only [putAll, Act.put, List.setIfInBounds_toArray, List.set_cons_zero, List.set_cons_succ]; rfl)) (hJ2_6 (v213, v219) _ ⟨hHeld, (by (with_reducible repeat (first | apply Kd.R_alloc | apply Kd.R_drewN | apply Kd.R_drew)); exact HO214.out), (by (with_reducible repeat (first | apply Kd.R_alloc | apply Kd.R_drewN | apply Kd.R_drew)); exact HO220.out), (by (with_reducible repeat (first | refine blk_drewN ?_ _ | refine blk_drew ?_ | refine blk_alloc ?_ _)); exact BK210.out), (by (with_reducible repeat (first | refine blk_drewN ?_ _ | refine blk_drew ?_ | refine blk_alloc ?_ _)); exact BK211.out), (by repeat (first | (with_reducible first | exact HB.out | apply below_alloc | apply pw_below_drewN | apply below_drew1 | refine below_set ?_ GE210.out | refine below_set ?_ GE211.out) | exact HB.out))⟩)
                ·skip
                 refine Kd.R_lit_step (Kd.int .i64) _ 3 ?hg (N := 13) ?hd (xs := ([] : List Int)) (inner := []) (ok := fun _ => True) (okp := fun _ => True) ?hr ?hp (fun _ hk => hk) trivial (Below.refl _ _) (Nat.le_refl _) (by simp) ?_; (case hd => rfl); (case hg => rfl); (case hr => first | (go_simp; done) | (go_simp; rfl)); (case hp => exact (Reps.none _ _))
                 intro v225 w11 ho12 hb hg_ hnew_
                 clear hg_ hnew_
                 (first | rw [← Ny224.out] at ho12 | (simp only [Int.reduceToNat] at ho12; rw [← Ny224.out] at ho12))
                 have n0_ := Aside0.mk (Kd.R_below (by (with_reducible repeat (first | apply Kd.R_alloc | apply Kd.R_drewN | apply Kd.R_drew)); exact HO220.out) hb)
                 have n1_ := Aside0.mk (Kd.R_lower ho12 (below_size (by repeat (first | (with_reducible first | exact HB.out | apply below_alloc | apply pw_below_drewN | apply below_drew1 | refine below_set ?_ GE210.out | refine below_set ?_ GE211.out) | exact HB.out))))
                 have n2_ := Aside0.mk (blk_below (g := gb210) (o := .cells #[.int .i64 a0_0, .slice A0_1 l0_1.length c0_1, .slice A0_2 l0_2.length c0_2, .slice A0_3 l0_3.length c0_3] 26 (0, 0)) (by (with_reducible repeat (first | refine blk_drewN ?_ _ | refine blk_drew ?_ | refine blk_alloc ?_ _)); exact BK210.out) hb)
                 have n3_ := Aside0.mk (blk_below (g := gb211) (o := .cells #[.int .i64 0, .slice none 0 0, .slice none 0 0, .slice none 0 0] 26 (0, 0)) (by (with_reducible repeat (first | refine blk_drewN ?_ _ | refine blk_drew ?_ | refine blk_alloc ?_ _)); exact BK211.out) hb)
                 have n4_ := Aside0.mk (below_step (by repeat (first | (with_reducible first | exact HB.out | apply below_alloc | apply pw_below_drewN | apply below_drew1 | refine below_set ?_ GE210.out | refine below_set ?_ GE211.out) | exact HB.out)) hb)
                 clear HO220
                 clear BK210
                 clear BK211
                 clear HB
                 have HO220 := n0_
                 have HO226 := n1_
                 have BK210 := n2_
                 have BK211 := n3_
                 have HB := n4_
                 clear n0_ n1_ n2_ n3_ n4_
                 clear hb ho12
                 refine hK.out _ _ ⟨(blk_cell BK210.out 0).trans rfl, (blk_cell BK210.out 1).trans rfl, (blk_cell BK210.out 2).trans rfl, (blk_cell BK210.out 3).trans rfl⟩ (fun hHeld => ?_)
                 clear hK K
                 refine norm_ (a' := ?_) ?_ ?_
                 rotate_left
                 ·show Act.put _ (some 13) _ = _
                  simp only [Act.put, List.setIfInBounds_toArray, List.set_cons_zero, List.set_cons_succ, i64_w, i32_w]
                  rfl
                 exact norm_ (by first | (simp only [putAll, Act.put, List.setIfInBounds_toArray, List.set_cons_zero, List.set_cons_succ]; done) | (simp only [putAll, Act.put, List.setIfInBounds_toArray, List.set_cons_zero, List.set_cons_succ]; rfl)) (hJ6_10 (v219, v225) _ ⟨hHeld, (by (with_reducible repeat (first | apply Kd.R_alloc | apply Kd.R_drewN | apply Kd.R_drew)); exact HO220.out), (by (with_reducible repeat (first | apply Kd.R_alloc | apply Kd.R_drewN | apply Kd.R_drew)); exact HO226.out), (by (with_reducible repeat (first | refine blk_drewN ?_ _ | refine blk_drew ?_ | refine blk_alloc ?_ _)); exact BK210.out), (by (with_reducible repeat (first | refine blk_drewN ?_ _ | refine blk_drew ?_ | refine blk_alloc ?_ _)); exact BK211.out), (by repeat (first | (with_reducible first | exact HB.out | apply below_alloc | apply pw_below_drewN | apply below_drew1 | refine below_set ?_ GE210.out | refine below_set ?_ GE211.out) | exact HB.out))⟩)
              ·skip
               rintro v213 w10 ⟨hS_, h0_, h1_, h2_, h3_⟩
               have n0_ : Aside0 (Kd.R (Kd.int .i64) 2 w10 w.heap.size (fun _ => True) v213 y212) := ⟨h0_⟩
               have n1_ : Aside0 (w10.heap[gb210]? = some (.cells #[.int .i64 a0_0, .slice A0_1 l0_1.length c0_1, .slice A0_2 l0_2.length c0_2, .slice A0_3 l0_3.length c0_3] 26 (0, 0))) := ⟨h1_⟩
               have n2_ : Aside0 (w10.heap[gb211]? = some (.cells #[.int .i64 0, .slice none 0 0, .slice none 0 0, .slice none 0 0] 26 (0, 0))) := ⟨h2_⟩
               have n3_ : Aside0 (Below w.heap.size w w10) := ⟨h3_⟩
               clear BK210
               clear BK211
               clear HB
               clear h0_ h1_ h2_ h3_
               have HO214 := n0_
               have BK210 := n1_
               have BK211 := n2_
               have HB := n3_
               clear n0_ n1_ n2_ n3_
               have hHeld : w10.cell? ⟨gb210, 0, none⟩ = some (.int .i64 a0_0) ∧ w10.cell? ⟨gb210, 1, none⟩ = some (.slice A0_1 l0_1.length c0_1) ∧ w10.cell? ⟨gb210, 2, none⟩ = some (.slice A0_2 l0_2.length c0_2) ∧ w10.cell? ⟨gb210, 3, none⟩ = some (.slice A0_3 l0_3.length c0_3) := hS_
               refine norm_ (a' := ?_) ?_ ?_
               rotate_left
               ·simp only [putAll, Act.put, List.setIfInBounds_toArray, List.set_cons_zero, List.set_cons_succ]
                rfl
               refine three_ (i := 5) (j := 6) (k := 10) (Ni := some 8) (Nj := some 9) (Nk := some 13) #[true, true, true, true, true, true, false, true, true, false, false, true, true, false, false, false] #[true, true, true, true, true, false, true, true, true, false, false, true, true, false, false, false] #[true, true, true, true, true, false, false, true, true, false, true, true, true, false, false, false] rfl rfl rfl rfl rfl rfl (three_of HT_.out (by kernel_rfl)) (by decide) (by decide) (by decide) (fun K hK => ?_) (fun K hK => ?_) (fun K hK => ?_)
               ·skip
                refine Kd.R_append_rows_step (Kd.int .i64) (w0 := w) w.heap.size (by rfl) (.tmp 5) (.tmp 7) 22 2 (.int .i64 0) 8 rfl Tryd.underlying22 info2 rfl (by decide) (by omega) v213 y212 l0_1 _ _ _ (fun _ => True) (fun _ => False) rfl rfl ?aO ?aR (fun _ _ h => h) (fun _ h => h.elim) ?aF ?aB ?aS ?aL ?_
                (case aR => repeat (first | exact (Kd.C_below HR0_1.out HB.out) | (with_reducible refine Kd.C_alloc ?_ _) | (with_reducible refine Kd.C_drewN ?_ _) | (with_reducible refine Kd.C_drew ?_)))
                (case aB => exact (by repeat (first | (with_reducible first | exact HB.out | apply below_alloc | apply pw_below_drewN | apply below_drew1 | refine below_set ?_ GE210.out | refine below_set ?_ GE211.out) | exact HB.out)))
                (case aF => exact (fun _ _ => trivial))
                (case aO => exact (by (with_reducible repeat (first | apply Kd.R_alloc | apply Kd.R_drewN | apply Kd.R_drew)); exact HO214.out))
                (case aS => exact (below_size (by repeat (first | (with_reducible first | exact HB.out | apply below_alloc | apply pw_below_drewN | apply below_drew1 | refine below_set ?_ GE210.out | refine below_set ?_ GE211.out) | exact HB.out))))
                (case aL => have := LMc2.out; omega)
                intro v216 w11 ho hb hg hat
                rw [← Ny215.out] at ho
                have n0_ := Aside0.mk (blk_grown (g := gb210) (o := .cells #[.int .i64 a0_0, .slice A0_1 l0_1.length c0_1, .slice A0_2 l0_2.length c0_2, .slice A0_3 l0_3.length c0_3] 26 (0, 0)) (by (with_reducible repeat (first | refine blk_drewN ?_ _ | refine blk_drew ?_ | refine blk_alloc ?_ _)); exact BK210.out) hg (Kd.R_ne HO214.out BK210.out (by decide)))
                have n1_ := Aside0.mk (blk_grown (g := gb211) (o := .cells #[.int .i64 0, .slice none 0 0, .slice none 0 0, .slice none 0 0] 26 (0, 0)) (by (with_reducible repeat (first | refine blk_drewN ?_ _ | refine blk_drew ?_ | refine blk_alloc ?_ _)); exact BK211.out) hg (Kd.R_ne HO214.out BK211.out (by decide)))
                have n2_ := Aside0.mk (hb)
                have n3_ := Aside0.mk (ho)
                clear BK210
                clear BK211
                clear HB
                clear HO214
                have BK210 := n0_
                have BK211 := n1_
                have HB := n2_
                have HO217 := n3_
                clear n0_ n1_ n2_ n3_
                clear ho hb hg hat
                refine hK.out _ _ ⟨(blk_cell BK210.out 0).trans rfl, (blk_cell BK210.out 1).trans rfl, (blk_cell BK210.out 2).trans rfl, (blk_cell BK210.out 3).trans rfl⟩ (fun hHeld => ?_)
                clear hK K
                refine norm_ (a' := ?_) ?_ ?_
                rotate_left
                ·show Act.put _ (some 8) _ = _
                 simp only [Act.put, List.setIfInBounds_toArray, List.set_cons_zero, List.set_cons_succ, i64_w, i32_w]
                 rfl
                exact norm_ (by first | (simp only [putAll, Act.put, List.setIfInBounds_toArray, List.set_cons_zero, List.set_cons_succ]; done) | (simp only [putAll, Act.put, List.setIfInBounds_toArray, List.set_cons_zero, List.set_cons_succ]; rfl)) (hJ2_5 (v213, v216) _ ⟨hHeld, (by (with_reducible repeat (first | apply Kd.R_alloc | apply Kd.R_drewN | apply Kd.R_drew)); exact HO217.out), (by (with_reducible repeat (first | refine blk_drewN ?_ _ | refine blk_drew ?_ | refine blk_alloc ?_ _)); exact BK210.out), (by (with_reducible repeat (first | refine blk_drewN ?_ _ | refine blk_drew ?_ | refine blk_alloc ?_ _)); exact BK211.out), (by repeat (first | (with_reducible first | exact HB.out | apply below_alloc | apply pw_below_drewN | apply below_drew1 | refine below_set ?_ GE210.out | refine below_set ?_ GE211.out) | exact HB.out))⟩)
               ·skip
                refine Kd.R_lit_step Kd.string _ 9 ?hg (N := 9) ?hd (xs := ([] : List ByteArray)) (inner := []) (ok := fun _ => True) (okp := fun _ => True) ?hr ?hp (fun _ hk => hk) trivial (Below.refl _ _) (Nat.le_refl _) (by simp) ?_; (case hd => rfl); (case hg => rfl); (case hr => first | (go_simp; done) | (go_simp; rfl)); (case hp => exact (Reps.none _ _))
                intro v219 w11 ho12 hb hg_ hnew_
                clear hg_ hnew_
                (first | rw [← Ny218.out] at ho12 | (simp only [Int.reduceToNat] at ho12; rw [← Ny218.out] at ho12))
                have n0_ := Aside0.mk (Kd.R_below (by (with_reducible repeat (first | apply Kd.R_alloc | apply Kd.R_drewN | apply Kd.R_drew)); exact HO214.out) hb)
                have n1_ := Aside0.mk (Kd.R_lower ho12 (below_size (by repeat (first | (with_reducible first | exact HB.out | apply below_alloc | apply pw_below_drewN | apply below_drew1 | refine below_set ?_ GE210.out | refine below_set ?_ GE211.out) | exact HB.out))))
                have n2_ := Aside0.mk (blk_below (g := gb210) (o := .cells #[.int .i64 a0_0, .slice A0_1 l0_1.length c0_1, .slice A0_2 l0_2.length c0_2, .slice A0_3 l0_3.length c0_3] 26 (0, 0)) (by (with_reducible repeat (first | refine blk_drewN ?_ _ | refine blk_drew ?_ | refine blk_alloc ?_ _)); exact BK210.out) hb)
                have n3_ := Aside0.mk (blk_below (g := gb211) (o := .cells #[.int .i64 0, .slice none 0 0, .slice none 0 0, .slice none 0 0] 26 (0, 0)) (by (with_reducible repeat (first | refine blk_drewN ?_ _ | refine blk_drew ?_ | refine blk_alloc ?_ _)); exact BK211.out) hb)
                have n4_ := Aside0.mk (below_step (by repeat (first | (with_reducible first | exact HB.out | apply below_alloc | apply pw_below_drewN | apply below_drew1 | refine below_set ?_ GE210.out | refine below_set ?_ GE211.out) | exact HB.out)) hb)
                clear HO214
                clear BK210
                clear BK211
                clear HB
                have HO214 := n0_
                have HO220 := n1_
                have BK210 := n2_
                have BK211 := n3_
                have HB := n4_
                clear n0_ n1_ n2_ n3_ n4_
                clear hb ho12
                refine hK.out _ _ ⟨(blk_cell BK210.out 0).trans rfl, (blk_cell BK210.out 1).trans rfl, (blk_cell BK210.out 2).trans rfl, (blk_cell BK210.out 3).trans rfl⟩ (fun hHeld => ?_)
                clear hK K
                refine norm_ (a' := ?_) ?_ ?_
                rotate_left
                ·show Act.put _ (some 9) _ = _
                 simp only [Act.put, List.setIfInBounds_toArray, List.set_cons_zero, List.set_cons_succ, i64_w, i32_w]
                 rfl
                exact norm_ (by first | (simp only [putAll, Act.put, List.setIfInBounds_toArray, List.set_cons_zero, List.set_cons_succ]; done) | (simp only [putAll, Act.put, List.setIfInBounds_toArray, List.set_cons_zero, List.set_cons_succ]; rfl)) (hJ2_6 (v213, v219) _ ⟨hHeld, (by (with_reducible repeat (first | apply Kd.R_alloc | apply Kd.R_drewN | apply Kd.R_drew)); exact HO214.out), (by (with_reducible repeat (first | apply Kd.R_alloc | apply Kd.R_drewN | apply Kd.R_drew)); exact HO220.out), (by (with_reducible repeat (first | refine blk_drewN ?_ _ | refine blk_drew ?_ | refine blk_alloc ?_ _)); exact BK210.out), (by (with_reducible repeat (first | refine blk_drewN ?_ _ | refine blk_drew ?_ | refine blk_alloc ?_ _)); exact BK211.out), (by repeat (first | (with_reducible first | exact HB.out | apply below_alloc | apply pw_below_drewN | apply below_drew1 | refine below_set ?_ GE210.out | refine below_set ?_ GE211.out) | exact HB.out))⟩)
               ·skip
                refine Kd.R_lit_step (Kd.int .i64) _ 3 ?hg (N := 13) ?hd (xs := ([] : List Int)) (inner := []) (ok := fun _ => True) (okp := fun _ => True) ?hr ?hp (fun _ hk => hk) trivial (Below.refl _ _) (Nat.le_refl _) (by simp) ?_; (case hd => rfl); (case hg => rfl); (case hr => first | (go_simp; done) | (go_simp; rfl)); (case hp => exact (Reps.none _ _))
                intro v225 w11 ho12 hb hg_ hnew_
                clear hg_ hnew_
                (first | rw [← Ny224.out] at ho12 | (simp only [Int.reduceToNat] at ho12; rw [← Ny224.out] at ho12))
                have n0_ := Aside0.mk (Kd.R_below (by (with_reducible repeat (first | apply Kd.R_alloc | apply Kd.R_drewN | apply Kd.R_drew)); exact HO214.out) hb)
                have n1_ := Aside0.mk (Kd.R_lower ho12 (below_size (by repeat (first | (with_reducible first | exact HB.out | apply below_alloc | apply pw_below_drewN | apply below_drew1 | refine below_set ?_ GE210.out | refine below_set ?_ GE211.out) | exact HB.out))))
                have n2_ := Aside0.mk (blk_below (g := gb210) (o := .cells #[.int .i64 a0_0, .slice A0_1 l0_1.length c0_1, .slice A0_2 l0_2.length c0_2, .slice A0_3 l0_3.length c0_3] 26 (0, 0)) (by (with_reducible repeat (first | refine blk_drewN ?_ _ | refine blk_drew ?_ | refine blk_alloc ?_ _)); exact BK210.out) hb)
                have n3_ := Aside0.mk (blk_below (g := gb211) (o := .cells #[.int .i64 0, .slice none 0 0, .slice none 0 0, .slice none 0 0] 26 (0, 0)) (by (with_reducible repeat (first | refine blk_drewN ?_ _ | refine blk_drew ?_ | refine blk_alloc ?_ _)); exact BK211.out) hb)
                have n4_ := Aside0.mk (below_step (by repeat (first | (with_reducible first | exact HB.out | apply below_alloc | apply pw_below_drewN | apply below_drew1 | refine below_set ?_ GE210.out | refine below_set ?_ GE211.out) | exact HB.out)) hb)
                clear HO214
                clear BK210
                clear BK211
                clear HB
                have HO214 := n0_
                have HO226 := n1_
                have BK210 := n2_
                have BK211 := n3_
                have HB := n4_
                clear n0_ n1_ n2_ n3_ n4_
                clear hb ho12
                refine hK.out _ _ ⟨(blk_cell BK210.out 0).trans rfl, (blk_cell BK210.out 1).trans rfl, (blk_cell BK210.out 2).trans rfl, (blk_cell BK210.out 3).trans rfl⟩ (fun hHeld => ?_)
                clear hK K
                refine norm_ (a' := ?_) ?_ ?_
                rotate_left
                ·show Act.put _ (some 13) _ = _
                 simp only [Act.put, List.setIfInBounds_toArray, List.set_cons_zero, List.set_cons_succ, i64_w, i32_w]
                 rfl
                exact norm_ (by first | (simp only [putAll, Act.put, List.setIfInBounds_toArray, List.set_cons_zero, List.set_cons_succ]; done) | (simp only [putAll, Act.put, List.setIfInBounds_toArray, List.set_cons_zero, List.set_cons_succ]; rfl)) (hJ2_10 (v213, v225) _ ⟨hHeld, (by (with_reducible repeat (first | apply Kd.R_alloc | apply Kd.R_drewN | apply Kd.R_drew)); exact HO214.out), (by (with_reducible repeat (first | apply Kd.R_alloc | apply Kd.R_drewN | apply Kd.R_drew)); exact HO226.out), (by (with_reducible repeat (first | refine blk_drewN ?_ _ | refine blk_drew ?_ | refine blk_alloc ?_ _)); exact BK210.out), (by (with_reducible repeat (first | refine blk_drewN ?_ _ | refine blk_drew ?_ | refine blk_alloc ?_ _)); exact BK211.out), (by repeat (first | (with_reducible first | exact HB.out | apply below_alloc | apply pw_below_drewN | apply below_drew1 | refine below_set ?_ GE210.out | refine below_set ?_ GE211.out) | exact HB.out))⟩)
             ·skip
              rintro ⟨v219, v225⟩ w12 ⟨hS_, h0_, h1_, h2_, h3_, h4_⟩
              have n0_ : Aside0 (Kd.R Kd.string 9 w12 w.heap.size (fun _ => True) v219 y218) := ⟨h0_⟩
              have n1_ : Aside0 (Kd.R (Kd.int .i64) 3 w12 w.heap.size (fun _ => True) v225 y224) := ⟨h1_⟩
              have n2_ : Aside0 (w12.heap[gb210]? = some (.cells #[.int .i64 a0_0, .slice A0_1 l0_1.length c0_1, .slice A0_2 l0_2.length c0_2, .slice A0_3 l0_3.length c0_3] 26 (0, 0))) := ⟨h2_⟩
              have n3_ : Aside0 (w12.heap[gb211]? = some (.cells #[.int .i64 0, .slice none 0 0, .slice none 0 0, .slice none 0 0] 26 (0, 0))) := ⟨h3_⟩
              have n4_ : Aside0 (Below w.heap.size w w12) := ⟨h4_⟩
              clear BK210
              clear BK211
              clear HB
              clear h0_ h1_ h2_ h3_ h4_
              have HO220 := n0_
              have HO226 := n1_
              have BK210 := n2_
              have BK211 := n3_
              have HB := n4_
              clear n0_ n1_ n2_ n3_ n4_
              have hHeld : w12.cell? ⟨gb210, 0, none⟩ = some (.int .i64 a0_0) ∧ w12.cell? ⟨gb210, 1, none⟩ = some (.slice A0_1 l0_1.length c0_1) ∧ w12.cell? ⟨gb210, 2, none⟩ = some (.slice A0_2 l0_2.length c0_2) ∧ w12.cell? ⟨gb210, 3, none⟩ = some (.slice A0_3 l0_3.length c0_3) := hS_
              refine norm_ (a' := ?_) ?_ ?_
              rotate_left
              ·simp only [putAll, Act.put, List.setIfInBounds_toArray, List.set_cons_zero, List.set_cons_succ]
               rfl
              refine one_ (i := 2) (N := some 5) #[true, true, true, true, true, false, true, true, true, false, true, true, true, false, false, false] rfl rfl (one_of HT_.out (by kernel_rfl)) (by decide) (fun K hK => ?_)
              refine Kd.R_lit_step (Kd.int .i64) _ 2 ?hg (N := 5) ?hd (xs := ([] : List Int)) (inner := []) (ok := fun _ => True) (okp := fun _ => True) ?hr ?hp (fun _ hk => hk) trivial (Below.refl _ _) (Nat.le_refl _) (by simp) ?_; (case hd => rfl); (case hg => rfl); (case hr => first | (go_simp; done) | (go_simp; rfl)); (case hp => exact (Reps.none _ _))
              intro v213 w13 ho14 hb hg_ hnew_
              clear hg_ hnew_
              (first | rw [← Ny212.out] at ho14 | (simp only [Int.reduceToNat] at ho14; rw [← Ny212.out] at ho14))
              have n0_ := Aside0.mk (Kd.R_below (by (with_reducible repeat (first | apply Kd.R_alloc | apply Kd.R_drewN | apply Kd.R_drew)); exact HO220.out) hb)
              have n1_ := Aside0.mk (Kd.R_below (by (with_reducible repeat (first | apply Kd.R_alloc | apply Kd.R_drewN | apply Kd.R_drew)); exact HO226.out) hb)
              have n2_ := Aside0.mk (Kd.R_lower ho14 (below_size (by repeat (first | (with_reducible first | exact HB.out | apply below_alloc | apply pw_below_drewN | apply below_drew1 | refine below_set ?_ GE210.out | refine below_set ?_ GE211.out) | exact HB.out))))
              have n3_ := Aside0.mk (blk_below (g := gb210) (o := .cells #[.int .i64 a0_0, .slice A0_1 l0_1.length c0_1, .slice A0_2 l0_2.length c0_2, .slice A0_3 l0_3.length c0_3] 26 (0, 0)) (by (with_reducible repeat (first | refine blk_drewN ?_ _ | refine blk_drew ?_ | refine blk_alloc ?_ _)); exact BK210.out) hb)
              have n4_ := Aside0.mk (blk_below (g := gb211) (o := .cells #[.int .i64 0, .slice none 0 0, .slice none 0 0, .slice none 0 0] 26 (0, 0)) (by (with_reducible repeat (first | refine blk_drewN ?_ _ | refine blk_drew ?_ | refine blk_alloc ?_ _)); exact BK211.out) hb)
              have n5_ := Aside0.mk (below_step (by repeat (first | (with_reducible first | exact HB.out | apply below_alloc | apply pw_below_drewN | apply below_drew1 | refine below_set ?_ GE210.out | refine below_set ?_ GE211.out) | exact HB.out)) hb)
              clear HO220
              clear HO226
              clear BK210
              clear BK211
              clear HB
              have HO220 := n0_
              have HO226 := n1_
              have HO214 := n2_
              have BK210 := n3_
              have BK211 := n4_
              have HB := n5_
              clear n0_ n1_ n2_ n3_ n4_ n5_
              clear hb ho14
              refine hK.out _ _ ⟨(blk_cell BK210.out 0).trans rfl, (blk_cell BK210.out 1).trans rfl, (blk_cell BK210.out 2).trans rfl, (blk_cell BK210.out 3).trans rfl⟩ (fun hHeld => ?_)
              clear hK K
              refine norm_ (a' := ?_) ?_ ?_
              rotate_left
              ·show Act.put _ (some 5) _ = _
               simp only [Act.put, List.setIfInBounds_toArray, List.set_cons_zero, List.set_cons_succ, i64_w, i32_w]
               rfl
              exact norm_ (by first | (simp only [putAll, Act.put, List.setIfInBounds_toArray, List.set_cons_zero, List.set_cons_succ]; done) | (simp only [putAll, Act.put, List.setIfInBounds_toArray, List.set_cons_zero, List.set_cons_succ]; rfl)) (hJ2_6_10 (v213, v219, v225) _ ⟨hHeld, (by (with_reducible repeat (first | apply Kd.R_alloc | apply Kd.R_drewN | apply Kd.R_drew)); exact HO214.out), (by (with_reducible repeat (first | apply Kd.R_alloc | apply Kd.R_drewN | apply Kd.R_drew)); exact HO220.out), (by (with_reducible repeat (first | apply Kd.R_alloc | apply Kd.R_drewN | apply Kd.R_drew)); exact HO226.out), (by (with_reducible repeat (first | refine blk_drewN ?_ _ | refine blk_drew ?_ | refine blk_alloc ?_ _)); exact BK210.out), (by (with_reducible repeat (first | refine blk_drewN ?_ _ | refine blk_drew ?_ | refine blk_alloc ?_ _)); exact BK211.out), (by repeat (first | (with_reducible first | exact HB.out | apply below_alloc | apply pw_below_drewN | apply below_drew1 | refine below_set ?_ GE210.out | refine below_set ?_ GE211.out) | exact HB.out))⟩)
            ·skip
             rintro ⟨v213, v225⟩ w12 ⟨hS_, h0_, h1_, h2_, h3_, h4_⟩
             have n0_ : Aside0 (Kd.R (Kd.int .i64) 2 w12 w.heap.size (fun _ => True) v213 y212) := ⟨h0_⟩
             have n1_ : Aside0 (Kd.R (Kd.int .i64) 3 w12 w.heap.size (fun _ => True) v225 y224) := ⟨h1_⟩
             have n2_ : Aside0 (w12.heap[gb210]? = some (.cells #[.int .i64 a0_0, .slice A0_1 l0_1.length c0_1, .slice A0_2 l0_2.length c0_2, .slice A0_3 l0_3.length c0_3] 26 (0, 0))) := ⟨h2_⟩
             have n3_ : Aside0 (w12.heap[gb211]? = some (.cells #[.int .i64 0, .slice none 0 0, .slice none 0 0, .slice none 0 0] 26 (0, 0))) := ⟨h3_⟩
             have n4_ : Aside0 (Below w.heap.size w w12) := ⟨h4_⟩
             clear BK210
             clear BK211
             clear HB
             clear h0_ h1_ h2_ h3_ h4_
             have HO214 := n0_
             have HO226 := n1_
             have BK210 := n2_
             have BK211 := n3_
             have HB := n4_
             clear n0_ n1_ n2_ n3_ n4_
             have hHeld : w12.cell? ⟨gb210, 0, none⟩ = some (.int .i64 a0_0) ∧ w12.cell? ⟨gb210, 1, none⟩ = some (.slice A0_1 l0_1.length c0_1) ∧ w12.cell? ⟨gb210, 2, none⟩ = some (.slice A0_2 l0_2.length c0_2) ∧ w12.cell? ⟨gb210, 3, none⟩ = some (.slice A0_3 l0_3.length c0_3) := hS_
             refine norm_ (a' := ?_) ?_ ?_
             rotate_left
             ·simp only [putAll, Act.put, List.setIfInBounds_toArray, List.set_cons_zero, List.set_cons_succ]
              rfl
             refine two_ (i := 5) (j := 6) (Ni := some 8) (Nj := some 9) #[true, true, true, true, true, true, false, true, true, false, true, true, true, false, false, false] #[true, true, true, true, true, false, true, true, true, false, true, true, true, false, false, false] rfl rfl rfl rfl (two_of HT_.out (by kernel_rfl)) (by decide) (by decide) (fun K hK => ?_) (fun K hK => ?_)
             ·skip
              refine Kd.R_append_rows_step (Kd.int .i64) (w0 := w) w.heap.size (by rfl) (.tmp 5) (.tmp 7) 22 2 (.int .i64 0) 8 rfl Tryd.underlying22 info2 rfl (by decide) (by omega) v213 y212 l0_1 _ _ _ (fun _ => True) (fun _ => False) rfl rfl ?aO ?aR (fun _ _ h => h) (fun _ h => h.elim) ?aF ?aB ?aS ?aL ?_
              (case aR => repeat (first | exact (Kd.C_below HR0_1.out HB.out) | (with_reducible refine Kd.C_alloc ?_ _) | (with_reducible refine Kd.C_drewN ?_ _) | (with_reducible refine Kd.C_drew ?_)))
              (case aB => exact (by repeat (first | (with_reducible first | exact HB.out | apply below_alloc | apply pw_below_drewN | apply below_drew1 | refine below_set ?_ GE210.out | refine below_set ?_ GE211.out) | exact HB.out)))
              (case aF => exact (fun _ _ => trivial))
              (case aO => exact (by (with_reducible repeat (first | apply Kd.R_alloc | apply Kd.R_drewN | apply Kd.R_drew)); exact HO214.out))
              (case aS => exact (below_size (by repeat (first | (with_reducible first | exact HB.out | apply below_alloc | apply pw_below_drewN | apply below_drew1 | refine below_set ?_ GE210.out | refine below_set ?_ GE211.out) | exact HB.out))))
              (case aL => have := LMc2.out; omega)
              intro v216 w13 ho hb hg hat
              rw [← Ny215.out] at ho
              have n0_ := Aside0.mk (blk_grown (g := gb210) (o := .cells #[.int .i64 a0_0, .slice A0_1 l0_1.length c0_1, .slice A0_2 l0_2.length c0_2, .slice A0_3 l0_3.length c0_3] 26 (0, 0)) (by (with_reducible repeat (first | refine blk_drewN ?_ _ | refine blk_drew ?_ | refine blk_alloc ?_ _)); exact BK210.out) hg (Kd.R_ne HO214.out BK210.out (by decide)))
              have n1_ := Aside0.mk (blk_grown (g := gb211) (o := .cells #[.int .i64 0, .slice none 0 0, .slice none 0 0, .slice none 0 0] 26 (0, 0)) (by (with_reducible repeat (first | refine blk_drewN ?_ _ | refine blk_drew ?_ | refine blk_alloc ?_ _)); exact BK211.out) hg (Kd.R_ne HO214.out BK211.out (by decide)))
              have n2_ := Aside0.mk (Kd.R_over' (by (with_reducible repeat (first | apply Kd.R_alloc | apply Kd.R_drewN | apply Kd.R_drew)); exact HO226.out) (Kd.R_typed (by (with_reducible repeat (first | apply Kd.R_alloc | apply Kd.R_drewN | apply Kd.R_drew)); exact HO214.out)) (by decide) hg)
              have n3_ := Aside0.mk (hb)
              have n4_ := Aside0.mk (ho)
              clear BK210
              clear BK211
              clear HO226
              clear HB
              clear HO214
              have BK210 := n0_
              have BK211 := n1_
              have HO226 := n2_
              have HB := n3_
              have HO217 := n4_
              clear n0_ n1_ n2_ n3_ n4_
              clear ho hb hg hat
              refine hK.out _ _ ⟨(blk_cell BK210.out 0).trans rfl, (blk_cell BK210.out 1).trans rfl, (blk_cell BK210.out 2).trans rfl, (blk_cell BK210.out 3).trans rfl⟩ (fun hHeld => ?_)
              clear hK K
              refine norm_ (a' := ?_) ?_ ?_
              rotate_left
              ·show Act.put _ (some 8) _ = _
               simp only [Act.put, List.setIfInBounds_toArray, List.set_cons_zero, List.set_cons_succ, i64_w, i32_w]
               rfl
              exact norm_ (by first | (simp only [putAll, Act.put, List.setIfInBounds_toArray, List.set_cons_zero, List.set_cons_succ]; done) | (simp only [putAll, Act.put, List.setIfInBounds_toArray, List.set_cons_zero, List.set_cons_succ]; rfl)) (hJ2_5_10 (v213, v216, v225) _ ⟨hHeld, (by (with_reducible repeat (first | apply Kd.R_alloc | apply Kd.R_drewN | apply Kd.R_drew)); exact HO217.out), (by (with_reducible repeat (first | apply Kd.R_alloc | apply Kd.R_drewN | apply Kd.R_drew)); exact HO226.out), (by (with_reducible repeat (first | refine blk_drewN ?_ _ | refine blk_drew ?_ | refine blk_alloc ?_ _)); exact BK210.out), (by (with_reducible repeat (first | refine blk_drewN ?_ _ | refine blk_drew ?_ | refine blk_alloc ?_ _)); exact BK211.out), (by repeat (first | (with_reducible first | exact HB.out | apply below_alloc | apply pw_below_drewN | apply below_drew1 | refine below_set ?_ GE210.out | refine below_set ?_ GE211.out) | exact HB.out))⟩)
             ·skip
              refine Kd.R_lit_step Kd.string _ 9 ?hg (N := 9) ?hd (xs := ([] : List ByteArray)) (inner := []) (ok := fun _ => True) (okp := fun _ => True) ?hr ?hp (fun _ hk => hk) trivial (Below.refl _ _) (Nat.le_refl _) (by simp) ?_; (case hd => rfl); (case hg => rfl); (case hr => first | (go_simp; done) | (go_simp; rfl)); (case hp => exact (Reps.none _ _))
              intro v219 w13 ho14 hb hg_ hnew_
              clear hg_ hnew_
              (first | rw [← Ny218.out] at ho14 | (simp only [Int.reduceToNat] at ho14; rw [← Ny218.out] at ho14))
              have n0_ := Aside0.mk (Kd.R_below (by (with_reducible repeat (first | apply Kd.R_alloc | apply Kd.R_drewN | apply Kd.R_drew)); exact HO214.out) hb)
              have n1_ := Aside0.mk (Kd.R_below (by (with_reducible repeat (first | apply Kd.R_alloc | apply Kd.R_drewN | apply Kd.R_drew)); exact HO226.out) hb)
              have n2_ := Aside0.mk (Kd.R_lower ho14 (below_size (by repeat (first | (with_reducible first | exact HB.out | apply below_alloc | apply pw_below_drewN | apply below_drew1 | refine below_set ?_ GE210.out | refine below_set ?_ GE211.out) | exact HB.out))))
              have n3_ := Aside0.mk (blk_below (g := gb210) (o := .cells #[.int .i64 a0_0, .slice A0_1 l0_1.length c0_1, .slice A0_2 l0_2.length c0_2, .slice A0_3 l0_3.length c0_3] 26 (0, 0)) (by (with_reducible repeat (first | refine blk_drewN ?_ _ | refine blk_drew ?_ | refine blk_alloc ?_ _)); exact BK210.out) hb)
              have n4_ := Aside0.mk (blk_below (g := gb211) (o := .cells #[.int .i64 0, .slice none 0 0, .slice none 0 0, .slice none 0 0] 26 (0, 0)) (by (with_reducible repeat (first | refine blk_drewN ?_ _ | refine blk_drew ?_ | refine blk_alloc ?_ _)); exact BK211.out) hb)
              have n5_ := Aside0.mk (below_step (by repeat (first | (with_reducible first | exact HB.out | apply below_alloc | apply pw_below_drewN | apply below_drew1 | refine below_set ?_ GE210.out | refine below_set ?_ GE211.out) | exact HB.out)) hb)
              clear HO214
              clear HO226
              clear BK210
              clear BK211
              clear HB
              have HO214 := n0_
              have HO226 := n1_
              have HO220 := n2_
              have BK210 := n3_
              have BK211 := n4_
              have HB := n5_
              clear n0_ n1_ n2_ n3_ n4_ n5_
              clear hb ho14
              refine hK.out _ _ ⟨(blk_cell BK210.out 0).trans rfl, (blk_cell BK210.out 1).trans rfl, (blk_cell BK210.out 2).trans rfl, (blk_cell BK210.out 3).trans rfl⟩ (fun hHeld => ?_)
              clear hK K
              refine norm_ (a' := ?_) ?_ ?_
              rotate_left
              ·show Act.put _ (some 9) _ = _
               simp only [Act.put, List.setIfInBounds_toArray, List.set_cons_zero, List.set_cons_succ, i64_w, i32_w]
               rfl
              exact norm_ (by first | (simp only [putAll, Act.put, List.setIfInBounds_toArray, List.set_cons_zero, List.set_cons_succ]; done) | (simp only [putAll, Act.put, List.setIfInBounds_toArray, List.set_cons_zero, List.set_cons_succ]; rfl)) (hJ2_6_10 (v213, v219, v225) _ ⟨hHeld, (by (with_reducible repeat (first | apply Kd.R_alloc | apply Kd.R_drewN | apply Kd.R_drew)); exact HO214.out), (by (with_reducible repeat (first | apply Kd.R_alloc | apply Kd.R_drewN | apply Kd.R_drew)); exact HO220.out), (by (with_reducible repeat (first | apply Kd.R_alloc | apply Kd.R_drewN | apply Kd.R_drew)); exact HO226.out), (by (with_reducible repeat (first | refine blk_drewN ?_ _ | refine blk_drew ?_ | refine blk_alloc ?_ _)); exact BK210.out), (by (with_reducible repeat (first | refine blk_drewN ?_ _ | refine blk_drew ?_ | refine blk_alloc ?_ _)); exact BK211.out), (by repeat (first | (with_reducible first | exact HB.out | apply below_alloc | apply pw_below_drewN | apply below_drew1 | refine below_set ?_ GE210.out | refine below_set ?_ GE211.out) | exact HB.out))⟩)
           ·skip
            rintro ⟨v213, v219⟩ w12 ⟨hS_, h0_, h1_, h2_, h3_, h4_⟩
            have n0_ : Aside0 (Kd.R (Kd.int .i64) 2 w12 w.heap.size (fun _ => True) v213 y212) := ⟨h0_⟩
            have n1_ : Aside0 (Kd.R Kd.string 9 w12 w.heap.size (fun _ => True) v219 y218) := ⟨h1_⟩
            have n2_ : Aside0 (w12.heap[gb210]? = some (.cells #[.int .i64 a0_0, .slice A0_1 l0_1.length c0_1, .slice A0_2 l0_2.length c0_2, .slice A0_3 l0_3.length c0_3] 26 (0, 0))) := ⟨h2_⟩
            have n3_ : Aside0 (w12.heap[gb211]? = some (.cells #[.int .i64 0, .slice none 0 0, .slice none 0 0, .slice none 0 0] 26 (0, 0))) := ⟨h3_⟩
            have n4_ : Aside0 (Below w.heap.size w w12) := ⟨h4_⟩
            clear BK210
            clear BK211
            clear HB
            clear h0_ h1_ h2_ h3_ h4_
            have HO214 := n0_
            have HO220 := n1_
            have BK210 := n2_
            have BK211 := n3_
            have HB := n4_
            clear n0_ n1_ n2_ n3_ n4_
            have hHeld : w12.cell? ⟨gb210, 0, none⟩ = some (.int .i64 a0_0) ∧ w12.cell? ⟨gb210, 1, none⟩ = some (.slice A0_1 l0_1.length c0_1) ∧ w12.cell? ⟨gb210, 2, none⟩ = some (.slice A0_2 l0_2.length c0_2) ∧ w12.cell? ⟨gb210, 3, none⟩ = some (.slice A0_3 l0_3.length c0_3) := hS_
            refine norm_ (a' := ?_) ?_ ?_
            rotate_left
            ·simp only [putAll, Act.put, List.setIfInBounds_toArray, List.set_cons_zero, List.set_cons_succ]
             rfl
            refine two_ (i := 5) (j := 10) (Ni := some 8) (Nj := some 13) #[true, true, true, true, true, true, true, true, true, false, false, true, true, false, false, false] #[true, true, true, true, true, false, true, true, true, false, true, true, true, false, false, false] rfl rfl rfl rfl (two_of HT_.out (by kernel_rfl)) (by decide) (by decide) (fun K hK => ?_) (fun K hK => ?_)
            ·skip
             refine Kd.R_append_rows_step (Kd.int .i64) (w0 := w) w.heap.size (by rfl) (.tmp 5) (.tmp 7) 22 2 (.int .i64 0) 8 rfl Tryd.underlying22 info2 rfl (by decide) (by omega) v213 y212 l0_1 _ _ _ (fun _ => True) (fun _ => False) rfl rfl ?aO ?aR (fun _ _ h => h) (fun _ h => h.elim) ?aF ?aB ?aS ?aL ?_
             (case aR => repeat (first | exact (Kd.C_below HR0_1.out HB.out) | (with_reducible refine Kd.C_alloc ?_ _) | (with_reducible refine Kd.C_drewN ?_ _) | (with_reducible refine Kd.C_drew ?_)))
             (case aB => exact (by repeat (first | (with_reducible first | exact HB.out | apply below_alloc | apply pw_below_drewN | apply below_drew1 | refine below_set ?_ GE210.out | refine below_set ?_ GE211.out) | exact HB.out)))
             (case aF => exact (fun _ _ => trivial))
             (case aO => exact (by (with_reducible repeat (first | apply Kd.R_alloc | apply Kd.R_drewN | apply Kd.R_drew)); exact HO214.out))
             (case aS => exact (below_size (by repeat (first | (with_reducible first | exact HB.out | apply below_alloc | apply pw_below_drewN | apply below_drew1 | refine below_set ?_ GE210.out | refine below_set ?_ GE211.out) | exact HB.out))))
             (case aL => have := LMc2.out; omega)
             intro v216 w13 ho hb hg hat
             rw [← Ny215.out] at ho
             have n0_ := Aside0.mk (blk_grown (g := gb210) (o := .cells #[.int .i64 a0_0, .slice A0_1 l0_1.length c0_1, .slice A0_2 l0_2.length c0_2, .slice A0_3 l0_3.length c0_3] 26 (0, 0)) (by (with_reducible repeat (first | refine blk_drewN ?_ _ | refine blk_drew ?_ | refine blk_alloc ?_ _)); exact BK210.out) hg (Kd.R_ne HO214.out BK210.out (by decide)))
             have n1_ := Aside0.mk (blk_grown (g := gb211) (o := .cells #[.int .i64 0, .slice none 0 0, .slice none 0 0, .slice none 0 0] 26 (0, 0)) (by (with_reducible repeat (first | refine blk_drewN ?_ _ | refine blk_drew ?_ | refine blk_alloc ?_ _)); exact BK211.out) hg (Kd.R_ne HO214.out BK211.out (by decide)))
             have n2_ := Aside0.mk (Kd.R_over' (by (with_reducible repeat (first | apply Kd.R_alloc | apply Kd.R_drewN | apply Kd.R_drew)); exact HO220.out) (Kd.R_typed (by (with_reducible repeat (first | apply Kd.R_alloc | apply Kd.R_drewN | apply Kd.R_drew)); exact HO214.out)) (by decide) hg)
             have n3_ := Aside0.mk (hb)
             have n4_ := Aside0.mk (ho)
             clear BK210
             clear BK211
             clear HO220
             clear HB
             clear HO214
             have BK210 := n0_
             have BK211 := n1_
             have HO220 := n2_
             have HB := n3_
             have HO217 := n4_
             clear n0_ n1_ n2_ n3_ n4_
             clear ho hb hg hat
             refine hK.out _ _ ⟨(blk_cell BK210.out 0).trans rfl, (blk_cell BK210.out 1).trans rfl, (blk_cell BK210.out 2).trans rfl, (blk_cell BK210.out 3).trans rfl⟩ (fun hHeld => ?_)
             clear hK K
             refine norm_ (a' := ?_) ?_ ?_
             rotate_left
             ·show Act.put _ (some 8) _ = _
              simp only [Act.put, List.setIfInBounds_toArray, List.set_cons_zero, List.set_cons_succ, i64_w, i32_w]
              rfl
             exact norm_ (by first | (simp only [putAll, Act.put, List.setIfInBounds_toArray, List.set_cons_zero, List.set_cons_succ]; done) | (simp only [putAll, Act.put, List.setIfInBounds_toArray, List.set_cons_zero, List.set_cons_succ]; rfl)) (hJ2_5_6 (v213, v216, v219) _ ⟨hHeld, (by (with_reducible repeat (first | apply Kd.R_alloc | apply Kd.R_drewN | apply Kd.R_drew)); exact HO217.out), (by (with_reducible repeat (first | apply Kd.R_alloc | apply Kd.R_drewN | apply Kd.R_drew)); exact HO220.out), (by (with_reducible repeat (first | refine blk_drewN ?_ _ | refine blk_drew ?_ | refine blk_alloc ?_ _)); exact BK210.out), (by (with_reducible repeat (first | refine blk_drewN ?_ _ | refine blk_drew ?_ | refine blk_alloc ?_ _)); exact BK211.out), (by repeat (first | (with_reducible first | exact HB.out | apply below_alloc | apply pw_below_drewN | apply below_drew1 | refine below_set ?_ GE210.out | refine below_set ?_ GE211.out) | exact HB.out))⟩)
            ·skip
             refine Kd.R_lit_step (Kd.int .i64) _ 3 ?hg (N := 13) ?hd (xs := ([] : List Int)) (inner := []) (ok := fun _ => True) (okp := fun _ => True) ?hr ?hp (fun _ hk => hk) trivial (Below.refl _ _) (Nat.le_refl _) (by simp) ?_; (case hd => rfl); (case hg => rfl); (case hr => first | (go_simp; done) | (go_simp; rfl)); (case hp => exact (Reps.none _ _))
             intro v225 w13 ho14 hb hg_ hnew_
             clear hg_ hnew_
             (first | rw [← Ny224.out] at ho14 | (simp only [Int.reduceToNat] at ho14; rw [← Ny224.out] at ho14))
             have n0_ := Aside0.mk (Kd.R_below (by (with_reducible repeat (first | apply Kd.R_alloc | apply Kd.R_drewN | apply Kd.R_drew)); exact HO214.out) hb)
             have n1_ := Aside0.mk (Kd.R_below (by (with_reducible repeat (first | apply Kd.R_alloc | apply Kd.R_drewN | apply Kd.R_drew)); exact HO220.out) hb)
             have n2_ := Aside0.mk (Kd.R_lower ho14 (below_size (by repeat (first | (with_reducible first | exact HB.out | apply below_alloc | apply pw_below_drewN | apply below_drew1 | refine below_set ?_ GE210.out | refine below_set ?_ GE211.out) | exact HB.out))))
             have n3_ := Aside0.mk (blk_below (g := gb210) (o := .cells #[.int .i64 a0_0, .slice A0_1 l0_1.length c0_1, .slice A0_2 l0_2.length c0_2, .slice A0_3 l0_3.length c0_3] 26 (0, 0)) (by (with_reducible repeat (first | refine blk_drewN ?_ _ | refine blk_drew ?_ | refine blk_alloc ?_ _)); exact BK210.out) hb)
             have n4_ := Aside0.mk (blk_below (g := gb211) (o := .cells #[.int .i64 0, .slice none 0 0, .slice none 0 0, .slice none 0 0] 26 (0, 0)) (by (with_reducible repeat (first | refine blk_drewN ?_ _ | refine blk_drew ?_ | refine blk_alloc ?_ _)); exact BK211.out) hb)
             have n5_ := Aside0.mk (below_step (by repeat (first | (with_reducible first | exact HB.out | apply below_alloc | apply pw_below_drewN | apply below_drew1 | refine below_set ?_ GE210.out | refine below_set ?_ GE211.out) | exact HB.out)) hb)
             clear HO214
             clear HO220
             clear BK210
             clear BK211
             clear HB
             have HO214 := n0_
             have HO220 := n1_
             have HO226 := n2_
             have BK210 := n3_
             have BK211 := n4_
             have HB := n5_
             clear n0_ n1_ n2_ n3_ n4_ n5_
             clear hb ho14
             refine hK.out _ _ ⟨(blk_cell BK210.out 0).trans rfl, (blk_cell BK210.out 1).trans rfl, (blk_cell BK210.out 2).trans rfl, (blk_cell BK210.out 3).trans rfl⟩ (fun hHeld => ?_)
             clear hK K
             refine norm_ (a' := ?_) ?_ ?_
             rotate_left
             ·show Act.put _ (some 13) _ = _
              simp only [Act.put, List.setIfInBounds_toArray, List.set_cons_zero, List.set_cons_succ, i64_w, i32_w]
              rfl
             exact norm_ (by first | (simp only [putAll, Act.put, List.setIfInBounds_toArray, List.set_cons_zero, List.set_cons_succ]; done) | (simp only [putAll, Act.put, List.setIfInBounds_toArray, List.set_cons_zero, List.set_cons_succ]; rfl)) (hJ2_6_10 (v213, v219, v225) _ ⟨hHeld, (by (with_reducible repeat (first | apply Kd.R_alloc | apply Kd.R_drewN | apply Kd.R_drew)); exact HO214.out), (by (with_reducible repeat (first | apply Kd.R_alloc | apply Kd.R_drewN | apply Kd.R_drew)); exact HO220.out), (by (with_reducible repeat (first | apply Kd.R_alloc | apply Kd.R_drewN | apply Kd.R_drew)); exact HO226.out), (by (with_reducible repeat (first | refine blk_drewN ?_ _ | refine blk_drew ?_ | refine blk_alloc ?_ _)); exact BK210.out), (by (with_reducible repeat (first | refine blk_drewN ?_ _ | refine blk_drew ?_ | refine blk_alloc ?_ _)); exact BK211.out), (by repeat (first | (with_reducible first | exact HB.out | apply below_alloc | apply pw_below_drewN | apply below_drew1 | refine below_set ?_ GE210.out | refine below_set ?_ GE211.out) | exact HB.out))⟩)
          ·skip
           rintro ⟨v213, v216⟩ w11 ⟨hS_, h0_, h1_, h2_, h3_⟩
           have n0_ : Aside0 (Kd.R (Kd.int .i64) 2 w11 w.heap.size (fun _ => True) v216 y215) := ⟨h0_⟩
           have n1_ : Aside0 (w11.heap[gb210]? = some (.cells #[.int .i64 a0_0, .slice A0_1 l0_1.length c0_1, .slice A0_2 l0_2.length c0_2, .slice A0_3 l0_3.length c0_3] 26 (0, 0))) := ⟨h1_⟩
           have n2_ : Aside0 (w11.heap[gb211]? = some (.cells #[.int .i64 0, .slice none 0 0, .slice none 0 0, .slice none 0 0] 26 (0, 0))) := ⟨h2_⟩
           have n3_ : Aside0 (Below w.heap.size w w11) := ⟨h3_⟩
           clear BK210
           clear BK211
           clear HB
           clear h0_ h1_ h2_ h3_
           have HO217 := n0_
           have BK210 := n1_
           have BK211 := n2_
           have HB := n3_
           clear n0_ n1_ n2_ n3_
           have hHeld : w11.cell? ⟨gb210, 0, none⟩ = some (.int .i64 a0_0) ∧ w11.cell? ⟨gb210, 1, none⟩ = some (.slice A0_1 l0_1.length c0_1) ∧ w11.cell? ⟨gb210, 2, none⟩ = some (.slice A0_2 l0_2.length c0_2) ∧ w11.cell? ⟨gb210, 3, none⟩ = some (.slice A0_3 l0_3.length c0_3) := hS_
           refine norm_ (a' := ?_) ?_ ?_
           rotate_left
           ·simp only [putAll, Act.put, List.setIfInBounds_toArray, List.set_cons_zero, List.set_cons_succ]
            rfl
           refine two_ (i := 6) (j := 10) (Ni := some 9) (Nj := some 13) #[true, true, true, true, true, true, true, true, true, false, false, true, true, false, false, false] #[true, true, true, true, true, true, false, true, true, false, true, true, true, false, false, false] rfl rfl rfl rfl (two_of HT_.out (by kernel_rfl)) (by decide) (by decide) (fun K hK => ?_) (fun K hK => ?_)
           ·skip
            refine Kd.R_lit_step Kd.string _ 9 ?hg (N := 9) ?hd (xs := ([] : List ByteArray)) (inner := []) (ok := fun _ => True) (okp := fun _ => True) ?hr ?hp (fun _ hk => hk) trivial (Below.refl _ _) (Nat.le_refl _) (by simp) ?_; (case hd => rfl); (case hg => rfl); (case hr => first | (go_simp; done) | (go_simp; rfl)); (case hp => exact (Reps.none _ _))
            intro v219 w12 ho13 hb hg_ hnew_
            clear hg_ hnew_
            (first | rw [← Ny218.out] at ho13 | (simp only [Int.reduceToNat] at ho13; rw [← Ny218.out] at ho13))
            have n0_ := Aside0.mk (Kd.R_below (by (with_reducible repeat (first | apply Kd.R_alloc | apply Kd.R_drewN | apply Kd.R_drew)); exact HO217.out) hb)
            have n1_ := Aside0.mk (Kd.R_lower ho13 (below_size (by repeat (first | (with_reducible first | exact HB.out | apply below_alloc | apply pw_below_drewN | apply below_drew1 | refine below_set ?_ GE210.out | refine below_set ?_ GE211.out) | exact HB.out))))
            have n2_ := Aside0.mk (blk_below (g := gb210) (o := .cells #[.int .i64 a0_0, .slice A0_1 l0_1.length c0_1, .slice A0_2 l0_2.length c0_2, .slice A0_3 l0_3.length c0_3] 26 (0, 0)) (by (with_reducible repeat (first | refine blk_drewN ?_ _ | refine blk_drew ?_ | refine blk_alloc ?_ _)); exact BK210.out) hb)
            have n3_ := Aside0.mk (blk_below (g := gb211) (o := .cells #[.int .i64 0, .slice none 0 0, .slice none 0 0, .slice none 0 0] 26 (0, 0)) (by (with_reducible repeat (first | refine blk_drewN ?_ _ | refine blk_drew ?_ | refine blk_alloc ?_ _)); exact BK211.out) hb)
            have n4_ := Aside0.mk (below_step (by repeat (first | (with_reducible first | exact HB.out | apply below_alloc | apply pw_below_drewN | apply below_drew1 | refine below_set ?_ GE210.out | refine below_set ?_ GE211.out) | exact HB.out)) hb)
            clear HO217
            clear BK210
            clear BK211
            clear HB
            have HO217 := n0_
            have HO220 := n1_
            have BK210 := n2_
            have BK211 := n3_
            have HB := n4_
            clear n0_ n1_ n2_ n3_ n4_
            clear hb ho13
            refine hK.out _ _ ⟨(blk_cell BK210.out 0).trans rfl, (blk_cell BK210.out 1).trans rfl, (blk_cell BK210.out 2).trans rfl, (blk_cell BK210.out 3).trans rfl⟩ (fun hHeld => ?_)
            clear hK K
            refine norm_ (a' := ?_) ?_ ?_
            rotate_left
            ·show Act.put _ (some 9) _ = _
             simp only [Act.put, List.setIfInBounds_toArray, List.set_cons_zero, List.set_cons_succ, i64_w, i32_w]
             rfl
            exact norm_ (by first | (simp only [putAll, Act.put, List.setIfInBounds_toArray, List.set_cons_zero, List.set_cons_succ]; done) | (simp only [putAll, Act.put, List.setIfInBounds_toArray, List.set_cons_zero, List.set_cons_succ]; rfl)) (hJ2_5_6 (v213, v216, v219) _ ⟨hHeld, (by (with_reducible repeat (first | apply Kd.R_alloc | apply Kd.R_drewN | apply Kd.R_drew)); exact HO217.out), (by (with_reducible repeat (first | apply Kd.R_alloc | apply Kd.R_drewN | apply Kd.R_drew)); exact HO220.out), (by (with_reducible repeat (first | refine blk_drewN ?_ _ | refine blk_drew ?_ | refine blk_alloc ?_ _)); exact BK210.out), (by (with_reducible repeat (first | refine blk_drewN ?_ _ | refine blk_drew ?_ | refine blk_alloc ?_ _)); exact BK211.out), (by repeat (first | (with_reducible first | exact HB.out | apply below_alloc | apply pw_below_drewN | apply below_drew1 | refine below_set ?_ GE210.out | refine below_set ?_ GE211.out) | exact HB.out))⟩)
           ·skip
            refine Kd.R_lit_step (Kd.int .i64) _ 3 ?hg (N := 13) ?hd (xs := ([] : List Int)) (inner := []) (ok := fun _ => True) (okp := fun _ => True) ?hr ?hp (fun _ hk => hk) trivial (Below.refl _ _) (Nat.le_refl _) (by simp) ?_; (case hd => rfl); (case hg => rfl); (case hr => first | (go_simp; done) | (go_simp; rfl)); (case hp => exact (Reps.none _ _))
            intro v225 w12 ho13 hb hg_ hnew_
            clear hg_ hnew_
            (first | rw [← Ny224.out] at ho13 | (simp only [Int.reduceToNat] at ho13; rw [← Ny224.out] at ho13))
            have n0_ := Aside0.mk (Kd.R_below (by (with_reducible repeat (first | apply Kd.R_alloc | apply Kd.R_drewN | apply Kd.R_drew)); exact HO217.out) hb)
            have n1_ := Aside0.mk (Kd.R_lower ho13 (below_size (by repeat (first | (with_reducible first | exact HB.out | apply below_alloc | apply pw_below_drewN | apply below_drew1 | refine below_set ?_ GE210.out | refine below_set ?_ GE211.out) | exact HB.out))))
            have n2_ := Aside0.mk (blk_below (g := gb210) (o := .cells #[.int .i64 a0_0, .slice A0_1 l0_1.length c0_1, .slice A0_2 l0_2.length c0_2, .slice A0_3 l0_3.length c0_3] 26 (0, 0)) (by (with_reducible repeat (first | refine blk_drewN ?_ _ | refine blk_drew ?_ | refine blk_alloc ?_ _)); exact BK210.out) hb)
            have n3_ := Aside0.mk (blk_below (g := gb211) (o := .cells #[.int .i64 0, .slice none 0 0, .slice none 0 0, .slice none 0 0] 26 (0, 0)) (by (with_reducible repeat (first | refine blk_drewN ?_ _ | refine blk_drew ?_ | refine blk_alloc ?_ _)); exact BK211.out) hb)
            have n4_ := Aside0.mk (below_step (by repeat (first | (with_reducible first | exact HB.out | apply below_alloc | apply pw_below_drewN | apply below_drew1 | refine below_set ?_ GE210.out | refine below_set ?_ GE211.out) | exact HB.out)) hb)
            clear HO217
            clear BK210
            clear BK211
            clear HB
            have HO217 := n0_
            have HO226 := n1_
            have BK210 := n2_
            have BK211 := n3_
            have HB := n4_
            clear n0_ n1_ n2_ n3_ n4_
            clear hb ho13
            refine hK.out _ _ ⟨(blk_cell BK210.out 0).trans rfl, (blk_cell BK210.out 1).trans rfl, (blk_cell BK210.out 2).trans rfl, (blk_cell BK210.out 3).trans rfl⟩ (fun hHeld => ?_)
            clear hK K
            refine norm_ (a' := ?_) ?_ ?_
            rotate_left
            ·show Act.put _ (some 13) _ = _
             simp only [Act.put, List.setIfInBounds_toArray, List.set_cons_zero, List.set_cons_succ, i64_w, i32_w]
             rfl
            exact norm_ (by first | (simp only [putAll, Act.put, List.setIfInBounds_toArray, List.set_cons_zero, List.set_cons_succ]; done) | (simp only [putAll, Act.put, List.setIfInBounds_toArray, List.set_cons_zero, List.set_cons_succ]; rfl)) (hJ2_5_10 (v213, v216, v225) _ ⟨hHeld, (by (with_reducible repeat (first | apply Kd.R_alloc | apply Kd.R_drewN | apply Kd.R_drew)); exact HO217.out), (by (with_reducible repeat (first | apply Kd.R_alloc | apply Kd.R_drewN | apply Kd.R_drew)); exact HO226.out), (by (with_reducible repeat (first | refine blk_drewN ?_ _ | refine blk_drew ?_ | refine blk_alloc ?_ _)); exact BK210.out), (by (with_reducible repeat (first | refine blk_drewN ?_ _ | refine blk_drew ?_ | refine blk_alloc ?_ _)); exact BK211.out), (by repeat (first | (with_reducible first | exact HB.out | apply below_alloc | apply pw_below_drewN | apply below_drew1 | refine below_set ?_ GE210.out | refine below_set ?_ GE211.out) | exact HB.out))⟩)
         ·skip
          rintro ⟨v213, v219, v225⟩ w14 ⟨hS_, h0_, h1_, h2_, h3_, h4_, h5_⟩
          have n0_ : Aside0 (Kd.R (Kd.int .i64) 2 w14 w.heap.size (fun _ => True) v213 y212) := ⟨h0_⟩
          have n1_ : Aside0 (Kd.R Kd.string 9 w14 w.heap.size (fun _ => True) v219 y218) := ⟨h1_⟩
          have n2_ : Aside0 (Kd.R (Kd.int .i64) 3 w14 w.heap.size (fun _ => True) v225 y224) := ⟨h2_⟩
          have n3_ : Aside0 (w14.heap[gb210]? = some (.cells #[.int .i64 a0_0, .slice A0_1 l0_1.length c0_1, .slice A0_2 l0_2.length c0_2, .slice A0_3 l0_3.length c0_3] 26 (0, 0))) := ⟨h3_⟩
          have n4_ : Aside0 (w14.heap[gb211]? = some (.cells #[.int .i64 0, .slice none 0 0, .slice none 0 0, .slice none 0 0] 26 (0, 0))) := ⟨h4_⟩
          have n5_ : Aside0 (Below w.heap.size w w14) := ⟨h5_⟩
          clear BK210
          clear BK211
          clear HB
          clear h0_ h1_ h2_ h3_ h4_ h5_
          have HO214 := n0_
          have HO220 := n1_
          have HO226 := n2_
          have BK210 := n3_
          have BK211 := n4_
          have HB := n5_
          clear n0_ n1_ n2_ n3_ n4_ n5_
          have hHeld : w14.cell? ⟨gb210, 0, none⟩ = some (.int .i64 a0_0) ∧ w14.cell? ⟨gb210, 1, none⟩ = some (.slice A0_1 l0_1.length c0_1) ∧ w14.cell? ⟨gb210, 2, none⟩ = some (.slice A0_2 l0_2.length c0_2) ∧ w14.cell? ⟨gb210, 3, none⟩ = some (.slice A0_3 l0_3.length c0_3) := hS_
          refine norm_ (a' := ?_) ?_ ?_
          rotate_left
          ·simp only [putAll, Act.put, List.setIfInBounds_toArray, List.set_cons_zero, List.set_cons_succ]
           rfl
          refine one_ (i := 5) (N := some 8) #[true, true, true, true, true, true, true, true, true, false, true, true, true, false, false, false] rfl rfl (one_of HT_.out (by kernel_rfl)) (by decide) (fun K hK => ?_)
          refine Kd.R_append_rows_step (Kd.int .i64) (w0 := w) w.heap.size (by rfl) (.tmp 5) (.tmp 7) 22 2 (.int .i64 0) 8 rfl Tryd.underlying22 info2 rfl (by decide) (by omega) v213 y212 l0_1 _ _ _ (fun _ => True) (fun _ => False) rfl rfl ?aO ?aR (fun _ _ h => h) (fun _ h => h.elim) ?aF ?aB ?aS ?aL ?_
          (case aR => repeat (first | exact (Kd.C_below HR0_1.out HB.out) | (with_reducible refine Kd.C_alloc ?_ _) | (with_reducible refine Kd.C_drewN ?_ _) | (with_reducible refine Kd.C_drew ?_)))
          (case aB => exact (by repeat (first | (with_reducible first | exact HB.out | apply below_alloc | apply pw_below_drewN | apply below_drew1 | refine below_set ?_ GE210.out | refine below_set ?_ GE211.out) | exact HB.out)))
          (case aF => exact (fun _ _ => trivial))
          (case aO => exact (by (with_reducible repeat (first | apply Kd.R_alloc | apply Kd.R_drewN | apply Kd.R_drew)); exact HO214.out))
          (case aS => exact (below_size (by repeat (first | (with_reducible first | exact HB.out | apply below_alloc | apply pw_below_drewN | apply below_drew1 | refine below_set ?_ GE210.out | refine below_set ?_ GE211.out) | exact HB.out))))
          (case aL => have := LMc2.out; omega)
          intro v216 w15 ho hb hg hat
          rw [← Ny215.out] at ho
          have n0_ := Aside0.mk (blk_grown (g := gb210) (o := .cells #[.int .i64 a0_0, .slice A0_1 l0_1.length c0_1, .slice A0_2 l0_2.length c0_2, .slice A0_3 l0_3.length c0_3] 26 (0, 0)) (by (with_reducible repeat (first | refine blk_drewN ?_ _ | refine blk_drew ?_ | refine blk_alloc ?_ _)); exact BK210.out) hg (Kd.R_ne HO214.out BK210.out (by decide)))
          have n1_ := Aside0.mk (blk_grown (g := gb211) (o := .cells #[.int .i64 0, .slice none 0 0, .slice none 0 0, .slice none 0 0] 26 (0, 0)) (by (with_reducible repeat (first | refine blk_drewN ?_ _ | refine blk_drew ?_ | refine blk_alloc ?_ _)); exact BK211.out) hg (Kd.R_ne HO214.out BK211.out (by decide)))
          have n2_ := Aside0.mk (Kd.R_over' (by (with_reducible repeat (first | apply Kd.R_alloc | apply Kd.R_drewN | apply Kd.R_drew)); exact HO220.out) (Kd.R_typed (by (with_reducible repeat (first | apply Kd.R_alloc | apply Kd.R_drewN | apply Kd.R_drew)); exact HO214.out)) (by decide) hg)
          have n3_ := Aside0.mk (Kd.R_over' (by (with_reducible repeat (first | apply Kd.R_alloc | apply Kd.R_drewN | apply Kd.R_drew)); exact HO226.out) (Kd.R_typed (by (with_reducible repeat (first | apply Kd.R_alloc | apply Kd.R_drewN | apply Kd.R_drew)); exact HO214.out)) (by decide) hg)
          have n4_ := Aside0.mk (hb)
          have n5_ := Aside0.mk (ho)
          clear BK210
          clear BK211
          clear HO220
          clear HO226
          clear HB
          clear HO214
          have BK210 := n0_
          have BK211 := n1_
          have HO220 := n2_
          have HO226 := n3_
          have HB := n4_
          have HO217 := n5_
          clear n0_ n1_ n2_ n3_ n4_ n5_
          clear ho hb hg hat
          refine hK.out _ _ ⟨(blk_cell BK210.out 0).trans rfl, (blk_cell BK210.out 1).trans rfl, (blk_cell BK210.out 2).trans rfl, (blk_cell BK210.out 3).trans rfl⟩ (fun hHeld => ?_)
          clear hK K
          refine norm_ (a' := ?_) ?_ ?_
          rotate_left
          ·show Act.put _ (some 8) _ = _
           simp only [Act.put, List.setIfInBounds_toArray, List.set_cons_zero, List.set_cons_succ, i64_w, i32_w]
           rfl
          exact norm_ (by first | (simp only [putAll, Act.put, List.setIfInBounds_toArray, List.set_cons_zero, List.set_cons_succ]; done) | (simp only [putAll, Act.put, List.setIfInBounds_toArray, List.set_cons_zero, List.set_cons_succ]; rfl)) (hJ2_5_6_10 (v213, v216, v219, v225) _ ⟨hHeld, (by (with_reducible repeat (first | apply Kd.R_alloc | apply Kd.R_drewN | apply Kd.R_drew)); exact HO217.out), (by (with_reducible repeat (first | apply Kd.R_alloc | apply Kd.R_drewN | apply Kd.R_drew)); exact HO220.out), (by (with_reducible repeat (first | apply Kd.R_alloc | apply Kd.R_drewN | apply Kd.R_drew)); exact HO226.out), (by (with_reducible repeat (first | refine blk_drewN ?_ _ | refine blk_drew ?_ | refine blk_alloc ?_ _)); exact BK210.out), (by (with_reducible repeat (first | refine blk_drewN ?_ _ | refine blk_drew ?_ | refine blk_alloc ?_ _)); exact BK211.out), (by repeat (first | (with_reducible first | exact HB.out | apply below_alloc | apply pw_below_drewN | apply below_drew1 | refine below_set ?_ GE210.out | refine below_set ?_ GE211.out) | exact HB.out))⟩)
        ·skip
         rintro ⟨v213, v216, v225⟩ w13 ⟨hS_, h0_, h1_, h2_, h3_, h4_⟩
         have n0_ : Aside0 (Kd.R (Kd.int .i64) 2 w13 w.heap.size (fun _ => True) v216 y215) := ⟨h0_⟩
         have n1_ : Aside0 (Kd.R (Kd.int .i64) 3 w13 w.heap.size (fun _ => True) v225 y224) := ⟨h1_⟩
         have n2_ : Aside0 (w13.heap[gb210]? = some (.cells #[.int .i64 a0_0, .slice A0_1 l0_1.length c0_1, .slice A0_2 l0_2.length c0_2, .slice A0_3 l0_3.length c0_3] 26 (0, 0))) := ⟨h2_⟩
         have n3_ : Aside0 (w13.heap[gb211]? = some (.cells #[.int .i64 0, .slice none 0 0, .slice none 0 0, .slice none 0 0] 26 (0, 0))) := ⟨h3_⟩
         have n4_ : Aside0 (Below w.heap.size w w13) := ⟨h4_⟩
         clear BK210
         clear BK211
         clear HB
         clear h0_ h1_ h2_ h3_ h4_
         have HO217 := n0_
         have HO226 := n1_
         have BK210 := n2_
         have BK211 := n3_
         have HB := n4_
         clear n0_ n1_ n2_ n3_ n4_
         have hHeld : w13.cell? ⟨gb210, 0, none⟩ = some (.int .i64 a0_0) ∧ w13.cell? ⟨gb210, 1, none⟩ = some (.slice A0_1 l0_1.length c0_1) ∧ w13.cell? ⟨gb210, 2, none⟩ = some (.slice A0_2 l0_2.length c0_2) ∧ w13.cell? ⟨gb210, 3, none⟩ = some (.slice A0_3 l0_3.length c0_3) := hS_
         refine norm_ (a' := ?_) ?_ ?_
         rotate_left
         ·simp only [putAll, Act.put, List.setIfInBounds_toArray, List.set_cons_zero, List.set_cons_succ]
          rfl
         refine one_ (i := 6) (N := some 9) #[true, true, true, true, true, true, true, true, true, false, true, true, true, false, false, false] rfl rfl (one_of HT_.out (by kernel_rfl)) (by decide) (fun K hK => ?_)
         refine Kd.R_lit_step Kd.string _ 9 ?hg (N := 9) ?hd (xs := ([] : List ByteArray)) (inner := []) (ok := fun _ => True) (okp := fun _ => True) ?hr ?hp (fun _ hk => hk) trivial (Below.refl _ _) (Nat.le_refl _) (by simp) ?_; (case hd => rfl); (case hg => rfl); (case hr => first | (go_simp; done) | (go_simp; rfl)); (case hp => exact (Reps.none _ _))
         intro v219 w14 ho15 hb hg_ hnew_
         clear hg_ hnew_
         (first | rw [← Ny218.out] at ho15 | (simp only [Int.reduceToNat] at ho15; rw [← Ny218.out] at ho15))
         have n0_ := Aside0.mk (Kd.R_below (by (with_reducible repeat (first | apply Kd.R_alloc | apply Kd.R_drewN | apply Kd.R_drew)); exact HO217.out) hb)
         have n1_ := Aside0.mk (Kd.R_below (by (with_reducible repeat (first | apply Kd.R_alloc | apply Kd.R_drewN | apply Kd.R_drew)); exact HO226.out) hb)
         have n2_ := Aside0.mk (Kd.R_lower ho15 (below_size (by repeat (first | (with_reducible first | exact HB.out | apply below_alloc | apply pw_below_drewN | apply below_drew1 | refine below_set ?_ GE210.out | refine below_set ?_ GE211.out) | exact HB.out))))
         have n3_ := Aside0.mk (blk_below (g := gb210) (o := .cells #[.int .i64 a0_0, .slice A0_1 l0_1.length c0_1, .slice A0_2 l0_2.length c0_2, .slice A0_3 l0_3.length c0_3] 26 (0, 0)) (by (with_reducible repeat (first | refine blk_drewN ?_ _ | refine blk_drew ?_ | refine blk_alloc ?_ _)); exact BK210.out) hb)
         have n4_ := Aside0.mk (blk_below (g := gb211) (o := .cells #[.int .i64 0, .slice none 0 0, .slice none 0 0, .slice none 0 0] 26 (0, 0)) (by (with_reducible repeat (first | refine blk_drewN ?_ _ | refine blk_drew ?_ | refine blk_alloc ?_ _)); exact BK211.out) hb)
         have n5_ := Aside0.mk (below_step (by repeat (first | (with_reducible first | exact HB.out | apply below_alloc | apply pw_below_drewN | apply below_drew1 | refine below_set ?_ GE210.out | refine below_set ?_ GE211.out) | exact HB.out)) hb)
         clear HO217
         clear HO226
         clear BK210
         clear BK211
         clear HB
         have HO217 := n0_
         have HO226 := n1_
         have HO220 := n2_
         have BK210 := n3_
         have BK211 := n4_
         have HB := n5_
         clear n0_ n1_ n2_ n3_ n4_ n5_
         clear hb ho15
         refine hK.out _ _ ⟨(blk_cell BK210.out 0).trans rfl, (blk_cell BK210.out 1).trans rfl, (blk_cell BK210.out 2).trans rfl, (blk_cell BK210.out 3).trans rfl⟩ (fun hHeld => ?_)
         clear hK K
         refine norm_ (a' := ?_) ?_ ?_
         rotate_left
         ·show Act.put _ (some 9) _ = _
          simp only [Act.put, List.setIfInBounds_toArray, List.set_cons_zero, List.set_cons_succ, i64_w, i32_w]
          rfl
         exact norm_ (by first | (simp only [putAll, Act.put, List.setIfInBounds_toArray, List.set_cons_zero, List.set_cons_succ]; done) | (simp only [putAll, Act.put, List.setIfInBounds_toArray, List.set_cons_zero, List.set_cons_succ]; rfl)) (hJ2_5_6_10 (v213, v216, v219, v225) _ ⟨hHeld, (by (with_reducible repeat (first | apply Kd.R_alloc | apply Kd.R_drewN | apply Kd.R_drew)); exact HO217.out), (by (with_reducible repeat (first | apply Kd.R_alloc | apply Kd.R_drewN | apply Kd.R_drew)); exact HO220.out), (by (with_reducible repeat (first | apply Kd.R_alloc | apply Kd.R_drewN | apply Kd.R_drew)); exact HO226.out), (by (with_reducible repeat (first | refine blk_drewN ?_ _ | refine blk_drew ?_ | refine blk_alloc ?_ _)); exact BK210.out), (by (with_reducible repeat (first | refine blk_drewN ?_ _ | refine blk_drew ?_ | refine blk_alloc ?_ _)); exact BK211.out), (by repeat (first | (with_reducible first | exact HB.out | apply below_alloc | apply pw_below_drewN | apply below_drew1 | refine below_set ?_ GE210.out | refine below_set ?_ GE211.out) | exact HB.out))⟩)
       ·skip
        rintro ⟨v213, v216, v219⟩ w13 ⟨hS_, h0_, h1_, h2_, h3_, h4_⟩
        have n0_ : Aside0 (Kd.R (Kd.int .i64) 2 w13 w.heap.size (fun _ => True) v216 y215) := ⟨h0_⟩
        have n1_ : Aside0 (Kd.R Kd.string 9 w13 w.heap.size (fun _ => True) v219 y218) := ⟨h1_⟩
        have n2_ : Aside0 (w13.heap[gb210]? = some (.cells #[.int .i64 a0_0, .slice A0_1 l0_1.length c0_1, .slice A0_2 l0_2.length c0_2, .slice A0_3 l0_3.length c0_3] 26 (0, 0))) := ⟨h2_⟩
        have n3_ : Aside0 (w13.heap[gb211]? = some (.cells #[.int .i64 0, .slice none 0 0, .slice none 0 0, .slice none 0 0] 26 (0, 0))) := ⟨h3_⟩
        have n4_ : Aside0 (Below w.heap.size w w13) := ⟨h4_⟩
        clear BK210
        clear BK211
        clear HB
        clear h0_ h1_ h2_ h3_ h4_
        have HO217 := n0_
        have HO220 := n1_
        have BK210 := n2_
        have BK211 := n3_
        have HB := n4_
        clear n0_ n1_ n2_ n3_ n4_
        have hHeld : w13.cell? ⟨gb210, 0, none⟩ = some (.int .i64 a0_0) ∧ w13.cell? ⟨gb210, 1, none⟩ = some (.slice A0_1 l0_1.length c0_1) ∧ w13.cell? ⟨gb210, 2, none⟩ = some (.slice A0_2 l0_2.length c0_2) ∧ w13.cell? ⟨gb210, 3, none⟩ = some (.slice A0_3 l0_3.length c0_3) := hS_
        refine norm_ (a' := ?_) ?_ ?_
        rotate_left
        ·simp only [putAll, Act.put, List.setIfInBounds_toArray, List.set_cons_zero, List.set_cons_succ]
         rfl
        refine two_ (i := 9) (j := 10) (Ni := some 12) (Nj := some 13) #[true, true, true, true, true, true, true, true, true, true, false, true, true, false, false, false] #[true, true, true, true, true, true, true, true, true, false, true, true, true, false, false, false] rfl rfl rfl rfl (two_of HT_.out (by kernel_rfl)) (by decide) (by decide) (fun K hK => ?_) (fun K hK => ?_)
        ·skip
         refine Kd.R_append_rows_step Kd.string (w0 := w) w.heap.size (by rfl) (.tmp 9) (.tmp 11) 23 9 (.string ⟨#[]⟩) 16 rfl Tryd.underlying23 info9 rfl (by decide) (by omega) v219 y218 l0_2 _ _ _ (fun _ => True) (fun _ => False) rfl rfl ?aO ?aR (fun _ _ h => h) (fun _ h => h.elim) ?aF ?aB ?aS ?aL ?_
         (case aR => repeat (first | exact (Kd.C_below HR0_2.out HB.out) | (with_reducible refine Kd.C_alloc ?_ _) | (with_reducible refine Kd.C_drewN ?_ _) | (with_reducible refine Kd.C_drew ?_)))
         (case aB => exact (by repeat (first | (with_reducible first | exact HB.out | apply below_alloc | apply pw_below_drewN | apply below_drew1 | refine below_set ?_ GE210.out | refine below_set ?_ GE211.out) | exact HB.out)))
         (case aF => exact (fun _ _ => trivial))
         (case aO => exact (by (with_reducible repeat (first | apply Kd.R_alloc | apply Kd.R_drewN | apply Kd.R_drew)); exact HO220.out))
         (case aS => exact (below_size (by repeat (first | (with_reducible first | exact HB.out | apply below_alloc | apply pw_below_drewN | apply below_drew1 | refine below_set ?_ GE210.out | refine below_set ?_ GE211.out) | exact HB.out))))
         (case aL => have := LMc3.out; omega)
         intro v222 w14 ho hb hg hat
         rw [← Ny221.out] at ho
         have n0_ := Aside0.mk (blk_grown (g := gb210) (o := .cells #[.int .i64 a0_0, .slice A0_1 l0_1.length c0_1, .slice A0_2 l0_2.length c0_2, .slice A0_3 l0_3.length c0_3] 26 (0, 0)) (by (with_reducible repeat (first | refine blk_drewN ?_ _ | refine blk_drew ?_ | refine blk_alloc ?_ _)); exact BK210.out) hg (Kd.R_ne HO220.out BK210.out (by decide)))
         have n1_ := Aside0.mk (blk_grown (g := gb211) (o := .cells #[.int .i64 0, .slice none 0 0, .slice none 0 0, .slice none 0 0] 26 (0, 0)) (by (with_reducible repeat (first | refine blk_drewN ?_ _ | refine blk_drew ?_ | refine blk_alloc ?_ _)); exact BK211.out) hg (Kd.R_ne HO220.out BK211.out (by decide)))
         have n2_ := Aside0.mk (Kd.R_over' (by (with_reducible repeat (first | apply Kd.R_alloc | apply Kd.R_drewN | apply Kd.R_drew)); exact HO217.out) (Kd.R_typed (by (with_reducible repeat (first | apply Kd.R_alloc | apply Kd.R_drewN | apply Kd.R_drew)); exact HO220.out)) (by decide) hg)
         have n3_ := Aside0.mk (hb)
         have n4_ := Aside0.mk (ho)
         clear BK210
         clear BK211
         clear HO217
         clear HB
         clear HO220
         have BK210 := n0_
         have BK211 := n1_
         have HO217 := n2_
         have HB := n3_
         have HO223 := n4_
         clear n0_ n1_ n2_ n3_ n4_
         clear ho hb hg hat
         refine hK.out _ _ ⟨(blk_cell BK210.out 0).trans rfl, (blk_cell BK210.out 1).trans rfl, (blk_cell BK210.out 2).trans rfl, (blk_cell BK210.out 3).trans rfl⟩ (fun hHeld => ?_)
         clear hK K
         refine norm_ (a' := ?_) ?_ ?_
         rotate_left
         ·show Act.put _ (some 12) _ = _
          simp only [Act.put, List.setIfInBounds_toArray, List.set_cons_zero, List.set_cons_succ, i64_w, i32_w]
          rfl
         exact norm_ (by first | (simp only [putAll, Act.put, List.setIfInBounds_toArray, List.set_cons_zero, List.set_cons_succ]; done) | (simp only [putAll, Act.put, List.setIfInBounds_toArray, List.set_cons_zero, List.set_cons_succ]; rfl)) (hJ2_5_6_9 (v213, v216, v219, v222) _ ⟨hHeld, (by (with_reducible repeat (first | apply Kd.R_alloc | apply Kd.R_drewN | apply Kd.R_drew)); exact HO217.out), (by (with_reducible repeat (first | apply Kd.R_alloc | apply Kd.R_drewN | apply Kd.R_drew)); exact HO223.out), (by (with_reducible repeat (first | refine blk_drewN ?_ _ | refine blk_drew ?_ | refine blk_alloc ?_ _)); exact BK210.out), (by (with_reducible repeat (first | refine blk_drewN ?_ _ | refine blk_drew ?_ | refine blk_alloc ?_ _)); exact BK211.out), (by repeat (first | (with_reducible first | exact HB.out | apply below_alloc | apply pw_below_drewN | apply below_drew1 | refine below_set ?_ GE210.out | refine below_set ?_ GE211.out) | exact HB.out))⟩)
        ·skip
         refine Kd.R_lit_step (Kd.int .i64) _ 3 ?hg (N := 13) ?hd (xs := ([] : List Int)) (inner := []) (ok := fun _ => True) (okp := fun _ => True) ?hr ?hp (fun _ hk => hk) trivial (Below.refl _ _) (Nat.le_refl _) (by simp) ?_; (case hd => rfl); (case hg => rfl); (case hr => first | (go_simp; done) | (go_simp; rfl)); (case hp => exact (Reps.none _ _))
         intro v225 w14 ho15 hb hg_ hnew_
         clear hg_ hnew_
         (first | rw [← Ny224.out] at ho15 | (simp only [Int.reduceToNat] at ho15; rw [← Ny224.out] at ho15))
         have n0_ := Aside0.mk (Kd.R_below (by (with_reducible repeat (first | apply Kd.R_alloc | apply Kd.R_drewN | apply Kd.R_drew)); exact HO217.out) hb)
         have n1_ := Aside0.mk (Kd.R_below (by (with_reducible repeat (first | apply Kd.R_alloc | apply Kd.R_drewN | apply Kd.R_drew)); exact HO220.out) hb)
         have n2_ := Aside0.mk (Kd.R_lower ho15 (below_size (by repeat (first | (with_reducible first | exact HB.out | apply below_alloc | apply pw_below_drewN | apply below_drew1 | refine below_set ?_ GE210.out | refine below_set ?_ GE211.out) | exact HB.out))))
         have n3_ := Aside0.mk (blk_below (g := gb210) (o := .cells #[.int .i64 a0_0, .slice A0_1 l0_1.length c0_1, .slice A0_2 l0_2.length c0_2, .slice A0_3 l0_3.length c0_3] 26 (0, 0)) (by (with_reducible repeat (first | refine blk_drewN ?_ _ | refine blk_drew ?_ | refine blk_alloc ?_ _)); exact BK210.out) hb)
         have n4_ := Aside0.mk (blk_below (g := gb211) (o := .cells #[.int .i64 0, .slice none 0 0, .slice none 0 0, .slice none 0 0] 26 (0, 0)) (by (with_reducible repeat (first | refine blk_drewN ?_ _ | refine blk_drew ?_ | refine blk_alloc ?_ _)); exact BK211.out) hb)
         have n5_ := Aside0.mk (below_step (by repeat (first | (with_reducible first | exact HB.out | apply below_alloc | apply pw_below_drewN | apply below_drew1 | refine below_set ?_ GE210.out | refine below_set ?_ GE211.out) | exact HB.out)) hb)
         clear HO217
         clear HO220
         clear BK210
         clear BK211
         clear HB
         have HO217 := n0_
         have HO220 := n1_
         have HO226 := n2_
         have BK210 := n3_
         have BK211 := n4_
         have HB := n5_
         clear n0_ n1_ n2_ n3_ n4_ n5_
         clear hb ho15
         refine hK.out _ _ ⟨(blk_cell BK210.out 0).trans rfl, (blk_cell BK210.out 1).trans rfl, (blk_cell BK210.out 2).trans rfl, (blk_cell BK210.out 3).trans rfl⟩ (fun hHeld => ?_)
         clear hK K
         refine norm_ (a' := ?_) ?_ ?_
         rotate_left
         ·show Act.put _ (some 13) _ = _
          simp only [Act.put, List.setIfInBounds_toArray, List.set_cons_zero, List.set_cons_succ, i64_w, i32_w]
          rfl
         exact norm_ (by first | (simp only [putAll, Act.put, List.setIfInBounds_toArray, List.set_cons_zero, List.set_cons_succ]; done) | (simp only [putAll, Act.put, List.setIfInBounds_toArray, List.set_cons_zero, List.set_cons_succ]; rfl)) (hJ2_5_6_10 (v213, v216, v219, v225) _ ⟨hHeld, (by (with_reducible repeat (first | apply Kd.R_alloc | apply Kd.R_drewN | apply Kd.R_drew)); exact HO217.out), (by (with_reducible repeat (first | apply Kd.R_alloc | apply Kd.R_drewN | apply Kd.R_drew)); exact HO220.out), (by (with_reducible repeat (first | apply Kd.R_alloc | apply Kd.R_drewN | apply Kd.R_drew)); exact HO226.out), (by (with_reducible repeat (first | refine blk_drewN ?_ _ | refine blk_drew ?_ | refine blk_alloc ?_ _)); exact BK210.out), (by (with_reducible repeat (first | refine blk_drewN ?_ _ | refine blk_drew ?_ | refine blk_alloc ?_ _)); exact BK211.out), (by repeat (first | (with_reducible first | exact HB.out | apply below_alloc | apply pw_below_drewN | apply below_drew1 | refine below_set ?_ GE210.out | refine below_set ?_ GE211.out) | exact HB.out))⟩)
      ·skip
       rintro ⟨v213, v216, v219, v225⟩ w15 ⟨hS_, h0_, h1_, h2_, h3_, h4_, h5_⟩
       have n0_ : Aside0 (Kd.R (Kd.int .i64) 2 w15 w.heap.size (fun _ => True) v216 y215) := ⟨h0_⟩
       have n1_ : Aside0 (Kd.R Kd.string 9 w15 w.heap.size (fun _ => True) v219 y218) := ⟨h1_⟩
       have n2_ : Aside0 (Kd.R (Kd.int .i64) 3 w15 w.heap.size (fun _ => True) v225 y224) := ⟨h2_⟩
       have n3_ : Aside0 (w15.heap[gb210]? = some (.cells #[.int .i64 a0_0, .slice A0_1 l0_1.length c0_1, .slice A0_2 l0_2.length c0_2, .slice A0_3 l0_3.length c0_3] 26 (0, 0))) := ⟨h3_⟩
       have n4_ : Aside0 (w15.heap[gb211]? = some (.cells #[.int .i64 0, .slice none 0 0, .slice none 0 0, .slice none 0 0] 26 (0, 0))) := ⟨h4_⟩
       have n5_ : Aside0 (Below w.heap.size w w15) := ⟨h5_⟩
       clear BK210
       clear BK211
       clear HB
       clear h0_ h1_ h2_ h3_ h4_ h5_
       have HO217 := n0_
       have HO220 := n1_
       have HO226 := n2_
       have BK210 := n3_
       have BK211 := n4_
       have HB := n5_
       clear n0_ n1_ n2_ n3_ n4_ n5_
       have hHeld : w15.cell? ⟨gb210, 0, none⟩ = some (.int .i64 a0_0) ∧ w15.cell? ⟨gb210, 1, none⟩ = some (.slice A0_1 l0_1.length c0_1) ∧ w15.cell? ⟨gb210, 2, none⟩ = some (.slice A0_2 l0_2.length c0_2) ∧ w15.cell? ⟨gb210, 3, none⟩ = some (.slice A0_3 l0_3.length c0_3) := hS_
       refine norm_ (a' := ?_) ?_ ?_
       rotate_left
       ·simp only [putAll, Act.put, List.setIfInBounds_toArray, List.set_cons_zero, List.set_cons_succ]
        rfl
       refine one_ (i := 9) (N := some 12) #[true, true, true, true, true, true, true, true, true, true, true, true, true, false, false, false] rfl rfl (one_of HT_.out (by kernel_rfl)) (by decide) (fun K hK => ?_)
       refine Kd.R_append_rows_step Kd.string (w0 := w) w.heap.size (by rfl) (.tmp 9) (.tmp 11) 23 9 (.string ⟨#[]⟩) 16 rfl Tryd.underlying23 info9 rfl (by decide) (by omega) v219 y218 l0_2 _ _ _ (fun _ => True) (fun _ => False) rfl rfl ?aO ?aR (fun _ _ h => h) (fun _ h => h.elim) ?aF ?aB ?aS ?aL ?_
       (case aR => repeat (first | exact (Kd.C_below HR0_2.out HB.out) | (with_reducible refine Kd.C_alloc ?_ _) | (with_reducible refine Kd.C_drewN ?_ _) | (with_reducible refine Kd.C_drew ?_)))
       (case aB => exact (by repeat (first | (with_reducible first | exact HB.out | apply below_alloc | apply pw_below_drewN | apply below_drew1 | refine below_set ?_ GE210.out | refine below_set ?_ GE211.out) | exact HB.out)))
       (case aF => exact (fun _ _ => trivial))
       (case aO => exact (by (with_reducible repeat (first | apply Kd.R_alloc | apply Kd.R_drewN | apply Kd.R_drew)); exact HO220.out))
       (case aS => exact (below_size (by repeat (first | (with_reducible first | exact HB.out | apply below_alloc | apply pw_below_drewN | apply below_drew1 | refine below_set ?_ GE210.out | refine below_set ?_ GE211.out) | exact HB.out))))
       (case aL => have := LMc3.out; omega)
       intro v222 w16 ho hb hg hat
       rw [← Ny221.out] at ho
       have n0_ := Aside0.mk (blk_grown (g := gb210) (o := .cells #[.int .i64 a0_0, .slice A0_1 l0_1.length c0_1, .slice A0_2 l0_2.length c0_2, .slice A0_3 l0_3.length c0_3] 26 (0, 0)) (by (with_reducible repeat (first | refine blk_drewN ?_ _ | refine blk_drew ?_ | refine blk_alloc ?_ _)); exact BK210.out) hg (Kd.R_ne HO220.out BK210.out (by decide)))
       have n1_ := Aside0.mk (blk_grown (g := gb211) (o := .cells #[.int .i64 0, .slice none 0 0, .slice none 0 0, .slice none 0 0] 26 (0, 0)) (by (with_reducible repeat (first | refine blk_drewN ?_ _ | refine blk_drew ?_ | refine blk_alloc ?_ _)); exact BK211.out) hg (Kd.R_ne HO220.out BK211.out (by decide)))
       have n2_ := Aside0.mk (Kd.R_over' (by (with_reducible repeat (first | apply Kd.R_alloc | apply Kd.R_drewN | apply Kd.R_drew)); exact HO217.out) (Kd.R_typed (by (with_reducible repeat (first | apply Kd.R_alloc | apply Kd.R_drewN | apply Kd.R_drew)); exact HO220.out)) (by decide) hg)
       have n3_ := Aside0.mk (Kd.R_over' (by (with_reducible repeat (first | apply Kd.R_alloc | apply Kd.R_drewN | apply Kd.R_drew)); exact HO226.out) (Kd.R_typed (by (with_reducible repeat (first | apply Kd.R_alloc | apply Kd.R_drewN | apply Kd.R_drew)); exact HO220.out)) (by decide) hg)
       have n4_ := Aside0.mk (hb)
       have n5_ := Aside0.mk (ho)
       clear BK210
       clear BK211
       clear HO217
       clear HO226
       clear HB
       clear HO220
       have BK210 := n0_
       have BK211 := n1_
       have HO217 := n2_
       have HO226 := n3_
       have HB := n4_
       have HO223 := n5_
       clear n0_ n1_ n2_ n3_ n4_ n5_
       clear ho hb hg hat
       refine hK.out _ _ ⟨(blk_cell BK210.out 0).trans rfl, (blk_cell BK210.out 1).trans rfl, (blk_cell BK210.out 2).trans rfl, (blk_cell BK210.out 3).trans rfl⟩ (fun hHeld => ?_)
       clear hK K
       refine norm_ (a' := ?_) ?_ ?_
       rotate_left
       ·show Act.put _ (some 12) _ = _
        simp only [Act.put, List.setIfInBounds_toArray, List.set_cons_zero, List.set_cons_succ, i64_w, i32_w]
        rfl
       exact norm_ (by first | (simp only [putAll, Act.put, List.setIfInBounds_toArray, List.set_cons_zero, List.set_cons_succ]; done) | (simp only [putAll, Act.put, List.setIfInBounds_toArray, List.set_cons_zero, List.set_cons_succ]; rfl)) (hJ2_5_6_9_10 (v213, v216, v219, v222, v225) _ ⟨hHeld, (by (with_reducible repeat (first | apply Kd.R_alloc | apply Kd.R_drewN | apply Kd.R_drew)); exact HO217.out), (by (with_reducible repeat (first | apply Kd.R_alloc | apply Kd.R_drewN | apply Kd.R_drew)); exact HO223.out), (by (with_reducible repeat (first | apply Kd.R_alloc | apply Kd.R_drewN | apply Kd.R_drew)); exact HO226.out), (by (with_reducible repeat (first | refine blk_drewN ?_ _ | refine blk_drew ?_ | refine blk_alloc ?_ _)); exact BK210.out), (by (with_reducible repeat (first | refine blk_drewN ?_ _ | refine blk_drew ?_ | refine blk_alloc ?_ _)); exact BK211.out), (by repeat (first | (with_reducible first | exact HB.out | apply below_alloc | apply pw_below_drewN | apply below_drew1 | refine below_set ?_ GE210.out | refine below_set ?_ GE211.out) | exact HB.out))⟩)
     ·skip
      rintro ⟨v213, v216, v219, v222⟩ w14 ⟨hS_, h0_, h1_, h2_, h3_, h4_⟩
      have n0_ : Aside0 (Kd.R (Kd.int .i64) 2 w14 w.heap.size (fun _ => True) v216 y215) := ⟨h0_⟩
      have n1_ : Aside0 (Kd.R Kd.string 9 w14 w.heap.size (fun _ => True) v222 y221) := ⟨h1_⟩
      have n2_ : Aside0 (w14.heap[gb210]? = some (.cells #[.int .i64 a0_0, .slice A0_1 l0_1.length c0_1, .slice A0_2 l0_2.length c0_2, .slice A0_3 l0_3.length c0_3] 26 (0, 0))) := ⟨h2_⟩
      have n3_ : Aside0 (w14.heap[gb211]? = some (.cells #[.int .i64 0, .slice none 0 0, .slice none 0 0, .slice none 0 0] 26 (0, 0))) := ⟨h3_⟩
      have n4_ : Aside0 (Below w.heap.size w w14) := ⟨h4_⟩
      clear BK210
      clear BK211
      clear HB
      clear h0_ h1_ h2_ h3_ h4_
      have HO217 := n0_
      have HO223 := n1_
      have BK210 := n2_
      have BK211 := n3_
      have HB := n4_
      clear n0_ n1_ n2_ n3_ n4_
      have hHeld : w14.cell? ⟨gb210, 0, none⟩ = some (.int .i64 a0_0) ∧ w14.cell? ⟨gb210, 1, none⟩ = some (.slice A0_1 l0_1.length c0_1) ∧ w14.cell? ⟨gb210, 2, none⟩ = some (.slice A0_2 l0_2.length c0_2) ∧ w14.cell? ⟨gb210, 3, none⟩ = some (.slice A0_3 l0_3.length c0_3) := hS_
      refine norm_ (a' := ?_) ?_ ?_
      rotate_left
      ·simp only [putAll, Act.put, List.setIfInBounds_toArray, List.set_cons_zero, List.set_cons_succ]
       rfl
      refine one_ (i := 10) (N := some 13) #[true, true, true, true, true, true, true, true, true, true, true, true, true, false, false, false] rfl rfl (one_of HT_.out (by kernel_rfl)) (by decide) (fun K hK => ?_)
      refine Kd.R_lit_step (Kd.int .i64) _ 3 ?hg (N := 13) ?hd (xs := ([] : List Int)) (inner := []) (ok := fun _ => True) (okp := fun _ => True) ?hr ?hp (fun _ hk => hk) trivial (Below.refl _ _) (Nat.le_refl _) (by simp) ?_; (case hd => rfl); (case hg => rfl); (case hr => first | (go_simp; done) | (go_simp; rfl)); (case hp => exact (Reps.none _ _))
      intro v225 w15 ho16 hb hg_ hnew_
      clear hg_ hnew_
      (first | rw [← Ny224.out] at ho16 | (simp only [Int.reduceToNat] at ho16; rw [← Ny224.out] at ho16))
      have n0_ := Aside0.mk (Kd.R_below (by (with_reducible repeat (first | apply Kd.R_alloc | apply Kd.R_drewN | apply Kd.R_drew)); exact HO217.out) hb)
      have n1_ := Aside0.mk (Kd.R_below (by (with_reducible repeat (first | apply Kd.R_alloc | apply Kd.R_drewN | apply Kd.R_drew)); exact HO223.out) hb)
      have n2_ := Aside0.mk (Kd.R_lower ho16 (below_size (by repeat (first | (with_reducible first | exact HB.out | apply below_alloc | apply pw_below_drewN | apply below_drew1 | refine below_set ?_ GE210.out | refine below_set ?_ GE211.out) | exact HB.out))))
      have n3_ := Aside0.mk (blk_below (g := gb210) (o := .cells #[.int .i64 a0_0, .slice A0_1 l0_1.length c0_1, .slice A0_2 l0_2.length c0_2, .slice A0_3 l0_3.length c0_3] 26 (0, 0)) (by (with_reducible repeat (first | refine blk_drewN ?_ _ | refine blk_drew ?_ | refine blk_alloc ?_ _)); exact BK210.out) hb)
      have n4_ := Aside0.mk (blk_below (g := gb211) (o := .cells #[.int .i64 0, .slice none 0 0, .slice none 0 0, .slice none 0 0] 26 (0, 0)) (by (with_reducible repeat (first | refine blk_drewN ?_ _ | refine blk_drew ?_ | refine blk_alloc ?_ _)); exact BK211.out) hb)
      have n5_ := Aside0.mk (below_step (by repeat (first | (with_reducible first | exact HB.out | apply below_alloc | apply pw_below_drewN | apply below_drew1 | refine below_set ?_ GE210.out | refine below_set ?_ GE211.out) | exact HB.out)) hb)
      clear HO217
      clear HO223
      clear BK210
      clear BK211
      clear HB
      have HO217 := n0_
      have HO223 := n1_
      have HO226 := n2_
      have BK210 := n3_
      have BK211 := n4_
      have HB := n5_
      clear n0_ n1_ n2_ n3_ n4_ n5_
      clear hb ho16
      refine hK.out _ _ ⟨(blk_cell BK210.out 0).trans rfl, (blk_cell BK210.out 1).trans rfl, (blk_cell BK210.out 2).trans rfl, (blk_cell BK210.out 3).trans rfl⟩ (fun hHeld => ?_)
      clear hK K
      refine norm_ (a' := ?_) ?_ ?_
      rotate_left
      ·show Act.put _ (some 13) _ = _
       simp only [Act.put, List.setIfInBounds_toArray, List.set_cons_zero, List.set_cons_succ, i64_w, i32_w]
       rfl
      exact norm_ (by first | (simp only [putAll, Act.put, List.setIfInBounds_toArray, List.set_cons_zero, List.set_cons_succ]; done) | (simp only [putAll, Act.put, List.setIfInBounds_toArray, List.set_cons_zero, List.set_cons_succ]; rfl)) (hJ2_5_6_9_10 (v213, v216, v219, v222, v225) _ ⟨hHeld, (by (with_reducible repeat (first | apply Kd.R_alloc | apply Kd.R_drewN | apply Kd.R_drew)); exact HO217.out), (by (with_reducible repeat (first | apply Kd.R_alloc | apply Kd.R_drewN | apply Kd.R_drew)); exact HO223.out), (by (with_reducible repeat (first | apply Kd.R_alloc | apply Kd.R_drewN | apply Kd.R_drew)); exact HO226.out), (by (with_reducible repeat (first | refine blk_drewN ?_ _ | refine blk_drew ?_ | refine blk_alloc ?_ _)); exact BK210.out), (by (with_reducible repeat (first | refine blk_drewN ?_ _ | refine blk_drew ?_ | refine blk_alloc ?_ _)); exact BK211.out), (by repeat (first | (with_reducible first | exact HB.out | apply below_alloc | apply pw_below_drewN | apply below_drew1 | refine below_set ?_ GE210.out | refine below_set ?_ GE211.out) | exact HB.out))⟩)
    rintro ⟨v213, v216, v219, v222, v225⟩ w16 ⟨hS_, h0_, h1_, h2_, h3_, h4_, h5_⟩
    have n0_ : Aside0 (Kd.R (Kd.int .i64) 2 w16 w.heap.size (fun _ => True) v216 y215) := ⟨h0_⟩
    have n1_ : Aside0 (Kd.R Kd.string 9 w16 w.heap.size (fun _ => True) v222 y221) := ⟨h1_⟩
    have n2_ : Aside0 (Kd.R (Kd.int .i64) 3 w16 w.heap.size (fun _ => True) v225 y224) := ⟨h2_⟩
    have n3_ : Aside0 (w16.heap[gb210]? = some (.cells #[.int .i64 a0_0, .slice A0_1 l0_1.length c0_1, .slice A0_2 l0_2.length c0_2, .slice A0_3 l0_3.length c0_3] 26 (0, 0))) := ⟨h3_⟩
    have n4_ : Aside0 (w16.heap[gb211]? = some (.cells #[.int .i64 0, .slice none 0 0, .slice none 0 0, .slice none 0 0] 26 (0, 0))) := ⟨h4_⟩
    have n5_ : Aside0 (Below w.heap.size w w16) := ⟨h5_⟩
    clear BK210
    clear BK211
    clear HB
    clear h0_ h1_ h2_ h3_ h4_ h5_
    have HO217 := n0_
    have HO223 := n1_
    have HO226 := n2_
    have BK210 := n3_
    have BK211 := n4_
    have HB := n5_
    clear n0_ n1_ n2_ n3_ n4_ n5_
    have hHeld : w16.cell? ⟨gb210, 0, none⟩ = some (.int .i64 a0_0) ∧ w16.cell? ⟨gb210, 1, none⟩ = some (.slice A0_1 l0_1.length c0_1) ∧ w16.cell? ⟨gb210, 2, none⟩ = some (.slice A0_2 l0_2.length c0_2) ∧ w16.cell? ⟨gb210, 3, none⟩ = some (.slice A0_3 l0_3.length c0_3) := hS_
    refine norm_ (a' := ?_) ?_ ?_
    rotate_left
    ·simp only [putAll, Act.put, List.setIfInBounds_toArray, List.set_cons_zero, List.set_cons_succ]
     rfl
    refine one_ (i := 13) (N := some 16) #[true, true, true, true, true, true, true, true, true, true, true, true, true, true, false, false] rfl rfl (one_of HT_.out (by kernel_rfl)) (by decide) (fun K hK => ?_)
    refine Kd.R_append_rows_step (Kd.int .i64) (w0 := w) w.heap.size (by rfl) (.tmp 13) (.tmp 15) 24 3 (.int .i64 0) 8 rfl Tryd.underlying24 info3 rfl (by decide) (by omega) v225 y224 l0_3 _ _ _ (fun _ => True) (fun _ => False) rfl rfl ?aO ?aR (fun _ _ h => h) (fun _ h => h.elim) ?aF ?aB ?aS ?aL ?_
    (case aR => repeat (first | exact (Kd.C_below HR0_3.out HB.out) | (with_reducible refine Kd.C_alloc ?_ _) | (with_reducible refine Kd.C_drewN ?_ _) | (with_reducible refine Kd.C_drew ?_)))
    (case aB => exact (by repeat (first | (with_reducible first | exact HB.out | apply below_alloc | apply pw_below_drewN | apply below_drew1 | refine below_set ?_ GE210.out | refine below_set ?_ GE211.out) | exact HB.out)))
    (case aF => exact (fun _ _ => trivial))
    (case aO => exact (by (with_reducible repeat (first | apply Kd.R_alloc | apply Kd.R_drewN | apply Kd.R_drew)); exact HO226.out))
    (case aS => exact (below_size (by repeat (first | (with_reducible first | exact HB.out | apply below_alloc | apply pw_below_drewN | apply below_drew1 | refine below_set ?_ GE210.out | refine below_set ?_ GE211.out) | exact HB.out))))
    (case aL => have := LMc4.out; omega)
    intro v228 w17 ho hb hg hat
    rw [← Ny227.out] at ho
    have n0_ := Aside0.mk (blk_grown (g := gb210) (o := .cells #[.int .i64 a0_0, .slice A0_1 l0_1.length c0_1, .slice A0_2 l0_2.length c0_2, .slice A0_3 l0_3.length c0_3] 26 (0, 0)) (by (with_reducible repeat (first | refine blk_drewN ?_ _ | refine blk_drew ?_ | refine blk_alloc ?_ _)); exact BK210.out) hg (Kd.R_ne HO226.out BK210.out (by decide)))
    have n1_ := Aside0.mk (blk_grown (g := gb211) (o := .cells #[.int .i64 0, .slice none 0 0, .slice none 0 0, .slice none 0 0] 26 (0, 0)) (by (with_reducible repeat (first | refine blk_drewN ?_ _ | refine blk_drew ?_ | refine blk_alloc ?_ _)); exact BK211.out) hg (Kd.R_ne HO226.out BK211.out (by decide)))
    have n2_ := Aside0.mk (Kd.R_over' (by (with_reducible repeat (first | apply Kd.R_alloc | apply Kd.R_drewN | apply Kd.R_drew)); exact HO217.out) (Kd.R_typed (by (with_reducible repeat (first | apply Kd.R_alloc | apply Kd.R_drewN | apply Kd.R_drew)); exact HO226.out)) (by decide) hg)
    have n3_ := Aside0.mk (Kd.R_over' (by (with_reducible repeat (first | apply Kd.R_alloc | apply Kd.R_drewN | apply Kd.R_drew)); exact HO223.out) (Kd.R_typed (by (with_reducible repeat (first | apply Kd.R_alloc | apply Kd.R_drewN | apply Kd.R_drew)); exact HO226.out)) (by decide) hg)
    have n4_ := Aside0.mk (hb)
    have n5_ := Aside0.mk (ho)
    clear BK210
    clear BK211
    clear HO217
    clear HO223
    clear HB
    clear HO226
    have BK210 := n0_
    have BK211 := n1_
    have HO217 := n2_
    have HO223 := n3_
    have HB := n4_
    have HO229 := n5_
    clear n0_ n1_ n2_ n3_ n4_ n5_
    clear ho hb hg hat
    obtain ⟨Ao18, co18, eo18⟩ := Kd.R_slice HO229.out
    (first | subst eo18 | (injection eo18 with f1_ f2_ f3_; have f4_ := f1_.symm; have f5_ := f3_.symm; clear f1_ f2_ f3_; subst f4_; subst f5_))
    obtain ⟨Ao19, co19, eo19⟩ := Kd.R_slice HO223.out
    (first | subst eo19 | (injection eo19 with f1_ f2_ f3_; have f4_ := f1_.symm; have f5_ := f3_.symm; clear f1_ f2_ f3_; subst f4_; subst f5_))
    obtain ⟨Ao20, co20, eo20⟩ := Kd.R_slice HO217.out
    (first | subst eo20 | (injection eo20 with f1_ f2_ f3_; have f4_ := f1_.symm; have f5_ := f3_.symm; clear f1_ f2_ f3_; subst f4_; subst f5_))
    refine hK.out _ _ ⟨(blk_cell BK210.out 0).trans rfl, (blk_cell BK210.out 1).trans rfl, (blk_cell BK210.out 2).trans rfl, (blk_cell BK210.out 3).trans rfl⟩ (fun hHeld => ?_)
    clear hK K
    refine norm_ (a' := ?_) ?_ ?_
    rotate_left
    ·show Act.put _ (some 16) _ = _
     simp only [Act.put, List.setIfInBounds_toArray, List.set_cons_zero, List.set_cons_succ, i64_w, i32_w]
     rfl
    refine pure_ (i := 14) (N := some 17) (v := ?_) (a' := ?_) #[true, true, true, true, true, true, true, true, true, true, true, true, true, true, true, false] rfl rfl (any_of HT_.out (by kernel_rfl)) (fun _ _ _ h => h) (Or.inl ⟨by rfl, ?_⟩) ?_ ?_
    rotate_left
    ·intro w'
     go_simp
     with_reducible rfl
    rotate_left
    ·simp only [Act.put, List.setIfInBounds_toArray, List.set_cons_zero, List.set_cons_succ, i64_w, i32_w]
     rfl
    refine one_ (i := 15) (N := none) #[true, true, true, true, true, true, true, true, true, true, true, true, true, true, true, true] rfl rfl (one_of HT_.out (by kernel_rfl)) (by decide) (fun K hK => ?_)
    have hs21 : w17.cell? ⟨gb211, 0, none⟩ = some (.int .i64 0) := (blk_cell BK211.out 0).trans rfl
    have hfs21 := blk_frozen BK211.out 0
    have hns21_0 := NB210_211.out
    have hms21_0 := NB211_210.out
    have hs22 : w17.cell? ⟨gb211, 1, none⟩ = some (.slice none 0 0) := (blk_cell BK211.out 1).trans rfl
    have hfs22 := blk_frozen BK211.out 1
    have hns22_0 := NB210_211.out
    have hms22_0 := NB211_210.out
    have hs23 : w17.cell? ⟨gb211, 2, none⟩ = some (.slice none 0 0) := (blk_cell BK211.out 2).trans rfl
    have hfs23 := blk_frozen BK211.out 2
    have hns23_0 := NB210_211.out
    have hms23_0 := NB211_210.out
    have hs24 : w17.cell? ⟨gb211, 3, none⟩ = some (.slice none 0 0) := (blk_cell BK211.out 3).trans rfl
    have hfs24 := blk_frozen BK211.out 3
    have hns24_0 := NB210_211.out
    have hms24_0 := NB211_210.out
    refine skip_ (w1 := ?_) (by rfl) rfl ?_ ?_
    rotate_left
    ·go_simp
     rfl
    refine hK.out _ _ ⟨((cell_far (p := ⟨gb211, _, none⟩) NB210_211.out _).trans (((cell_far (p := ⟨gb211, _, none⟩) NB210_211.out _).trans (((cell_far (p := ⟨gb211, _, none⟩) NB210_211.out _).trans (((cell_far (p := ⟨gb211, _, none⟩) NB210_211.out _).trans (hHeld.1)))))))), ((cell_far (p := ⟨gb211, _, none⟩) NB210_211.out _).trans (((cell_far (p := ⟨gb211, _, none⟩) NB210_211.out _).trans (((cell_far (p := ⟨gb211, _, none⟩) NB210_211.out _).trans (((cell_far (p := ⟨gb211, _, none⟩) NB210_211.out _).trans (hHeld.2.1)))))))), ((cell_far (p := ⟨gb211, _, none⟩) NB210_211.out _).trans (((cell_far (p := ⟨gb211, _, none⟩) NB210_211.out _).trans (((cell_far (p := ⟨gb211, _, none⟩) NB210_211.out _).trans (((cell_far (p := ⟨gb211, _, none⟩) NB210_211.out _).trans (hHeld.2.2.1)))))))), ((cell_far (p := ⟨gb211, _, none⟩) NB210_211.out _).trans (((cell_far (p := ⟨gb211, _, none⟩) NB210_211.out _).trans (((cell_far (p := ⟨gb211, _, none⟩) NB210_211.out _).trans (((cell_far (p := ⟨gb211, _, none⟩) NB210_211.out _).trans (hHeld.2.2.2))))))))⟩ (fun hHeld => ?_)
    clear hK K
    refine done_ (done_of HT_.out (by kernel_rfl)) ?_
    try go_wp2
    refine bodyPost_ret (results_cell_row rfl _ _ gb211 26 #[.int .i64 a0_0, .slice Ao20 y215.length co20, .slice Ao19 y221.length co19, .slice Ao18 y227.length co18] (0, 0) _ rfl (by (with_reducible repeat (first | refine blk_drewN ?_ _ | refine blk_drew ?_ | refine blk_alloc ?_ _)); refine blk_put (cs := #[.int .i64 a0_0, .slice Ao20 y215.length co20, .slice Ao19 y221.length co19, .slice none 0 0]) ?_ 3 _ rfl; (with_reducible repeat (first | refine blk_drewN ?_ _ | refine blk_drew ?_ | refine blk_alloc ?_ _)); refine blk_put (cs := #[.int .i64 a0_0, .slice Ao20 y215.length co20, .slice none 0 0, .slice none 0 0]) ?_ 2 _ rfl; (with_reducible repeat (first | refine blk_drewN ?_ _ | refine blk_drew ?_ | refine blk_alloc ?_ _)); refine blk_put (cs := #[.int .i64 a0_0, .slice none 0 0, .slice none 0 0, .slice none 0 0]) ?_ 1 _ rfl; (with_reducible repeat (first | refine blk_drewN ?_ _ | refine blk_drew ?_ | refine blk_alloc ?_ _)); refine blk_put (cs := #[.int .i64 0, .slice none 0 0, .slice none 0 0, .slice none 0 0]) ?_ 0 _ rfl; (with_reducible repeat (first | refine blk_drewN ?_ _ | refine blk_drew ?_ | refine blk_alloc ?_ _)); exact BK211.out) Tryd.underlying26 rfl (by kernel_rfl)) rfl ?_
    exact ⟨_, _, _, by first | rfl | (simp [errW_none, errW_some] <;> rfl) | (simp [*, errW_none, errW_some] <;> rfl), by (with_reducible repeat (first | apply Kd.R_alloc | apply Kd.R_drewN | apply Kd.R_drew)); exact Kd.R_mono (Kd.R_far (p := ⟨gb211, 3, none⟩) (Kd.R_far (p := ⟨gb211, 2, none⟩) (Kd.R_far (p := ⟨gb211, 1, none⟩) (Kd.R_far (p := ⟨gb211, 0, none⟩) (Kd.R_types HO217.out BK211.out (by decide)) (fun _ hk => hk.2) (.int .i64 a0_0)) (fun _ hk => hk.2) (.slice Ao20 y215.length co20)) (fun _ hk => hk.2) (.slice Ao19 y221.length co19)) (fun _ hk => hk.2) (.slice Ao18 y227.length co18)) (fun _ hk => trivial), by (with_reducible repeat (first | apply Kd.R_alloc | apply Kd.R_drewN | apply Kd.R_drew)); exact Kd.R_mono (Kd.R_far (p := ⟨gb211, 3, none⟩) (Kd.R_far (p := ⟨gb211, 2, none⟩) (Kd.R_far (p := ⟨gb211, 1, none⟩) (Kd.R_far (p := ⟨gb211, 0, none⟩) (Kd.R_types HO223.out BK211.out (by decide)) (fun _ hk => hk.2) (.int .i64 a0_0)) (fun _ hk => hk.2) (.slice Ao20 y215.length co20)) (fun _ hk => hk.2) (.slice Ao19 y221.length co19)) (fun _ hk => hk.2) (.slice Ao18 y227.length co18)) (fun _ hk => trivial), by (with_reducible repeat (first | apply Kd.R_alloc | apply Kd.R_drewN | apply Kd.R_drew)); exact Kd.R_mono (Kd.R_far (p := ⟨gb211, 3, none⟩) (Kd.R_far (p := ⟨gb211, 2, none⟩) (Kd.R_far (p := ⟨gb211, 1, none⟩) (Kd.R_far (p := ⟨gb211, 0, none⟩) (Kd.R_types HO229.out BK211.out (by decide)) (fun _ hk => hk.2) (.int .i64 a0_0)) (fun _ hk => hk.2) (.slice Ao20 y215.length co20)) (fun _ hk => hk.2) (.slice Ao19 y221.length co19)) (fun _ hk => hk.2) (.slice Ao18 y227.length co18)) (fun _ hk => trivial), by repeat (first | (with_reducible first | exact HB.out | apply below_alloc | apply pw_below_drewN | apply below_drew1 | refine below_set ?_ GE210.out | refine below_set ?_ GE211.out) | exact HB.out)⟩
   ·rw [if_neg c4] at H
    exact absurd H (by simp)
  ·rw [if_neg c3] at H
   exact absurd H (by simp)
 ·rw [if_neg c2] at H
  exact absurd H (by simp)

end Go.Proofs.YtglfebpgdghlfaaDoor.PUpgradeUps
end
section
namespace Go.Proofs.YtglfebpgdghlfaaDoor.L
open Go.RowKit Go.ChangeShapes Go.WideShapes Go.Proofs.YtglfebpgdghlfaaDoorW.PrintWords Go.Proofs.YtglfebpgdghlfaaDoorW.PrintLast Go.Proofs.YtglfebpgdghlfaaDoorW.PrintMore
attribute [local go_sem] max2_int min2_int max_two min_two max_three min_three max_four min_four
open Go.Proofs.YtglfebpgdghlfaaDoor.PUpgradeUps
theorem in_f (c n : Int) : dioramaref07_In.f c n = some (inC c n) := by
  unfold dioramaref07_In.f
  by_cases c1 : c = 1
  · subst c1; rfl
  · rw [if_neg c1]
    by_cases c2 : c = 2
    · subst c2
      rw [if_pos rfl, inC_2]
      by_cases h0 : n ≥ 0
      · rw [if_pos h0]
        by_cases h1 : n ≤ 140737488355328
        · rw [if_pos h1, decide_eq_true (by omega), decide_eq_true h1]; rfl
        · rw [if_neg h1, if_neg (by omega), decide_eq_false h1, Bool.and_false]
      · rw [if_neg h0, if_pos (by omega), decide_eq_true (show n ≤ 140737488355328 by omega), Bool.and_true]
    · rw [if_neg c2]
      by_cases c3 : c = 3
      · subst c3
        rw [if_pos rfl, inC_3]
        by_cases h0 : n ≥ 0
        · rw [if_pos h0, decide_eq_true h0]; rfl
        · rw [if_neg h0, decide_eq_false h0]; rfl
      · rw [if_neg c3]
        by_cases c4 : c = 4
        · subst c4
          rw [if_pos rfl, inC_4]
          by_cases h0 : n ≥ 0
          · rw [if_pos h0, decide_eq_true h0, Bool.true_and]; congr 1; exact decide_eq_decide.2 (by omega)
          · rw [if_neg h0, decide_eq_false h0]; rfl
        · rw [if_neg c4]
          by_cases c5 : c = 5
          · subst c5
            rw [if_pos rfl, inC_5]
            by_cases h0 : n = 0
            · subst h0; rw [if_pos (show wrap64 (0 * 0) = 0 from wrap64_in _ (by decide)), if_pos (by decide)]; rfl
            · by_cases h1 : n = 1
              · subst h1; rw [if_pos (show wrap64 (1 * 1) = 1 from wrap64_in _ (by decide)), if_pos (by decide)]; rfl
              · have hr : ((n == 0) || (n == 1)) = false := by simp [h0, h1]
                rw [hr]
                split
                · split
                  · rw [decide_eq_false (by omega)]
                  · rfl
                · rfl
          · rw [if_neg c5, inC_no c1 c2 c3 c4 c5]
def tailErr (n : Node) (s : Spec) : Int := if (n.kids.length : Int) < s.least ∨ 0 ≤ s.most ∧ s.most < n.kids.length then 12 else 0
theorem check_l1 (n : Node) (s : Spec) (hs : TextsSmall n) (hl : n.texts.length ≤ 1000000) : ∀ (m i K : Nat), n.texts.length ≤ i + m → i ≤ n.texts.length → (∀ j, j < i → utfOk (str n.texts j) = true) →
    dioramaref08_Check.l1 (K + 1000034 + m) (i : Int) n.kind n.ints n.texts n.kids s.ints s.texts s.least s.most = some (if textsOk n.texts = false then 11 else tailErr n s)
  | 0, i, K, h1, h2, h3 => by
    have hi : i = n.texts.length := by omega
    have ht : textsOk n.texts = true := decide_eq_true (fun j hj => h3 j (by omega))
    rw [show K + 1000034 + 0 = (K + 1000033) + 1 by omega, dioramaref08_Check.l1, if_neg (by omega), ht, if_neg (show ¬ (true = false) by decide)]
    unfold tailErr
    by_cases h : (n.kids.length : Int) < s.least
    · rw [if_pos h, if_pos (.inl h)]
    · rw [if_neg h]
      by_cases h' : s.most ≥ 0
      · rw [if_pos h']
        by_cases h'' : (n.kids.length : Int) > s.most
        · rw [if_pos h'', if_pos (.inr ⟨h', h''⟩)]
        · rw [if_neg h'', if_neg (by omega)]
      · rw [if_neg h', if_neg (by omega)]
  | m + 1, i, K, h1, h2, h3 => by
    by_cases hi : i < n.texts.length
    · rw [show K + 1000034 + (m + 1) = (K + 1000034 + m) + 1 by omega, dioramaref08_Check.l1, if_pos (by omega), if_pos (Int.natCast_nonneg i)]
      have hrd : rdOf ByteArray.empty n.texts (i : Int) = str n.texts i := by unfold rdOf str; rw [Int.toNat_natCast]
      rw [hrd, right_f (str n.texts i) (hs i hi) _ (by have := hs i hi; omega), Option.bind_some]
      by_cases hu : utfOk (str n.texts i) = true
      · rw [if_pos hu, wrap64_in ((i : Int) + 1) (by omega), show (i : Int) + 1 = ((i + 1 : Nat) : Int) from rfl]
        exact check_l1 n s hs hl m (i + 1) K (by omega) (by omega) (ext_lt (P := fun j => utfOk (str n.texts j) = true) h3 hu)
      · rw [if_neg hu, textsOk_bad hi (Bool.eq_false_iff.2 hu), if_pos rfl]
    · have := check_l1 n s hs hl m i (K + 1) (by omega) h2 h3
      rw [show K + 1 + 1000034 + m = K + 1000034 + (m + 1) by omega] at this
      exact this
theorem check_l0 (n : Node) (s : Spec) (hs : TextsSmall n) (hl : n.texts.length ≤ 1000000) (hn : n.ints.length ≤ 1000000) (he : n.ints.length = s.ints.length) : ∀ (m i K : Nat), n.ints.length ≤ i + m → i ≤ n.ints.length → (∀ j, j < i → inC (rd s.ints j) (rd n.ints j) = true) →
    dioramaref08_Check.l0 (K + 2000035 + m) (i : Int) n.kind n.ints n.texts n.kids s.ints s.texts s.least s.most = some (nodeErr n s)
  | 0, i, K, h1, h2, h3 => by
    have hi : i = n.ints.length := by omega
    have ht : numsOk n.ints s.ints = true := decide_eq_true ⟨he, fun j hj => h3 j (by omega)⟩
    rw [show K + 2000035 + 0 = (K + 2000034) + 1 by omega, dioramaref08_Check.l0, if_neg (by omega)]
    unfold nodeErr
    rw [ht, if_neg (show ¬ (true = false) by decide)]
    by_cases h : (n.texts.length : Int) = s.texts
    · rw [if_pos h]
      have h1 := check_l1 n s hs hl n.texts.length 0 (K + 1000000 - n.texts.length) (by omega) (by omega) (fun j hj => by omega)
      rw [show K + 1000000 - n.texts.length + 1000034 + n.texts.length = K + 2000034 by omega] at h1
      refine h1.trans ?_
      congr 1
      by_cases hk : textsOk n.texts = false
      · rw [if_pos hk, if_pos (.inr hk)]
      · rw [if_neg hk, if_neg (fun hh => hh.elim (fun h' => h' h) hk)]; rfl
    · rw [if_neg h, if_pos (.inl h)]
  | m + 1, i, K, h1, h2, h3 => by
    by_cases hi : i < n.ints.length
    · rw [show K + 2000035 + (m + 1) = (K + 2000035 + m) + 1 by omega, dioramaref08_Check.l0, if_pos (by omega), if_pos (Int.natCast_nonneg i), if_pos (by omega), in_f, Option.bind_some]
      by_cases hu : inC (rd s.ints i) (rd n.ints i) = true
      · rw [if_pos hu, wrap64_in ((i : Int) + 1) (by omega), show (i : Int) + 1 = ((i + 1 : Nat) : Int) from rfl]
        exact check_l0 n s hs hl hn he m (i + 1) K (by omega) (by omega) (ext_lt (P := fun j => inC (rd s.ints j) (rd n.ints j) = true) h3 hu)
      · rw [if_neg hu]
        unfold nodeErr
        rw [if_pos (numsOk_bad hi (Bool.eq_false_iff.2 hu))]
    · have := check_l0 n s hs hl hn he m i (K + 1) (by omega) h2 h3
      rw [show K + 1 + 2000035 + m = K + 2000035 + (m + 1) by omega] at this
      exact this
theorem check_f (n : Node) (s : Spec) (hs : TextsSmall n) (hm : Small n) : dioramaref08_Check.f 3000035 n.kind n.ints n.texts n.kids s.ints s.texts s.least s.most = some (nodeErr n s) := by
  unfold dioramaref08_Check.f
  by_cases h : n.ints.length = s.ints.length
  · rw [if_pos (by omega)]
    have h1 := check_l0 n s hs hm.2.1 hm.1 h n.ints.length 0 (1000000 - n.ints.length) (by omega) (by omega) (fun j hj => by omega)
    rw [show 1000000 - n.ints.length + 2000035 + n.ints.length = 3000035 by have := hm.1; omega] at h1
    exact h1
  · rw [if_neg (by omega)]
    unfold nodeErr
    rw [if_pos (numsOk_len h)]
theorem rcheck_any (n : Node) (A1 : Option Addr) (c1 : Nat) (A2 : Option Addr) (c2 : Nat) (A3 : Option Addr) (c3 : Nat) (s : Spec) (A4 : Option Addr) (c4 : Nat) (w : World) (h : NodeC w n A1 c1 A2 c2 A3 c3) (h4 : SpecC w s A4 c4) (hs : TextsSmall n) (hm : Small n) :
    Calls Tryd.prog 41 #[.agg #[.int .i64 n.kind, .slice A1 n.ints.length c1, .slice A2 n.texts.length c2, .slice A3 n.kids.length c3], .agg #[.slice A4 s.ints.length c4, .int .i64 s.texts, .int .i64 s.least, .int .i64 s.most]] w
      fun e w' => e = .returned (.int .i64 (nodeErr n s)) ∧ Below w.heap.size w w' :=
  dioramaref08_Check.calls 3000035 n.kind A1 c1 n.ints A2 c2 n.texts A3 c3 n.kids A4 c4 s.ints s.texts s.least s.most _ w h.i h.l1 h.t h.l2 h.k h.l3 h4.i h4.l (check_f n s hs hm)
theorem rcopy_f (n : Node) (hm : Small n) : dioramaref08_Copy.f n.kind n.ints n.texts n.kids = some (n.kind, n.ints, n.texts, n.kids) := by
  unfold dioramaref08_Copy.f
  have h1 := hm.1
  have h2 := hm.2.1
  have h3 := hm.2.2
  rw [Option.bind_some, if_pos (by simp; omega), Option.bind_some, if_pos (by simp; omega), Option.bind_some, if_pos (by simp; omega)]
  simp
theorem rcopy_any (n : Node) (A1 : Option Addr) (c1 : Nat) (A2 : Option Addr) (c2 : Nat) (A3 : Option Addr) (c3 : Nat) (w : World) (h : NodeC w n A1 c1 A2 c2 A3 c3) (hs : Small n) :
    Calls Tryd.prog 13 #[.agg #[.int .i64 n.kind, .slice A1 n.ints.length c1, .slice A2 n.texts.length c2, .slice A3 n.kids.length c3]] w (CopyPost n w) := by
  refine (dioramaref08_Copy.calls n.kind A1 c1 n.ints A2 c2 n.texts A3 c3 n.kids n.kind n.ints n.texts n.kids w h.i h.l1 h.t h.l2 h.k h.l3 (rcopy_f n hs)).mono ?_
  rintro e w' ⟨v1, v2, v3, rfl, h1, h2, h3, hB⟩
  exact ⟨_, rfl, ⟨v1, v2, v3, rfl, kNode_mkM h1 h2 h3⟩, hB⟩
end Go.Proofs.YtglfebpgdghlfaaDoor.L
end
section
namespace Go.Proofs.YtglfebpgdghlfaaDoor.L
open Go.RowKit Go.ChangeShapes Go.WideShapes Go.Proofs.YtglfebpgdghlfaaDoorW.PrintWords Go.Proofs.YtglfebpgdghlfaaDoorW.PrintLast Go.Proofs.YtglfebpgdghlfaaDoorW.PrintMore
attribute [local go_sem] max2_int min2_int max_two min_two max_three min_three max_four min_four
theorem own_block {W : World} {base e g n : Nat} {xs : List Value} (h : W.ownsRow base e 1 (.slice (some ⟨g, 0, none⟩) n n) n xs) : W.heap[g]? = some (.cells xs.toArray e (0, 0)) ∧ base ≤ g := by
  rcases h.2 with ⟨hv, _⟩ | ⟨g', cap, cur, hv, hb, hh, hnc, hcm, hcs, htake⟩
  · cases hv
  · injection hv with ha _ hc
    injection ha with ha
    injection ha with hg'
    subst hg'; subst hc
    refine ⟨?_, hb⟩
    have : xs.toArray = cur := by
      apply Array.toList_inj.1
      rw [← htake, List.take_of_length_le (by rw [Array.length_toList]; omega)]
    rw [this]; exact hh
theorem R_of_block {W : World} {base e g : Nat} {xs : List Int} (h : W.heap[g]? = some (.cells (xs.map (Value.int .i64)).toArray e (0, 0))) (hb : base ≤ g) (hm : xs.length ≤ 9223372036854775807) :
    (Kd.int .i64).R e W base (fun _ => True) (.slice (some ⟨g, 0, none⟩) xs.length xs.length) xs := by
  refine Kd.R_of_own (enc := Value.int .i64) (h1 := fun _ => rfl) ⟨by simp [encs], .inr ⟨g, xs.length, _, rfl, hb, h, Nat.le_refl _, by unfold maxLen; omega, by simp, by rw [List.take_of_length_le (by simp)]; rfl⟩⟩ (fun _ _ => trivial)
theorem made_zero (m : Nat) : (madeCells (Value.int .i64 0).cells (m * 1)).toList = List.replicate m (.int .i64 0) := by
  rw [List.eq_replicate_iff]
  refine ⟨by simp [size_madeCells], fun b hb => ?_⟩
  unfold madeCells at hb
  simp only [Array.toList_map, List.mem_map] at hb
  obtain ⟨j, _, rfl⟩ := hb
  show (#[Value.int .i64 0])[j % 1]! = _
  rw [Nat.mod_one]
  rfl
theorem src_one {W : World} {ad : Addr} {x : Value} (h : W.cell? ad = some x) : ∀ j u, [x][j]? = some u → W.cell? (ad.add j) = some u := by
  intro j u hu
  match j with
  | 0 =>
    have : u = x := by simpa using hu.symm
    subst this
    have e : ad.add 0 = ad := by unfold Addr.add; split <;> simp_all
    rw [e]; exact h
  | j + 1 => simp at hu
theorem copy_run {P : Program} {w : World} (dT sT ty : TypeId) (elem : TypeId) (hu : P.underlying dT = some (.slice elem)) (hsz : (P.info? elem).map (·.size) = some 1)
    (dLen dCap : Nat) (ad : Addr) (sLen sCap : Nat) (g off : Nat) (cur : List Value) (t : TypeId) (hg : w.heap[g]? = some (.cells cur.toArray t (0, 0))) (cs : List Value) (hn : cs.length = Nat.min sLen dLen)
    (hsrc : ∀ j v, cs[j]? = some v → w.cell? (ad.add j) = some v) (hfit : off + cs.length ≤ cur.length) (h1 : ∀ v ∈ cs, v.oneCell' = true) (B : Nat) (w0 : World) (hb : Below B w0 w) (hBg : B ≤ g) :
    ∃ w', (Builtin.copy_ #[dT, sT] ty #[.slice (some ⟨g, off, none⟩) dLen dCap, .slice (some ad) sLen sCap]).run P w = .ok (goInt cs.length) w' ∧ w'.heap[g]? = some (.cells (splice cur off cs).toArray t (0, 0)) ∧ Below B w0 w' :=
  ⟨_, run_copy_row (P := P) w dT sT ty elem g off dLen dCap ad sLen sCap cur.toArray t cs hu hsz hg hn hsrc (by simpa using hfit) h1, by simpa [splice] using setRow_heap w g _ _ t _ hg, below_setRow hb hBg _⟩
theorem src_block {W : World} {g : Nat} {t : TypeId} {cur : List Value} (h : W.heap[g]? = some (.cells cur.toArray t (0, 0))) {cs : List Value} (hc : ∀ (j : Nat) (u : Value), cs[j]? = some u → cur[j]? = some u) : ∀ (j : Nat) (u : Value), cs[j]? = some u → W.cell? ((⟨g, 0, none⟩ : Addr).add j) = some u := by
  intro j u hu
  rw [Go.Proofs.YtglfebpgdghlfaaDoorW.PrintWords.add_plain, blk_cell h j]
  simpa using hc j u hu
def repl (n m : Nat) (v : Int) : List Int := List.replicate n v ++ List.replicate (m - n) 0
theorem repl_full (m : Nat) (v : Int) : repl m m v = List.replicate m v := by simp [repl]
theorem repl_length {n m : Nat} (h : n ≤ m) (v : Int) : (repl n m v).length = m := by simp [repl]; omega
theorem repl_src {n m : Nat} (h : n ≤ m) (v : Int) : ∀ (j : Nat) (u : Value), ((List.replicate (min n (m - n)) v).map (Value.int .i64))[j]? = some u → ((repl n m v).map (Value.int .i64))[j]? = some u := by
  intro j u hu
  rw [List.map_replicate, List.getElem?_replicate] at hu
  split at hu
  · rw [repl, List.map_append, List.getElem?_append_left (by simp; omega), List.map_replicate, List.getElem?_replicate, if_pos (by omega)]
    exact hu
  · cases hu
theorem repl_splice {n m : Nat} (h : n ≤ m) (v : Int) : splice ((repl n m v).map (Value.int .i64)) n ((List.replicate (min n (m - n)) v).map (Value.int .i64)) = (repl (n + min n (m - n)) m v).map (Value.int .i64) := by
  unfold splice repl
  simp only [List.map_append, List.map_replicate, List.length_replicate]
  rw [List.take_append_of_le_length (by simp), List.take_of_length_le (by simp), List.drop_append, List.drop_eq_nil_of_le (by simp)]
  simp only [List.length_replicate, List.drop_replicate, List.nil_append, ← List.append_assoc, List.replicate_append_replicate]
  congr 2
  omega
theorem repl_first {m : Nat} (h : 1 ≤ m) (v : Int) : splice ((repl 0 m v).map (Value.int .i64)) 0 [.int .i64 v] = (repl 1 m v).map (Value.int .i64) := by
  obtain ⟨m, rfl⟩ : ∃ j, m = j + 1 := ⟨m - 1, by omega⟩
  simp [splice, repl, List.replicate_succ]
def repeat_intRel (g m n : Nat) (v : Int) (w W : World) : Prop := W.heap[g]? = some (.cells ((repl n m v).map (Value.int .i64)).toArray 3 (0, 0)) ∧ Below w.heap.size w W
set_option maxRecDepth 100000 in
set_option maxHeartbeats 1000000 in
theorem repeat_int (ad : Addr) (c : Nat) (v : Int) (m : Nat) (w : World) (hx : w.cell? ad = some (.int .i64 v)) (h1 : 1 ≤ m) (h2 : m ≤ 1000000) :
    Calls Tryd.prog 102 #[.slice (some ad) 1 c, .int .i64 m] w (RowPost (Kd.int .i64) 3 (List.replicate m v) w) := by
  have HB := Aside0.mk (Below.refl w.heap.size w)
  have HX := Aside0.mk hx
  clear hx
  obtain ⟨i0, hi, hz0, hz1, hz2⟩ := info_parts info_int
  have hm0 : ¬ (m : Int) < 0 := by omega
  go_enter Tryd.func102, Tryd.ntmps102
  go_wp2_with fail
  refine (Tryd.bits_Mul 1 m (by omega) (by omega) _).mono ?_
  rintro e w' ⟨rfl, hw⟩
  obtain rfl : w = w' := hw.symm
  have e1 : 1 * m / 18446744073709551616 = 0 := by omega
  have e2 : 1 * m % 18446744073709551616 = m := by omega
  rw [e1, e2]
  clear e1 e2
  go_wp2_with (refine wpList_make_full _ rfl (.tmp 29) (.tmp 29) 24 rfl w.heap.size 3 i0 (.int .i64 0) 1 Tryd.underlying24 hi hz0 hz1 .i64 .i64 (m : Int) (m : Int) m rfl rfl rfl rfl (by rw [hz2]; omega) (by unfold maxLen; omega) (Nat.le_refl _) ?_; intro w1 hown hg1; have HO := Aside0.mk (show w1.heap[w.heap.size]? = some (.cells ((repl 0 m v).map (Value.int .i64)).toArray 3 (0, 0)) from by rw [(own_block hown).1, made_zero]; simp [repl]); have HB1 := Aside0.mk (below_step HB.out ⟨hg1.os, hg1.tape, hg1.output, hg1.size, fun i hi => hg1.block i hi (by simp)⟩); clear hown hg1; obtain ⟨w2, hcp, hg2, hb2⟩ := copy_run (P := Tryd.prog) 24 24 3 3 Tryd.underlying24 (by rw [hi]; exact congrArg some hz1) m m ad 1 c w.heap.size 0 _ 3 HO.out [.int .i64 v] (Nat.min_eq_left h1).symm (src_one (pw_cell_below HB1.out HX.out)) (by rw [List.length_map, repl_length (Nat.zero_le _)]; exact h1) (by simp [Value.oneCell']) w.heap.size w HB1.out (Nat.le_refl _); have HG := Aside0.mk (show repeat_intRel w.heap.size m 1 v w w2 from ⟨by rw [← repl_first h1]; exact hg2, hb2⟩); clear hg2 hb2)
  go_loopw [8] (fun v8 W => ∃ n : Nat, 1 ≤ n ∧ n ≤ m ∧ v8 = .int .i64 n ∧ Aside0 (repeat_intRel w.heap.size m n v w W)) (fun v8 _ => m - (intOf v8).toNat)
  case atStart => exact ⟨1, by omega, h1, rfl, HG⟩
  case round =>
    obtain ⟨n, hn1, hn2, rfl, HR⟩ := hrel
    by_cases hlt : n < m
    · have HW := Aside0.mk (show IntKind.i64.wrap ((n : Int) + ((min n (m - n) : Nat) : Int)) = ((n + min n (m - n) : Nat) : Int) from by rw [wrap_i (by omega) (by omega)]; push_cast; rfl)
      have hmn : ¬ m = n := by omega
      obtain ⟨w3, hcp3, hg3, hb3⟩ := copy_run (P := Tryd.prog) (w := wr.drew) 24 24 3 3 Tryd.underlying24 (by rw [hi]; exact congrArg some hz1) (m - n) (m - n) ⟨w.heap.size, 0, none⟩ n m w.heap.size n _ 3 HR.out.1 ((List.replicate (min n (m - n)) v).map (Value.int .i64)) (by simp) (src_block HR.out.1 (repl_src hn2 v)) (by simp only [List.length_map, List.length_replicate]; rw [repl_length hn2]; omega) (fun x hx => by simp only [List.mem_map] at hx; obtain ⟨y, _, rfl⟩ := hx; rfl) w.heap.size w (below_drew1 HR.out.2) (Nat.le_refl _)
      have HG3 := Aside0.mk (show repeat_intRel w.heap.size m (n + min n (m - n)) v w w3 from ⟨by rw [← repl_splice hn2]; exact hg3, hb3⟩)
      rw [List.length_map, List.length_replicate] at hcp3
      clear hg3 hb3
      have hw3 := HW.out
      go_wp2
      go_region
      go_wp2
      go_roundw
      case rel => exact ⟨n + min n (m - n), by omega, by omega, rfl, HG3⟩
      case measure => simp [intOf]; omega
    · obtain rfl : n = m := by omega
      go_wp2
      go_ret
      exact RowPost.mk (v := .slice (some ⟨w.heap.size, 0, none⟩) n n) (by
        have h := HR.out.1
        rw [repl_full] at h
        have := R_of_block h (Nat.le_refl _) (by simp; omega)
        simpa using this) HR.out.2
def repeat_i64Rel (g m n : Nat) (v : Int) (w W : World) : Prop := W.heap[g]? = some (.cells ((repl n m v).map (Value.int .i64)).toArray 2 (0, 0)) ∧ Below w.heap.size w W
set_option maxRecDepth 100000 in
set_option maxHeartbeats 1000000 in
theorem repeat_i64 (ad : Addr) (c : Nat) (v : Int) (m : Nat) (w : World) (hx : w.cell? ad = some (.int .i64 v)) (h1 : 1 ≤ m) (h2 : m ≤ 1000000) :
    Calls Tryd.prog 106 #[.slice (some ad) 1 c, .int .i64 m] w (RowPost (Kd.int .i64) 2 (List.replicate m v) w) := by
  have HB := Aside0.mk (Below.refl w.heap.size w)
  have HX := Aside0.mk hx
  clear hx
  obtain ⟨i0, hi, hz0, hz1, hz2⟩ := info_parts info_i64
  have hm0 : ¬ (m : Int) < 0 := by omega
  go_enter Tryd.func106, Tryd.ntmps106
  go_wp2_with fail
  refine (Tryd.bits_Mul 1 m (by omega) (by omega) _).mono ?_
  rintro e w' ⟨rfl, hw⟩
  obtain rfl : w = w' := hw.symm
  have e1 : 1 * m / 18446744073709551616 = 0 := by omega
  have e2 : 1 * m % 18446744073709551616 = m := by omega
  rw [e1, e2]
  clear e1 e2
  go_wp2_with (refine wpList_make_full _ rfl (.tmp 29) (.tmp 29) 22 rfl w.heap.size 2 i0 (.int .i64 0) 1 Tryd.underlying22 hi hz0 hz1 .i64 .i64 (m : Int) (m : Int) m rfl rfl rfl rfl (by rw [hz2]; omega) (by unfold maxLen; omega) (Nat.le_refl _) ?_; intro w1 hown hg1; have HO := Aside0.mk (show w1.heap[w.heap.size]? = some (.cells ((repl 0 m v).map (Value.int .i64)).toArray 2 (0, 0)) from by rw [(own_block hown).1, made_zero]; simp [repl]); have HB1 := Aside0.mk (below_step HB.out ⟨hg1.os, hg1.tape, hg1.output, hg1.size, fun i hi => hg1.block i hi (by simp)⟩); clear hown hg1; obtain ⟨w2, hcp, hg2, hb2⟩ := copy_run (P := Tryd.prog) 22 22 3 2 Tryd.underlying22 (by rw [hi]; exact congrArg some hz1) m m ad 1 c w.heap.size 0 _ 2 HO.out [.int .i64 v] (Nat.min_eq_left h1).symm (src_one (pw_cell_below HB1.out HX.out)) (by rw [List.length_map, repl_length (Nat.zero_le _)]; exact h1) (by simp [Value.oneCell']) w.heap.size w HB1.out (Nat.le_refl _); have HG := Aside0.mk (show repeat_i64Rel w.heap.size m 1 v w w2 from ⟨by rw [← repl_first h1]; exact hg2, hb2⟩); clear hg2 hb2)
  go_loopw [8] (fun v8 W => ∃ n : Nat, 1 ≤ n ∧ n ≤ m ∧ v8 = .int .i64 n ∧ Aside0 (repeat_i64Rel w.heap.size m n v w W)) (fun v8 _ => m - (intOf v8).toNat)
  case atStart => exact ⟨1, by omega, h1, rfl, HG⟩
  case round =>
    obtain ⟨n, hn1, hn2, rfl, HR⟩ := hrel
    by_cases hlt : n < m
    · have HW := Aside0.mk (show IntKind.i64.wrap ((n : Int) + ((min n (m - n) : Nat) : Int)) = ((n + min n (m - n) : Nat) : Int) from by rw [wrap_i (by omega) (by omega)]; push_cast; rfl)
      have hmn : ¬ m = n := by omega
      obtain ⟨w3, hcp3, hg3, hb3⟩ := copy_run (P := Tryd.prog) (w := wr.drew) 22 22 3 2 Tryd.underlying22 (by rw [hi]; exact congrArg some hz1) (m - n) (m - n) ⟨w.heap.size, 0, none⟩ n m w.heap.size n _ 2 HR.out.1 ((List.replicate (min n (m - n)) v).map (Value.int .i64)) (by simp) (src_block HR.out.1 (repl_src hn2 v)) (by simp only [List.length_map, List.length_replicate]; rw [repl_length hn2]; omega) (fun x hx => by simp only [List.mem_map] at hx; obtain ⟨y, _, rfl⟩ := hx; rfl) w.heap.size w (below_drew1 HR.out.2) (Nat.le_refl _)
      have HG3 := Aside0.mk (show repeat_i64Rel w.heap.size m (n + min n (m - n)) v w w3 from ⟨by rw [← repl_splice hn2]; exact hg3, hb3⟩)
      rw [List.length_map, List.length_replicate] at hcp3
      clear hg3 hb3
      have hw3 := HW.out
      go_wp2
      go_region
      go_wp2
      go_roundw
      case rel => exact ⟨n + min n (m - n), by omega, by omega, rfl, HG3⟩
      case measure => simp [intOf]; omega
    · obtain rfl : n = m := by omega
      go_wp2
      go_ret
      exact RowPost.mk (v := .slice (some ⟨w.heap.size, 0, none⟩) n n) (by
        have h := HR.out.1
        rw [repl_full] at h
        have := R_of_block h (Nat.le_refl _) (by simp; omega)
        simpa using this) HR.out.2
end Go.Proofs.YtglfebpgdghlfaaDoor.L
end
section
namespace Go.Proofs.YtglfebpgdghlfaaDoor.L
open Go.RowKit Go.ChangeShapes Go.WideShapes Go.Proofs.YtglfebpgdghlfaaDoorW.PrintWords Go.Proofs.YtglfebpgdghlfaaDoorW.PrintLast Go.Proofs.YtglfebpgdghlfaaDoorW.PrintMore
attribute [local go_sem] max2_int min2_int max_two min_two max_three min_three max_four min_four
def RowsPost (l : List Node) (w : World) (e : Ending) (w' : World) : Prop := ∃ g c, e = .returned (.slice (some ⟨g, 0, none⟩) l.length c) ∧ Kd.S kNode 26 w' w.heap.size (fun _ => True) (.slice (some ⟨g, 0, none⟩) l.length c) l ∧ Below w.heap.size w w'
theorem S_of_lits {α : Type} (d : Kd α) (W : World) (base e : Nat) (xs : List α) (inner : List Value) (okj : Nat → Nat → Prop) (hap : ∀ i j k, okj i k → okj j k → i = j) (hl : inner.length = xs.length * d.sz)
    (hrep : ∀ j x, xs[j]? = some x → d.M W base (okj j) x ((inner.drop (j * d.sz)).take d.sz)) (hb : base ≤ W.heap.size) (hm : xs.length ≤ 9223372036854775807) :
    Kd.S d e (W.alloc (.cells inner.toArray e)) base (fun _ => True) (.slice (some ⟨W.heap.size, 0, none⟩) xs.length xs.length) xs := by
  obtain ⟨f, hr⟩ := Kd.reps_tag (d := d) (w := W) (base := base) (ok := fun k => True ∧ k < W.heap.size) (okj := fun j k => okj j k ∧ k < W.heap.size) (fun i j k h1 h2 => hap i j k h1.1 h2.1) (fun _ _ h => ⟨trivial, h.2⟩) hl (fun j x hj => d.M_mono (fun k hk => ⟨hk.1, hk.2.2.1⟩) (d.M_bound (hrep j x hj)))
  have h1 := OwnRow.lit (e := e) W base hr hb (by rw [List.length_zipIdx]; exact hm)
  rw [List.length_zipIdx] at h1
  refine ⟨f, fun _ _ => trivial, OwnRow.imp_ h1 (fun p c hp => (Kd.tag f d).M_mono (fun k hk => ⟨trivial, fun e => ?_⟩) (Kd.M_alloc hp _))⟩
  have : k = W.heap.size := by simpa [Value.ownBlock] using e
  have := hk.2
  omega
theorem S_one (W : World) (base B : Nat) (n : Node) (v1 v2 v3 : Value) (hM : kNode.M W B (fun _ => True) n [.int .i64 n.kind, v1, v2, v3]) (hb : base ≤ B) (hB : B ≤ W.heap.size) {cs : Array Value} (hcs : cs = #[.int .i64 n.kind, v1, v2, v3]) :
    Kd.S kNode 26 (W.alloc (.cells cs 26)) base (fun _ => True) (.slice (some ⟨W.heap.size, 0, none⟩) 1 1) [n] := by
  subst hcs
  obtain ⟨x1, x2, x3, e, h1, h2, h3⟩ := kNode_openM hM
  injection e with _ e
  injection e with e1 e
  injection e with e2 e
  injection e with e3 _
  subst e1 e2 e3
  exact S_of_lits kNode W base 26 [n] [.int .i64 n.kind, v1, v2, v3] (fun j _ => j = 0) (fun i j k h1 h2 => h1.trans h2.symm) rfl (fun j x hj => by
    cases j with
    | zero =>
      injection hj with hj
      subst hj
      exact kNode_mkM (Kd.R_mono (Kd.R_lower h1 hb) (fun _ _ => rfl)) (Kd.R_mono (Kd.R_lower h2 hb) (fun _ _ => rfl)) (Kd.R_mono (Kd.R_lower h3 hb) (fun _ _ => rfl))
    | succ j => simp at hj) (Nat.le_trans hb hB) (by simp)
set_option maxRecDepth 100000 in
set_option maxHeartbeats 1000000 in
theorem like_any (n : Int) (count : Nat) (w : World) (h0 : 1 ≤ count) (h1 : count ≤ 1000) : Calls Tryd.prog 75 #[.int .i64 n, .int .i64 (count : Int)] w (RowPost (Kd.int .i64) 2 (List.replicate count n) w) := by
  have HB := Aside0.mk (below_alloc (Below.refl w.heap.size w) (.cells #[.int .i64 n] 2))
  go_enter Tryd.func75, Tryd.ntmps75
  go_wp2_with fail
  refine (repeat_i64 ⟨w.heap.size, 0, none⟩ 1 n count _ (box_cell w _ rfl #[.int .i64 n] 2 0 _ rfl) (by omega) (by omega)).mono ?_
  rintro e w1 ⟨A, c, rfl, hR, hB⟩
  have HR := Aside0.mk (Kd.R_lower hR HB.out.size)
  have HB1 := Aside0.mk (below_step HB.out hB)
  clear hR hB
  go_wp2
  go_ret
  exact RowPost.mk (v := .slice A count c) (by have h := HR.out; rwa [List.length_replicate] at h) HB1.out
end Go.Proofs.YtglfebpgdghlfaaDoor.L
end
section
namespace Go.Proofs.YtglfebpgdghlfaaDoor.L
open Go.RowKit Go.ChangeShapes Go.WideShapes Go.Proofs.YtglfebpgdghlfaaDoorW.PrintWords Go.Proofs.YtglfebpgdghlfaaDoorW.PrintLast Go.Proofs.YtglfebpgdghlfaaDoorW.PrintMore
attribute [local go_sem] max2_int min2_int max_two min_two max_three min_three max_four min_four
theorem R_strs (W : World) (base g : Nat) (hg : W.heap.size = g) (ps : List ByteArray) (hb : base ≤ W.heap.size) (hm : ps.length ≤ 9223372036854775807) {cs : Array Value} (hcs : cs = (ps.flatMap fun x => [.string x]).toArray) : Kd.string.R 9 (W.alloc (.cells cs 9)) base (fun _ => True) (.slice (some ⟨g, 0, none⟩) ps.length ps.length) ps := by
  subst hg
  exact R_lits Kd.string 9 (fun x => [.string x]) W base ps (fun _ => rfl) (fun _ => rfl) hb hm hcs
theorem R_nums (T : TypeId) (W : World) (base g : Nat) (hg : W.heap.size = g) (ps : List Int) (hb : base ≤ W.heap.size) (hm : ps.length ≤ 9223372036854775807) {cs : Array Value} (hcs : cs = (ps.flatMap fun x => [.int .i64 x]).toArray) : (Kd.int .i64).R T (W.alloc (.cells cs T)) base (fun _ => True) (.slice (some ⟨g, 0, none⟩) ps.length ps.length) ps := by
  subst hg
  exact R_lits (Kd.int .i64) T (fun x => [.int .i64 x]) W base ps (fun _ => rfl) (fun _ => rfl) hb hm hcs
theorem RowsPost.one {w W : World} {n : Node} {v1 v2 v3 : Value} {g : Nat} (hM : kNode.M W w.heap.size (fun _ => True) n [.int .i64 n.kind, v1, v2, v3]) (hB : Below w.heap.size w W) (hg : W.heap.size = g) : RowsPost [n] w (.returned (.slice (some ⟨g, 0, none⟩) 1 1)) (W.alloc (.cells #[.int .i64 n.kind, v1, v2, v3] 26)) := by
  subst hg
  exact ⟨_, _, rfl, S_one W w.heap.size w.heap.size n v1 v2 v3 hM (Nat.le_refl _) hB.size rfl, below_step hB (below_alloc (Below.refl _ _) _)⟩
set_option maxRecDepth 100000 in
set_option maxHeartbeats 1000000 in
theorem up1_any (n : Node) (A1 : Option Addr) (c1 : Nat) (A2 : Option Addr) (c2 : Nat) (A3 : Option Addr) (c3 : Nat) (w : World) :
    Calls Tryd.prog 72 #[.agg #[.int .i64 n.kind, .slice A1 n.ints.length c1, .slice A2 n.texts.length c2, .slice A3 n.kids.length c3]] w (RowsPost [⟨1, [], [ByteArray.empty], []⟩] w) := by
  have hu := Tryd.underlying26
  go_enter Tryd.func72, Tryd.ntmps72
  go_wp2
  go_ret
  exact RowsPost.one (n := ⟨1, [], [ByteArray.empty], []⟩) (kNode_mkM (Kd.R_nil _ _ _ _ _) (R_strs _ _ _ (by simp) [ByteArray.empty] (by simp) (by simp) rfl) (Kd.R_nil _ _ _ _ _)) (below_alloc (below_alloc (Below.refl _ _) _) _) (by simp)
set_option maxRecDepth 100000 in
set_option maxHeartbeats 1000000 in
theorem up6_any (n : Node) (A1 : Option Addr) (c1 : Nat) (A2 : Option Addr) (c2 : Nat) (A3 : Option Addr) (c3 : Nat) (w : World) (h : NodeC w n A1 c1 A2 c2 A3 c3) (hl : 0 < n.ints.length) :
    Calls Tryd.prog 80 #[.agg #[.int .i64 n.kind, .slice A1 n.ints.length c1, .slice A2 n.texts.length c2, .slice A3 n.kids.length c3]] w (RowsPost [⟨7, [rd n.ints 0, rd n.ints 0, rd n.ints 0, 1], [], []⟩] w) := by
  have hu := Tryd.underlying26
  have hB := below_alloc (Below.refl w.heap.size w) (.cells #[.int .i64 n.kind, .slice A1 n.ints.length c1, .slice A2 n.texts.length c2, .slice A3 n.kids.length c3] 26)
  have HB := Aside0.mk hB
  obtain ⟨ad, rfl, x0⟩ := at_nat (Kd.C_below h.i hB) 0 hl
  have k1 := box_cell w _ rfl #[.int .i64 n.kind, .slice (some ad) n.ints.length c1, .slice A2 n.texts.length c2, .slice A3 n.kids.length c3] 26 1 _ rfl
  rw [show ad.add 0 = ad from rfl] at x0
  have hr : rd n.ints ((0 : Nat) : Int) = rd n.ints 0 := rfl
  rw [hr] at x0
  clear h hB
  go_enter Tryd.func80, Tryd.ntmps80
  go_wp2_with fail
  refine (like_any (rd n.ints 0) 3 _ (by omega) (by omega)).mono ?_
  rintro e w1 ⟨A4, c4, rfl, hR1, hB1⟩
  have HR1 := Aside0.mk (show (Kd.int .i64).R 2 w1 w.heap.size (fun _ => True) (.slice A4 3 c4) [rd n.ints 0, rd n.ints 0, rd n.ints 0] from Kd.R_lower hR1 HB.out.size)
  have HB1 := Aside0.mk (below_step HB.out hB1)
  clear hR1 hB1 x0 k1
  go_wp2_with (at_builtin; refine Kd.R_append (Kd.int .i64) (w0 := w) w.heap.size rfl (.tmp 7) (.tmp 8) 22 2 (.int .i64 0) 8 rfl Tryd.underlying22 info_i64 rfl (by decide) (by omega) (.slice A4 3 c4) [rd n.ints 0, rd n.ints 0, rd n.ints 0] 1 [.int .i64 1] (fun _ => True) (fun _ => False) rfl (by go_simp) rfl (fun _ h => h.elim) (fun _ _ => trivial) HR1.out HB1.out HB1.out.size (by simp) ?_; intro v2 w2 hR2 hB2 hg2 hat2; obtain ⟨A5, c5, hv2⟩ := Kd.R_slice hR2; replace hv2 : v2 = .slice A5 4 c5 := hv2; subst hv2; have HR2 := Aside0.mk (show (Kd.int .i64).R 2 w2 w.heap.size (fun _ => True) (.slice A5 4 c5) [rd n.ints 0, rd n.ints 0, rd n.ints 0, 1] from hR2); have HB2 := Aside0.mk hB2; clear hR2 hB2 hg2 hat2)
  go_ret
  exact RowsPost.one (n := ⟨7, [rd n.ints 0, rd n.ints 0, rd n.ints 0, 1], [], []⟩) (kNode_mkM HR2.out (Kd.R_nil _ _ _ _ _) (Kd.R_nil _ _ _ _ _)) HB2.out rfl
end Go.Proofs.YtglfebpgdghlfaaDoor.L
end
section
namespace Go.Proofs.YtglfebpgdghlfaaDoor.L
open Go.RowKit Go.ChangeShapes Go.WideShapes Go.Proofs.YtglfebpgdghlfaaDoorW.PrintWords Go.Proofs.YtglfebpgdghlfaaDoorW.PrintLast Go.Proofs.YtglfebpgdghlfaaDoorW.PrintMore
attribute [local go_sem] max2_int min2_int max_two min_two max_three min_three max_four min_four
set_option maxRecDepth 100000 in
set_option maxHeartbeats 1000000 in
theorem up4_any (n : Node) (A1 : Option Addr) (c1 : Nat) (A2 : Option Addr) (c2 : Nat) (A3 : Option Addr) (c3 : Nat) (w : World) (h : NodeC w n A1 c1 A2 c2 A3 c3) (hs : Small n) :
    Calls Tryd.prog 78 #[.agg #[.int .i64 n.kind, .slice A1 n.ints.length c1, .slice A2 n.texts.length c2, .slice A3 n.kids.length c3]] w (RowsPost [⟨4, n.ints, n.texts, []⟩] w) := by
  have HN := Aside0.mk h
  have HS := Aside0.mk hs
  have hu := Tryd.underlying26
  have HB := Aside0.mk (below_alloc (Below.refl w.heap.size w) (.cells #[.int .i64 n.kind, .slice A1 n.ints.length c1, .slice A2 n.texts.length c2, .slice A3 n.kids.length c3] 26))
  have k1 := box_cell w _ rfl #[.int .i64 n.kind, .slice A1 n.ints.length c1, .slice A2 n.texts.length c2, .slice A3 n.kids.length c3] 26 1 _ rfl
  have k2 := box_cell w _ rfl #[.int .i64 n.kind, .slice A1 n.ints.length c1, .slice A2 n.texts.length c2, .slice A3 n.kids.length c3] 26 2 _ rfl
  clear h hs
  go_enter Tryd.func78, Tryd.ntmps78
  go_wp2
  go_region_held3 (fun W => W.cell? ⟨w.heap.size, 1, none⟩ = some (.slice A1 n.ints.length c1) ∧ W.cell? ⟨w.heap.size, 2, none⟩ = some (.slice A2 n.texts.length c2))
    (first
      | (go_split_ands
         refine ⟨?_, ?_⟩
         all_goals first
           | with_reducible assumption
           | with_reducible exact pw_cell_below hB (by assumption)
           | with_reducible exact pw_cell_below (below_alloc (Below.refl _ _) _) (by assumption)
           | (simp [*]; done)))
    (first
      | (go_at_call 74; refine (clone_i64 A1 c1 n.ints _ (Kd.C_below HN.out.i (below_drew HB.out)) (Nat.le_trans HS.out.1 (by omega))).mono ?_; rintro e w1 ⟨B1, d1, rfl, hR1, hB1⟩; have HB1 := Aside0.mk (below_step (below_drew HB.out) hB1); have hB := hB1)
      | (go_at_call 77; refine (clone_str A2 c2 n.texts _ (Kd.C_below HN.out.t HB1.out) (Nat.le_trans HS.out.2.1 (by omega))).mono ?_; rintro e w2 ⟨B2, d2, rfl, hR2, hB2⟩; have HB2 := Aside0.mk (below_step HB1.out hB2); have hB := hB2))
  go_wp2
  go_ret
  exact RowsPost.one (n := ⟨4, n.ints, n.texts, []⟩) (kNode_mkM (Kd.R_lower (Kd.R_below hR1 hB2) (below_drew HB.out).size) (Kd.R_lower hR2 HB1.out.size) (Kd.R_nil _ _ _ _ _)) HB2.out rfl
set_option maxRecDepth 100000 in
set_option maxHeartbeats 1000000 in
theorem up3_any (n : Node) (A1 : Option Addr) (c1 : Nat) (A2 : Option Addr) (c2 : Nat) (A3 : Option Addr) (c3 : Nat) (w : World) (h : NodeC w n A1 c1 A2 c2 A3 c3) (hs : Small n) (hl : 0 < n.ints.length) :
    Calls Tryd.prog 76 #[.agg #[.int .i64 n.kind, .slice A1 n.ints.length c1, .slice A2 n.texts.length c2, .slice A3 n.kids.length c3]] w (RowsPost [⟨3, [rd n.ints 0, rd n.ints 0, rd n.ints 0], n.texts, []⟩] w) := by
  have HN := Aside0.mk h
  have HS := Aside0.mk hs
  have hu := Tryd.underlying26
  have HB := Aside0.mk (below_alloc (Below.refl w.heap.size w) (.cells #[.int .i64 n.kind, .slice A1 n.ints.length c1, .slice A2 n.texts.length c2, .slice A3 n.kids.length c3] 26))
  obtain ⟨ad, rfl, x0⟩ := at_nat (Kd.C_below h.i HB.out) 0 hl
  rw [show ad.add 0 = ad from rfl] at x0
  have hr : rd n.ints ((0 : Nat) : Int) = rd n.ints 0 := rfl
  rw [hr] at x0
  have k1 := box_cell w _ rfl #[.int .i64 n.kind, .slice (some ad) n.ints.length c1, .slice A2 n.texts.length c2, .slice A3 n.kids.length c3] 26 1 _ rfl
  have k2 := box_cell w _ rfl #[.int .i64 n.kind, .slice (some ad) n.ints.length c1, .slice A2 n.texts.length c2, .slice A3 n.kids.length c3] 26 2 _ rfl
  clear h hs hr
  go_enter Tryd.func76, Tryd.ntmps76
  go_wp2
  go_region_held3 (fun W => W.cell? ⟨w.heap.size, 1, none⟩ = some (.slice (some ad) n.ints.length c1) ∧ W.cell? ⟨w.heap.size, 2, none⟩ = some (.slice A2 n.texts.length c2) ∧ W.cell? ad = some (.int .i64 (rd n.ints 0)))
    (first
      | (go_split_ands
         refine ⟨?_, ?_, ?_⟩
         all_goals first
           | with_reducible assumption
           | with_reducible exact pw_cell_below hB (by assumption)
           | with_reducible exact pw_cell_below (below_alloc (Below.refl _ _) _) (by assumption)
           | (simp [*]; done)))
    (first
      | (go_at_call 75; refine (like_any (rd n.ints 0) 3 _ (by omega) (by omega)).mono ?_; rintro e w1 ⟨B1, d1, rfl, hR1, hB1⟩; have HB1 := Aside0.mk (below_step (below_drew HB.out) hB1); have hB := hB1)
      | (go_at_call 77; refine (clone_str A2 c2 n.texts _ (Kd.C_below HN.out.t HB1.out) (Nat.le_trans HS.out.2.1 (by omega))).mono ?_; rintro e w2 ⟨B2, d2, rfl, hR2, hB2⟩; have HB2 := Aside0.mk (below_step HB1.out hB2); have hB := hB2))
  go_wp2
  go_ret
  exact RowsPost.one (n := ⟨3, [rd n.ints 0, rd n.ints 0, rd n.ints 0], n.texts, []⟩) (kNode_mkM (Kd.R_lower (Kd.R_below hR1 hB2) (below_drew HB.out).size) (Kd.R_lower hR2 HB1.out.size) (Kd.R_nil _ _ _ _ _)) HB2.out rfl
set_option maxRecDepth 100000 in
set_option maxHeartbeats 1000000 in
theorem up5_any (n : Node) (A1 : Option Addr) (c1 : Nat) (A2 : Option Addr) (c2 : Nat) (A3 : Option Addr) (c3 : Nat) (w : World) (h : NodeC w n A1 c1 A2 c2 A3 c3) (hl : 0 < n.texts.length) :
    Calls Tryd.prog 79 #[.agg #[.int .i64 n.kind, .slice A1 n.ints.length c1, .slice A2 n.texts.length c2, .slice A3 n.kids.length c3]] w (RowsPost [⟨5, [65536], [str n.texts 0, ⟨#[115, 97, 110, 115]⟩], []⟩] w) := by
  have HN := Aside0.mk h
  have hu := Tryd.underlying26
  have HB := Aside0.mk (below_alloc (Below.refl w.heap.size w) (.cells #[.int .i64 n.kind, .slice A1 n.ints.length c1, .slice A2 n.texts.length c2, .slice A3 n.kids.length c3] 26))
  obtain ⟨ad, rfl, x0⟩ := at_str (Kd.C_below h.t HB.out) 0 hl
  rw [show ad.add 0 = ad from rfl] at x0
  have k2 := box_cell w _ rfl #[.int .i64 n.kind, .slice A1 n.ints.length c1, .slice (some ad) n.texts.length c2, .slice A3 n.kids.length c3] 26 2 _ rfl
  clear h
  go_enter Tryd.func79, Tryd.ntmps79
  go_wp2
  go_region_held3 (fun W => W.cell? ⟨w.heap.size, 2, none⟩ = some (.slice (some ad) n.texts.length c2) ∧ W.cell? ad = some (.string (str n.texts 0)))
    (first
      | (go_split_ands
         refine ⟨?_, ?_⟩
         all_goals first
           | with_reducible assumption
           | with_reducible exact pw_cell_below hB (by assumption)
           | with_reducible exact pw_cell_below (below_alloc (Below.refl _ _) _) (by assumption)
           | with_reducible exact pw_cell_below (below_drew (below_alloc (Below.refl _ _) _)) (by assumption)
           | (simp [*]; done)))
    (first
      | (go_at_call 75; refine (like_any 65536 1 _ (by omega) (by omega)).mono ?_; rintro e w1 ⟨B1, d1, rfl, hR1, hB1⟩; have hB := hB1))
  · have hBw := below_step (below_drew HB.out) hB1
    go_wp2
    go_ret
    exact RowsPost.one (n := ⟨5, [65536], [str n.texts 0, ⟨#[115, 97, 110, 115]⟩], []⟩) (kNode_mkM (Kd.R_below (Kd.R_lower hR1 (below_drew HB.out).size) (below_alloc (Below.refl _ _) _)) (R_strs w1 w.heap.size _ rfl [str n.texts 0, ⟨#[115, 97, 110, 115]⟩] hBw.size (by simp) rfl) (Kd.R_nil _ _ _ _ _)) (below_step hBw (below_alloc (Below.refl _ _) _)) (by simp)
  · have hB0 := below_step HB.out (below_alloc (Below.refl _ _) (.cells #[.string (str n.texts 0), .string ⟨#[115, 97, 110, 115]⟩] 9))
    have hBw := below_step (below_drew hB0) hB1
    have hR2 := Kd.R_below (Kd.R_drew (R_strs (w.alloc (.cells #[.int .i64 n.kind, .slice A1 n.ints.length c1, .slice (some ad) n.texts.length c2, .slice A3 n.kids.length c3] 26)) w.heap.size (w.heap.size + 1) (by simp) [str n.texts 0, ⟨#[115, 97, 110, 115]⟩] HB.out.size (by simp) rfl)) hB1
    go_wp2
    go_ret
    exact RowsPost.one (n := ⟨5, [65536], [str n.texts 0, ⟨#[115, 97, 110, 115]⟩], []⟩) (kNode_mkM (Kd.R_lower hR1 (below_drew hB0).size) hR2 (Kd.R_nil _ _ _ _ _)) hBw rfl
end Go.Proofs.YtglfebpgdghlfaaDoor.L
end
section
namespace Go.Proofs.YtglfebpgdghlfaaDoor.L
open Go.RowKit Go.ChangeShapes Go.WideShapes Go.Proofs.YtglfebpgdghlfaaDoorW.PrintWords Go.Proofs.YtglfebpgdghlfaaDoorW.PrintLast Go.Proofs.YtglfebpgdghlfaaDoorW.PrintMore
attribute [local go_sem] max2_int min2_int max_two min_two max_three min_three max_four min_four
theorem RowsPost.two {w W : World} {k0 k1 : Int} {l0 q0 l1 : List Int} {v6 v7 v13 : Value} {g : Nat} (h6 : (Kd.int .i64).R 2 W w.heap.size (fun _ => True) v6 l0) (h7 : (Kd.int .i64).R 3 W w.heap.size (fun _ => True) v7 q0) (h13 : (Kd.int .i64).R 2 W w.heap.size (fun _ => True) v13 l1)
    (hne : ∀ k, v6.ownBlock = some k → v13.ownBlock = some k → False) (hB : Below w.heap.size w W) (hg : W.heap.size = g) :
    RowsPost [⟨k0, l0, [], q0⟩, ⟨k1, l1, [], []⟩] w (.returned (.slice (some ⟨g, 0, none⟩) 2 2)) (W.alloc (.cells #[.int .i64 k0, v6, .slice none 0 0, v7, .int .i64 k1, v13, .slice none 0 0, .slice none 0 0] 26)) := by
  subst hg
  refine ⟨_, _, rfl, S_of_lits kNode W w.heap.size 26 [⟨k0, l0, [], q0⟩, ⟨k1, l1, [], []⟩] [.int .i64 k0, v6, .slice none 0 0, v7, .int .i64 k1, v13, .slice none 0 0, .slice none 0 0]
    (fun j k => (j = 0 ∧ (some k = v6.ownBlock ∨ some k = v7.ownBlock)) ∨ (j = 1 ∧ some k = v13.ownBlock)) (fun i j k h1 h2 => ?_) rfl (fun j x hj => ?_) hB.size (by simp), below_step hB (below_alloc (Below.refl _ _) _)⟩
  · have key : ∀ k, (some k = v6.ownBlock ∨ some k = v7.ownBlock) → some k = v13.ownBlock → False := fun k h1 h2 => by
      rcases h1 with h1 | h1
      · exact hne k h1.symm h2.symm
      · obtain ⟨c1, e1⟩ := Kd.R_typed h7 k h1.symm
        obtain ⟨c2, e2⟩ := Kd.R_typed h13 k h2.symm
        rw [e1] at e2
        injection e2 with e2
        injection e2 with _ e2
        exact absurd e2 (by decide)
    rcases h1 with ⟨rfl, h1⟩ | ⟨rfl, h1⟩
    · rcases h2 with ⟨rfl, h2⟩ | ⟨rfl, h2⟩
      · rfl
      · exact (key k h1 h2).elim
    · rcases h2 with ⟨rfl, h2⟩ | ⟨rfl, h2⟩
      · exact (key k h2 h1).elim
      · rfl
  · match j, hj with
    | 0, hj =>
      injection hj with hj
      subst hj
      exact kNode_mkM (Kd.R_mono (Kd.R_tight rfl h6) (fun k hk => .inl ⟨rfl, .inl hk⟩)) (Kd.R_nil _ _ _ _ _) (Kd.R_mono (Kd.R_tight rfl h7) (fun k hk => .inl ⟨rfl, .inr hk⟩))
    | 1, hj =>
      injection hj with hj
      subst hj
      exact kNode_mkM (Kd.R_mono (Kd.R_tight rfl h13) (fun k hk => .inr ⟨rfl, hk⟩)) (Kd.R_nil _ _ _ _ _) (Kd.R_nil _ _ _ _ _)
    | j + 2, hj => simp at hj
theorem clone_i64' (A : Option Addr) (c n : Nat) (l : List Int) (w : World) (h : (Kd.int .i64).C w A n l) (hl : n ≤ 8000000000000) : Calls Tryd.prog 74 #[.slice A n c] w (RowPost (Kd.int .i64) 2 l w) := by
  obtain rfl : l.length = n := h.1
  exact clone_i64 A c l w h hl
set_option maxRecDepth 100000 in
set_option maxHeartbeats 2000000 in
theorem up2_any (n : Node) (A1 : Option Addr) (c1 : Nat) (A2 : Option Addr) (c2 : Nat) (A3 : Option Addr) (c3 : Nat) (w : World) (h : NodeC w n A1 c1 A2 c2 A3 c3) (hl : n.ints.length = 4) :
    Calls Tryd.prog 73 #[.agg #[.int .i64 n.kind, .slice A1 n.ints.length c1, .slice A2 n.texts.length c2, .slice A3 n.kids.length c3]] w (RowsPost [⟨2, n.ints.take 3, [], [0]⟩, ⟨8, [rd n.ints 3, rd n.ints 3, rd n.ints 3], [], []⟩] w) := by
  have HN := Aside0.mk h
  have hu := Tryd.underlying26
  have HB := Aside0.mk (below_alloc (Below.refl w.heap.size w) (.cells #[.int .i64 n.kind, .slice A1 n.ints.length c1, .slice A2 n.texts.length c2, .slice A3 n.kids.length c3] 26))
  obtain ⟨ad, rfl, x3⟩ := at_nat (Kd.C_below h.i HB.out) 3 (by omega)
  have hr : rd n.ints ((3 : Nat) : Int) = rd n.ints 3 := rfl
  rw [hr] at x3
  have k1 := box_cell w _ rfl #[.int .i64 n.kind, .slice (some ad) n.ints.length c1, .slice A2 n.texts.length c2, .slice A3 n.kids.length c3] 26 1 _ rfl
  have HT := Aside0.mk (show (Kd.int .i64).C w (some ad) 3 (n.ints.take 3) from by have h0 := C_sub rfl h.i 0 3 (by omega); rw [List.drop_zero] at h0; exact h0)
  have E3 := Aside0.mk (show (n.ints.take 3).length = 3 from by simp [hl])
  have hcap : 4 ≤ c1 := by have := h.l1; omega
  have hcapI : (3 : Int) ≤ (c1 : Int) := by omega
  rw [hl] at k1 x3 HB ⊢
  replace x3 : (w.alloc (.cells #[.int .i64 n.kind, .slice (some ad) 4 c1, .slice A2 n.texts.length c2, .slice A3 n.kids.length c3] 26)).cell? ⟨ad.block, ad.off + 3, none⟩ = some (.int .i64 (rd n.ints 3)) := x3
  clear h hr
  go_enter Tryd.func73, Tryd.ntmps73
  go_wp2
  go_region_held3 (fun W => W.cell? ⟨w.heap.size, 1, none⟩ = some (.slice (some ad) 4 c1) ∧ W.cell? ⟨ad.block, ad.off + 3, none⟩ = some (.int .i64 (rd n.ints 3)))
    (first
      | (go_split_ands
         refine ⟨?_, ?_⟩
         all_goals first
           | with_reducible assumption
           | with_reducible exact pw_cell_below hB (by assumption)
           | with_reducible exact pw_cell_below (below_alloc (Below.refl _ _) _) (by assumption)
           | with_reducible exact pw_cell_below (below_drew (below_alloc (Below.refl _ _) _)) (by assumption)
           | (simp [*]; done)))
    (first
      | (go_at_call 74; first
          | (refine (clone_i64' (some ad) c1 3 (n.ints.take 3) _ (Kd.C_below HT.out (below_drew HB.out)) (by omega)).mono ?_; rintro e w1 ⟨B1, d1, rfl, hR1, hB1⟩; have hB := hB1)
          | (refine (clone_i64' (some ad) c1 3 (n.ints.take 3) _ (Kd.C_below HT.out (below_drew (below_step HB.out (below_alloc (Below.refl _ _) _)))) (by omega)).mono ?_; rintro e w1 ⟨B1, d1, rfl, hR1, hB1⟩; have hB := hB1))
      | (go_at_call 75; refine (like_any (rd n.ints 3) 3 _ (by omega) (by omega)).mono ?_; rintro e w2 ⟨B2, d2, rfl, hR2, hB2⟩; have hB := hB2))
  · rw [E3.out] at hR1
    have hBw1 := below_step (below_drew HB.out) hB1
    have hBY := below_step hBw1 (below_alloc (Below.refl _ _) (.cells #[.int .i64 0] 3))
    have hlt := fun k (h1 : (Value.slice B1 3 d1).ownBlock = some k) => Kd.R_lt hR1 k h1
    have hge := fun k (h1 : (Value.slice B2 3 d2).ownBlock = some k) => Kd.R_base hR2 k h1
    have hsz : (w1.alloc (.cells #[.int .i64 0] 3)).heap.size = w1.heap.size + 1 := by simp
    go_wp2
    go_ret
    exact RowsPost.two (Kd.R_below (Kd.R_alloc (Kd.R_lower hR1 (below_drew HB.out).size) _) hB2) (Kd.R_below (R_nums 3 w1 w.heap.size _ rfl [0] hBw1.size (by simp) rfl) hB2) (Kd.R_lower hR2 hBY.size) (fun k h1 h2 => by have := hlt k h1; have := hge k h2; omega) (below_step hBY hB2) rfl
  · rw [E3.out] at hR1
    have hBw1 := below_step (below_drew HB.out) hB1
    have hBw2 := below_step hBw1 hB2
    have hlt := fun k (h1 : (Value.slice B1 3 d1).ownBlock = some k) => Kd.R_lt hR1 k h1
    have hge := fun k (h1 : (Value.slice B2 3 d2).ownBlock = some k) => Kd.R_base hR2 k h1
    go_wp2
    go_ret
    exact RowsPost.two (Kd.R_alloc (Kd.R_below (Kd.R_lower hR1 (below_drew HB.out).size) hB2) _) (R_nums 3 w2 w.heap.size _ rfl [0] hBw2.size (by simp) rfl) (Kd.R_alloc (Kd.R_lower hR2 hBw1.size) _) (fun k h1 h2 => by have := hlt k h1; have := hge k h2; omega) (below_step hBw2 (below_alloc (Below.refl _ _) _)) (by simp)
  all_goals
    rw [E3.out] at hR1
    have hB0 := below_drew (below_step HB.out (below_alloc (Below.refl _ _) (.cells #[.int .i64 0] 3)))
    have hBw1 := below_step hB0 hB1
    have hBw2 := below_step hBw1 hB2
    have hlt := fun k (h1 : (Value.slice B1 3 d1).ownBlock = some k) => Kd.R_lt hR1 k h1
    have hge := fun k (h1 : (Value.slice B2 3 d2).ownBlock = some k) => Kd.R_base hR2 k h1
    have h7 := Kd.R_below (Kd.R_below (Kd.R_drew (R_nums 3 (w.alloc (.cells #[.int .i64 n.kind, .slice (some ad) 4 c1, .slice A2 n.texts.length c2, .slice A3 n.kids.length c3] 26)) w.heap.size (w.heap.size + 1) (by simp) [0] HB.out.size (by simp) rfl)) hB1) hB2
    go_wp2
    go_ret
    exact RowsPost.two (Kd.R_below (Kd.R_lower hR1 hB0.size) hB2) h7 (Kd.R_lower hR2 hBw1.size) (fun k h1 h2 => by have := hlt k h1; have := hge k h2; omega) hBw2 rfl
end Go.Proofs.YtglfebpgdghlfaaDoor.L
end
section
namespace Go.Proofs.YtglfebpgdghlfaaDoor.L
open Go.RowKit Go.ChangeShapes Go.WideShapes Go.Proofs.YtglfebpgdghlfaaDoorW.PrintWords Go.Proofs.YtglfebpgdghlfaaDoorW.PrintLast Go.Proofs.YtglfebpgdghlfaaDoorW.PrintMore
attribute [local go_sem] max2_int min2_int max_two min_two max_three min_three max_four min_four
def Lits {α : Type} (d : Kd α) (W : World) : List α → List Value → Prop
  | [], cs => cs = []
  | p :: ps, cs => ∃ c r, cs = c ++ r ∧ d.K W p c ∧ Lits d W ps r
theorem Lits.reps {α : Type} {d : Kd α} {W : World} : ∀ (ps : List α) (cs : List Value) (qs : List α) (ds : List Value), Lits d W ps cs → Reps (d.K W) d.sz qs ds → Reps (d.K W) d.sz (qs ++ ps) (ds ++ cs)
  | [], cs, qs, ds, h, hr => by
    obtain rfl : cs = [] := h
    simpa using hr
  | p :: ps, cs, qs, ds, h, hr => by
    obtain ⟨c, r, rfl, hk, hl⟩ := h
    have := Lits.reps ps r (qs ++ [p]) (ds ++ c) hl (Reps.snoc hr hk (d.K_len hk))
    simpa using this
theorem C_lits {α : Type} (d : Kd α) (W : World) (e n : Nat) (hn : W.heap.size = n) (ps : List α) (cs : List Value) (h : Lits d W ps cs) (hm : ps.length ≤ 1000000) {ca : Array Value} (hca : ca = cs.toArray) :
    d.C (W.alloc (.cells ca e)) (some ⟨n, 0, none⟩) ps.length ps := by
  subst hn hca
  have hr := Lits.reps ps cs [] [] h (Reps.none _ _)
  rw [List.nil_append, List.nil_append] at hr
  have hb : Below W.heap.size W (W.alloc (.cells cs.toArray e)) := below_alloc (Below.refl _ _) _
  refine ⟨rfl, by omega, fun _ => ⟨_, rfl, fun j p hj => ?_⟩⟩
  have hk := hr.2 j p hj
  refine ⟨_, d.K_len hk, d.K_below hb hk, fun q u hu => ?_⟩
  have hh : (W.alloc (.cells cs.toArray e)).heap[W.heap.size]? = some (.cells cs.toArray e (0, 0)) := by simpa using heap_alloc_new W _
  rw [Go.Proofs.YtglfebpgdghlfaaDoorW.PrintWords.add_plain, blk_cell hh]
  rw [List.getElem?_take] at hu
  split at hu
  · rw [List.getElem?_drop] at hu
    simpa using hu
  · cases hu
end Go.Proofs.YtglfebpgdghlfaaDoor.L
end
section
namespace Go.Proofs.YtglfebpgdghlfaaDoor.L
open Go.RowKit Go.ChangeShapes Go.WideShapes Go.Proofs.YtglfebpgdghlfaaDoorW.PrintWords Go.Proofs.YtglfebpgdghlfaaDoorW.PrintLast Go.Proofs.YtglfebpgdghlfaaDoorW.PrintMore
attribute [local go_sem] max2_int min2_int max_two min_two max_three min_three max_four min_four
set_option maxHeartbeats 1000000 in
theorem ints_any (n : Nat) (c : Int) (w : World) (h1 : 1 ≤ n) (h2 : n ≤ 1000000) : Calls Tryd.prog 67 #[.int .i64 n, .int .i64 c] w fun e w' => ∃ A d, e = .returned (.slice A n d) ∧ n ≤ d ∧ (Kd.int .i64).R 3 w' w.heap.size (fun _ => True) (.slice A n d) (List.replicate n c) ∧ Below w.heap.size w w' := by
  have HB := Aside0.mk (Below.refl w.heap.size w)
  go_enter Tryd.func67, Tryd.ntmps67
  go_wp2_with fail
  refine (repeat_int ⟨w.heap.size, 0, none⟩ 1 c n _ (by simp) h1 h2).mono ?_
  rintro e w1 ⟨A, d, rfl, hR, hB⟩
  rw [List.length_replicate] at hR ⊢
  have HR := Aside0.mk (Kd.R_lower (base' := w.heap.size) hR (by simp))
  have HD := Aside0.mk (Kd.R_reads' hR).2.1
  have HB1 := Aside0.mk (below_step (below_alloc HB.out (.cells #[.int .i64 c] 3)) hB)
  clear hR hB
  go_wp2
  go_ret
  exact ⟨_, _, rfl, HD.out, HR.out, HB1.out⟩
def oldTab : List Spec := [specz, ⟨[], 0, 0, -1⟩, ⟨[2, 2, 2, 2], 0, 1, 1⟩, ⟨[3], 1, 0, 0⟩, ⟨[3], 1, 0, 0⟩, ⟨[], 1, 0, 0⟩, ⟨[4], 0, 0, 0⟩]
theorem Lits.cons {α : Type} {d : Kd α} {W : World} {p : α} {ps : List α} {c r : List Value} (hk : d.K W p c) (h : Lits d W ps r) : Lits d W (p :: ps) (c ++ r) := ⟨c, r, rfl, hk, h⟩
theorem Lits.nil {α : Type} {d : Kd α} {W : World} : Lits d W [] [] := rfl
def Past (b : Nat) (A : Option Addr) : Prop := ∀ ad, A = some ad → b < ad.block
theorem Past.none (b : Nat) : Past b none := fun _ h => by cases h
theorem Past.of_R {α : Type} {d : Kd α} {e B b n c : Nat} {w : World} {ok : Nat → Prop} {A : Option Addr} {xs : List α} (h : d.R e w B ok (.slice A n c) xs) (hb : b < B) : Past b A := fun ad he => by
  subst he
  have := Kd.R_base h ad.block rfl
  omega
theorem C_int_far {W : World} {A : Option Addr} {n b i : Nat} {k : IntKind} {xs : List Int} (h : (Kd.int k).C W A n xs) (hp : Past b A) (u : Value) : (Kd.int k).C (W.setCell ⟨b, i, none⟩ u) A n xs := by
  refine ⟨h.1, h.2.1, fun hn => ?_⟩
  obtain ⟨ad, rfl, hc⟩ := h.2.2 hn
  refine ⟨ad, rfl, fun j p hj => ?_⟩
  obtain ⟨c, h1, h2, h3⟩ := hc j p hj
  exact ⟨c, h1, h2, fun q u' hu => far_set (h3 q u' hu) b i (by rw [add_block]; have := hp ad rfl; omega) u⟩
theorem SpecC.far4 {W : World} {s : Spec} {A : Option Addr} {c b : Nat} (h : SpecC W s A c) (hp : Past b A) (u0 u1 u2 u3 : Value) : SpecC ((((W.setCell ⟨b, 0, none⟩ u0).setCell ⟨b, 1, none⟩ u1).setCell ⟨b, 2, none⟩ u2).setCell ⟨b, 3, none⟩ u3) s A c :=
  ⟨h.l, C_int_far (C_int_far (C_int_far (C_int_far h.i hp _) hp _) hp _) hp _⟩
set_option maxRecDepth 100000 in
set_option maxHeartbeats 4000000 in
theorem old_any (k : Int) (w : World) : Calls Tryd.prog 36 #[.int .i64 k] w (SpecPost (Past w.heap.size) (findS oldTab k) w) := by
  have HB0 := Aside0.mk (below_alloc (Below.refl w.heap.size w) (.cells #[.slice none 0 0, .int .i64 0, .int .i64 0, .int .i64 0] 66))
  have HZ0 := Aside0.mk (show w.heap.size < (w.alloc (.cells #[.slice none 0 0, .int .i64 0, .int .i64 0, .int .i64 0] 66)).heap.size from by simp)
  have HL0 := Aside0.mk (show Lives 4 w.heap.size (w.alloc (.cells #[.slice none 0 0, .int .i64 0, .int .i64 0, .int .i64 0] 66)) from Lives.new w #[.slice none 0 0, .int .i64 0, .int .i64 0, .int .i64 0] 66)
  have hu := Tryd.underlying66
  go_enter Tryd.func36, Tryd.ntmps36
  go_wp2_with fail
  refine (ints_any 4 2 _ (by omega) (by omega)).mono ?_
  rintro e w1 ⟨A1, d1, rfl, hd1, hR1, hB1⟩
  have HG1 := Aside0.mk (Past.of_R hR1 HZ0.out)
  have HR1 := Aside0.mk (Kd.R_reads' hR1).2.2
  have HD1 := Aside0.mk hd1
  have HB1 := Aside0.mk (below_step HB0.out hB1)
  have HZ1 := Aside0.mk (Nat.lt_of_lt_of_le HZ0.out hB1.size)
  have HL1 := Aside0.mk (Lives.below HL0.out hB1)
  clear hR1 hB1 hd1 HB0 HL0 HZ0
  go_wp2_with fail
  refine (ints_any 1 3 _ (by omega) (by omega)).mono ?_
  rintro e w2 ⟨A2, d2, rfl, hd2, hR2, hB2⟩
  have HG2 := Aside0.mk (Past.of_R hR2 HZ1.out)
  have HR2 := Aside0.mk (Kd.R_reads' hR2).2.2
  have HD2 := Aside0.mk hd2
  replace HR1 := Aside0.mk (Kd.C_below HR1.out hB2)
  have HB2 := Aside0.mk (below_step HB1.out hB2)
  have HZ2 := Aside0.mk (Nat.lt_of_lt_of_le HZ1.out hB2.size)
  have HL2 := Aside0.mk (Lives.below HL1.out hB2)
  clear hR2 hB2 hd2 HB1 HL1 HZ1
  go_wp2_with fail
  refine (ints_any 1 3 _ (by omega) (by omega)).mono ?_
  rintro e w3 ⟨A3, d3, rfl, hd3, hR3, hB3⟩
  have HG3 := Aside0.mk (Past.of_R hR3 HZ2.out)
  have HR3 := Aside0.mk (Kd.R_reads' hR3).2.2
  have HD3 := Aside0.mk hd3
  replace HR1 := Aside0.mk (Kd.C_below HR1.out hB3)
  replace HR2 := Aside0.mk (Kd.C_below HR2.out hB3)
  have HB3 := Aside0.mk (below_step HB2.out hB3)
  have HZ3 := Aside0.mk (Nat.lt_of_lt_of_le HZ2.out hB3.size)
  have HL3 := Aside0.mk (Lives.below HL2.out hB3)
  clear hR3 hB3 hd3 HB2 HL2 HZ2
  go_wp2_with fail
  refine (ints_any 1 4 _ (by omega) (by omega)).mono ?_
  rintro e w4 ⟨A4, d4, rfl, hd4, hR4, hB4⟩
  have HG4 := Aside0.mk (Past.of_R hR4 HZ3.out)
  have HR4 := Aside0.mk (Kd.R_reads' hR4).2.2
  have HD4 := Aside0.mk hd4
  replace HR1 := Aside0.mk (Kd.C_below HR1.out hB4)
  replace HR2 := Aside0.mk (Kd.C_below HR2.out hB4)
  replace HR3 := Aside0.mk (Kd.C_below HR3.out hB4)
  have HB4 := Aside0.mk (below_step HB3.out hB4)
  have HZ4 := Aside0.mk (Nat.lt_of_lt_of_le HZ3.out hB4.size)
  have HL4 := Aside0.mk (Lives.below HL3.out hB4)
  clear hR4 hB4 hd4 HB3 HL3 HZ3
  go_wp2_with fail
  refine (find_any (Past w.heap.size) (Past.none _) (some ⟨w4.heap.size, 0, none⟩) 7 oldTab k _ (C_lits (kSpecG (Past w.heap.size)) w4 _ _ rfl oldTab _ (Lits.cons (kSpecG_mk (A := none) (c := 0) (n := 0) rfl (Nat.le_refl 0) (C_nil _ _) (Past.none _) rfl rfl rfl) (Lits.cons (kSpecG_mk (A := none) (c := 0) (n := 0) rfl (Nat.le_refl 0) (C_nil _ _) (Past.none _) rfl rfl rfl) (Lits.cons (kSpecG_mk (n := 4) rfl HD1.out HR1.out HG1.out rfl rfl rfl) (Lits.cons (kSpecG_mk (n := 1) rfl HD2.out HR2.out HG2.out rfl rfl rfl) (Lits.cons (kSpecG_mk (n := 1) rfl HD3.out HR3.out HG3.out rfl rfl rfl) (Lits.cons (kSpecG_mk (A := none) (c := 0) (n := 0) rfl (Nat.le_refl 0) (C_nil _ _) (Past.none _) rfl rfl rfl) (Lits.cons (kSpecG_mk (n := 1) rfl HD4.out HR4.out HG4.out rfl rfl rfl) Lits.nil))))))) (by decide) rfl) (by decide)).mono ?_
  rintro e wf ⟨A, c, rfl, hS, hG, hB⟩
  have HS := Aside0.mk hS
  have HG := Aside0.mk hG
  have HB := Aside0.mk (below_step (below_alloc HB4.out _) hB)
  have HL := Aside0.mk (Lives.below (Lives.below HL4.out (below_alloc (Below.refl _ _) _)) hB)
  clear hS hG hB
  have hl0 := HL.out.at 0 (by omega)
  have hl1 := HL.out.at 1 (by omega)
  have hl2 := HL.out.at 2 (by omega)
  have hl3 := HL.out.at 3 (by omega)
  go_wp2
  clear hl0 hl1 hl2 hl3
  have h4 := HL.out.set4 (.slice A ((findS oldTab k).getD specz).ints.length c) (.int .i64 ((findS oldTab k).getD specz).texts) (.int .i64 ((findS oldTab k).getD specz).least) (.int .i64 ((findS oldTab k).getD specz).most)
  exact bodyPost_ret (v := .tuple #[.agg #[.slice A ((findS oldTab k).getD specz).ints.length c, .int .i64 ((findS oldTab k).getD specz).texts, .int .i64 ((findS oldTab k).getD specz).least, .int .i64 ((findS oldTab k).getD specz).most], .bool (findS oldTab k).isSome]) (by simp [results, Tryd.results36, go_sem, h4]) rfl ⟨A, c, rfl, HS.out.far4 HG.out _ _ _ _, HG.out, below_set4 HB.out (Nat.le_refl _)⟩
end Go.Proofs.YtglfebpgdghlfaaDoor.L
end
section
namespace Go.Proofs.YtglfebpgdghlfaaDoor.L
open Go.RowKit Go.ChangeShapes Go.WideShapes Go.Proofs.YtglfebpgdghlfaaDoorW.PrintWords Go.Proofs.YtglfebpgdghlfaaDoorW.PrintLast Go.Proofs.YtglfebpgdghlfaaDoorW.PrintMore
attribute [local go_sem] max2_int min2_int max_two min_two max_three min_three max_four min_four
def nodeT (tab : List Spec) (n : Node) : Int := match findS tab n.kind with
  | none => 9
  | some x => nodeErr n x
def typedFrom (tab : List Spec) : List Node → Int → Int × Int
  | [], _ => (0, 0)
  | n :: r, i => if nodeT tab n = 0 then typedFrom tab r (i + 1) else (nodeT tab n, i)
def typedS (tab : List Spec) (ns : List Node) : Int × Int := typedFrom tab ns 0
theorem typedFrom_bad (tab : List Spec) : ∀ (ns : List Node) (k : Int) (i : Nat), i < ns.length → (∀ j : Nat, j < i → nodeT tab (nd ns j) = 0) → ¬ nodeT tab (nd ns i) = 0 → typedFrom tab ns k = (nodeT tab (nd ns i), k + i)
  | [], _, _, h, _, _ => by simp at h
  | n :: r, k, 0, _, _, hb => by
    unfold typedFrom
    have hb' : ¬ nodeT tab n = 0 := hb
    rw [if_neg hb']
    simp [nd]
  | n :: r, k, i + 1, h, ha, hb => by
    have h0 : nodeT tab n = 0 := ha 0 (by omega)
    unfold typedFrom
    rw [if_pos h0, typedFrom_bad tab r (k + 1) i (by simpa using h) (fun j hj => ha (j + 1) (by omega)) hb]
    have : k + 1 + (i : Int) = k + ((i + 1 : Nat) : Int) := by omega
    rw [this]
    rfl
theorem typedFrom_ok (tab : List Spec) : ∀ (ns : List Node) (k : Int), (∀ j : Nat, j < ns.length → nodeT tab (nd ns j) = 0) → typedFrom tab ns k = (0, 0)
  | [], _, _ => rfl
  | n :: r, k, ha => by
    have h0 : nodeT tab n = 0 := ha 0 (by simp)
    unfold typedFrom
    rw [if_pos h0]
    exact typedFrom_ok tab r (k + 1) (fun j hj => ha (j + 1) (by simpa using hj))
theorem typedS_bad {tab : List Spec} {ns : List Node} {i : Nat} (hi : i < ns.length) (ha : ∀ j : Nat, j < i → nodeT tab (nd ns j) = 0) (hb : ¬ nodeT tab (nd ns i) = 0) : typedS tab ns = (nodeT tab (nd ns i), (i : Int)) := by
  unfold typedS
  rw [typedFrom_bad tab ns 0 i hi ha hb]; simp
theorem typedS_ok {tab : List Spec} {ns : List Node} (ha : ∀ j : Nat, j < ns.length → nodeT tab (nd ns j) = 0) : typedS tab ns = (0, 0) := typedFrom_ok tab ns 0 ha
theorem typedS_zero {tab : List Spec} {ns : List Node} (h : (typedS tab ns).1 = 0) : ∀ j : Nat, j < ns.length → nodeT tab (nd ns j) = 0 := by
  have key : ∀ (ns : List Node) (k : Int), (typedFrom tab ns k).1 = 0 → ∀ j : Nat, j < ns.length → nodeT tab (nd ns j) = 0 := fun ns => by
    induction ns with
    | nil => intro k _ j hj; simp at hj
    | cons n r ih =>
      intro k hk j hj
      unfold typedFrom at hk
      by_cases h0 : nodeT tab n = 0
      · rw [if_pos h0] at hk
        cases j with
        | zero => exact h0
        | succ j => exact ih (k + 1) hk j (by simpa using hj)
      · rw [if_neg h0] at hk
        exact absurd hk h0
  exact key ns 0 h
def TypedPost (r : Int × Int) (w : World) (e : Ending) (w' : World) : Prop := e = .returned (.tuple #[.int .i64 r.1, .int .i64 r.2]) ∧ Below w.heap.size w w'
theorem ret_pair {a b : Int} {r : Int × Int} (h : r = (a, b)) : Ending.returned (.tuple #[.int .i64 a, .int .i64 b]) = .returned (.tuple #[.int .i64 r.1, .int .i64 r.2]) := by rw [h]
end Go.Proofs.YtglfebpgdghlfaaDoor.L
end
section
namespace Go.Proofs.YtglfebpgdghlfaaDoor.L
open Go.RowKit Go.ChangeShapes Go.WideShapes Go.Proofs.YtglfebpgdghlfaaDoorW.PrintWords Go.Proofs.YtglfebpgdghlfaaDoorW.PrintLast Go.Proofs.YtglfebpgdghlfaaDoorW.PrintMore
attribute [local go_sem] max2_int min2_int max_two min_two max_three min_three max_four min_four
set_option maxRecDepth 100000 in
set_option maxHeartbeats 4000000 in
theorem oldtyped_run (A : Option Addr) (c : Nat) (s : Scene) (w : World) (h : kNode.C w A s.nodes.length s.nodes) (hT : Tabs w) (hS : ∀ i : Nat, i < s.nodes.length → TextsSmall (nd s.nodes i)) :
    Calls Tryd.prog 84 #[.agg #[.func (.func 36) #[] #[]], .agg #[.slice A s.nodes.length c, .int .i64 s.root]] w (TypedPost (typedS oldTab s.nodes) w) := by
  have HR := Aside0.mk h
  have HT := Aside0.mk hT
  have HS := Aside0.mk hS
  have b0 := h.2.1
  have HB := Aside0.mk (below_alloc (below_alloc (Below.refl w.heap.size w) (.cells #[.func (.func 36) #[] #[]] 114)) (.cells #[.slice A s.nodes.length c, .int .i64 s.root] 39))
  have hu := Tryd.underlying39
  have hun := Tryd.underlying26
  have hus := Tryd.underlying66
  clear h hT hS
  go_enter Tryd.func84, Tryd.ntmps84
  go_wp2
  go_loopw [14] (fun v12 W => ∃ i : Nat, i ≤ s.nodes.length ∧ v12 = .int .i64 i ∧ Aside0 (∀ j : Nat, j < i → nodeT oldTab (nd s.nodes j) = 0) ∧ Aside0 (Below w.heap.size w W) ∧ Aside0 (W.cell? ⟨w.heap.size, 0, none⟩ = some (.func (.func 36) #[] #[]))) (fun v12 _ => s.nodes.length - (intOf v12).toNat)
  case atStart => exact ⟨0, by omega, rfl, ⟨fun j h => by omega⟩, HB, ⟨box_cell2 w _ rfl #[.func (.func 36) #[] #[]] 114 _ 0 _ rfl⟩⟩
  case round =>
    obtain ⟨i, hi, rfl, HA, HW, HV⟩ := hrel
    by_cases hlt : i < s.nodes.length
    · obtain ⟨adn, A1, c1, A2, c2, A3, c3, rfl, x0, x1, x2, x3, hN⟩ := at_node HR.out i hlt
      replace x0 := pw_cell_below HW.out x0
      replace x1 := pw_cell_below HW.out x1
      replace x2 := pw_cell_below HW.out x2
      replace x3 := pw_cell_below HW.out x3
      have HN := Aside0.mk hN
      have hba := below_alloc (Below.refl wr.heap.size wr) (.cells #[.int .i64 (nd s.nodes i).kind, .slice A1 (nd s.nodes i).ints.length c1, .slice A2 (nd s.nodes i).texts.length c2, .slice A3 (nd s.nodes i).kids.length c3] 26)
      have hbx : (wr.alloc (.cells #[.int .i64 (nd s.nodes i).kind, .slice A1 (nd s.nodes i).ints.length c1, .slice A2 (nd s.nodes i).texts.length c2, .slice A3 (nd s.nodes i).kids.length c3] 26)).heap[wr.heap.size]? = some (.cells #[.int .i64 (nd s.nodes i).kind, .slice A1 (nd s.nodes i).ints.length c1, .slice A2 (nd s.nodes i).texts.length c2, .slice A3 (nd s.nodes i).kids.length c3] 26 (0, 0)) := by simpa using heap_alloc_new wr _
      have HBX := Aside0.mk hbx
      have HBA := Aside0.mk hba
      have y0 := (blk_cell hbx 0).trans rfl
      have v0 := pw_cell_below hba HV.out
      clear hN hba hbx
      go_wp2_with fail
      refine (old_any (nd s.nodes i).kind _).mono ?_
      rintro e w6 ⟨A4, c4, rfl, hS6, -, hB6⟩
      have HB6 := Aside0.mk (below_step HW.out (below_step HBA.out hB6))
      cases hf : findS oldTab (nd s.nodes i).kind with
      | none =>
        have HE := Aside0.mk (typedS_bad (tab := oldTab) hlt HA.out (by unfold nodeT; rw [hf]; exact (by decide : ¬ (9 : Int) = 0)))
        have HE2 := Aside0.mk (show nodeT oldTab (nd s.nodes i) = 9 from by unfold nodeT; rw [hf])
        clear hf hS6 hB6
        go_wp2
        go_ret2
        exact ⟨ret_pair (by rw [HE.out, HE2.out]), below_step HB6.out (below_alloc (Below.refl _ _) _)⟩
      | some sp =>
        have HE2 := Aside0.mk (show nodeT oldTab (nd s.nodes i) = nodeErr (nd s.nodes i) sp from by unfold nodeT; rw [hf])
        rw [hf] at hS6
        have hb6 := (hB6.block _ (by simp)).trans HBX.out
        have hbs := below_alloc (Below.refl w6.heap.size w6) (.cells #[.slice A4 sp.ints.length c4, .int .i64 sp.texts, .int .i64 sp.least, .int .i64 sp.most] 66)
        have hbx : (w6.alloc (.cells #[.slice A4 sp.ints.length c4, .int .i64 sp.texts, .int .i64 sp.least, .int .i64 sp.most] 66)).heap[w6.heap.size]? = some (.cells #[.slice A4 sp.ints.length c4, .int .i64 sp.texts, .int .i64 sp.least, .int .i64 sp.most] 66 (0, 0)) := by simpa using heap_alloc_new w6 _
        have z0 := (blk_cell ((hbs.block _ (blk_lt hb6)).trans hb6) 0).trans rfl
        have z1 := (blk_cell ((hbs.block _ (blk_lt hb6)).trans hb6) 1).trans rfl
        have z2 := (blk_cell ((hbs.block _ (blk_lt hb6)).trans hb6) 2).trans rfl
        have z3 := (blk_cell ((hbs.block _ (blk_lt hb6)).trans hb6) 3).trans rfl
        have q0 := (blk_cell hbx 0).trans rfl
        have q1 := (blk_cell hbx 1).trans rfl
        have q2 := (blk_cell hbx 2).trans rfl
        have q3 := (blk_cell hbx 3).trans rfl
        have HS6 := Aside0.mk (SpecC.below hS6 hbs)
        have HB7 := Aside0.mk (below_step HB6.out hbs)
        have HC7 := Aside0.mk (below_step HBA.out (below_step hB6 hbs))
        clear hf hS6 hB6 hb6 hbs hbx
        go_wp2_with fail
        refine (check_any (nd s.nodes i) A1 c1 A2 c2 A3 c3 sp A4 c4 _ (HN.out.below HB7.out) HS6.out (HS.out i hlt) (HT.out.below HB7.out)).mono ?_
        rintro e w8 ⟨rfl, hB8⟩
        have HB8 := Aside0.mk (below_step HB7.out hB8)
        have HV8 := Aside0.mk (pw_cell_below (below_step HC7.out hB8) HV.out)
        clear v0 hB8 z0 z1 z2 z3 q0 q1 q2 q3 x0 x1 x2 x3 y0
        by_cases hz : nodeErr (nd s.nodes i) sp = 0
        · have HA2 := Aside0.mk (ext_lt HA.out (HE2.out.trans hz))
          rw [hz]
          clear hz
          go_wp2
          go_roundw
          case rel => exact ⟨i + 1, by omega, by go_num, HA2, HB8, HV8⟩
          case measure => simp [intOf]; omega
        · have HE := Aside0.mk (typedS_bad (tab := oldTab) hlt HA.out (by rw [HE2.out]; exact hz))
          have dz : (nodeErr (nd s.nodes i) sp != 0) = true := by simpa using hz
          clear hz
          go_wp2
          go_ret2
          exact ⟨ret_pair (by rw [HE.out, HE2.out]), HB8.out⟩
    · obtain rfl : i = s.nodes.length := by omega
      have HE := Aside0.mk (typedS_ok HA.out)
      go_wp2
      go_ret2
      exact ⟨ret_pair HE.out, HW.out⟩

set_option maxRecDepth 100000 in
set_option maxHeartbeats 4000000 in
theorem oldtyped_any (A : Option Addr) (c : Nat) (s : Scene) (w : World) (h : kNode.C w A s.nodes.length s.nodes) (hT : Tabs w) (hS : ∀ i : Nat, i < s.nodes.length → TextsSmall (nd s.nodes i)) :
    Calls Tryd.prog 44 #[.agg #[.slice A s.nodes.length c, .int .i64 s.root]] w (TypedPost (typedS oldTab s.nodes) w) := by
  have HR := Aside0.mk h
  have HT := Aside0.mk hT
  have HS := Aside0.mk hS
  have HB := Aside0.mk (below_alloc (Below.refl w.heap.size w) (.cells #[.slice A s.nodes.length c, .int .i64 s.root] 39))
  have k0 := box_cell w _ rfl #[.slice A s.nodes.length c, .int .i64 s.root] 39 0 _ rfl
  have k1 := box_cell w _ rfl #[.slice A s.nodes.length c, .int .i64 s.root] 39 1 _ rfl
  have hu := Tryd.underlying39
  have huv := Tryd.underlying114
  clear h hT hS
  go_enter Tryd.func44, Tryd.ntmps44
  go_wp2_with fail
  refine (oldtyped_run A c s _ (Kd.C_below HR.out HB.out) (HT.out.below HB.out) HS.out).mono ?_
  rintro e w1 ⟨rfl, hB1⟩
  go_wp2
  go_ret2
  exact ⟨rfl, below_step HB.out hB1⟩
end Go.Proofs.YtglfebpgdghlfaaDoor.L
end
section
namespace Go.Proofs.YtglfebpgdghlfaaDoor.L
open Go.RowKit Go.ChangeShapes Go.WideShapes Go.Proofs.YtglfebpgdghlfaaDoorW.PrintWords Go.Proofs.YtglfebpgdghlfaaDoorW.PrintLast Go.Proofs.YtglfebpgdghlfaaDoorW.PrintMore
attribute [local go_sem] max2_int min2_int max_two min_two max_three min_three max_four min_four
theorem S_kids {W0 W : World} {base g m c : Nat} {l : List Node} {v : Value} {q : List Int} (h : Kd.S kNode 26 W0 base (fun _ => True) (.slice (some ⟨g, 0, none⟩) m c) l) (hb : Below W0.heap.size W0 W) (hv : (Kd.int .i64).R 3 W W0.heap.size (fun _ => True) v q) (i : Nat) (hi : i < m) (hB : base ≤ W0.heap.size) :
    (∃ x, W.cell? ⟨g, i * 4 + 3, none⟩ = some x) ∧ W.frozen? ⟨g, i * 4 + 3, none⟩ = false ∧ base ≤ g ∧
      Kd.S kNode 26 (W.setCell ⟨g, i * 4 + 3, none⟩ v) base (fun _ => True) (.slice (some ⟨g, 0, none⟩) m c) (l.set i ⟨(nd l i).kind, (nd l i).ints, (nd l i).texts, q⟩) := by
  have hgl := Kd.S_lt h g rfl
  have h1 : Kd.S kNode 26 W base (fun k => True ∧ ¬ W0.heap.size ≤ k) (.slice (some ⟨g, 0, none⟩) m c) l := Kd.S_below (Kd.S_mono (Kd.S_bound h) (fun k hk => ⟨trivial, by have := hk.2.2.1; omega⟩)) hb
  obtain ⟨oki, cc, hcl, hM, hcc, hfr, hoki, hH⟩ := Kd.S_elem h1 nodez (i : Int) (by omega) (by omega)
  rw [Int.toNat_natCast] at hM hcc hfr
  obtain ⟨v1, v2, v3, rfl, r1, r2, r3⟩ := kNode_openM hM
  have hs := Kd.S_seg (okg := fun k => W0.heap.size ≤ k) (okp := fun k => oki k ∨ W0.heap.size ≤ k) (ok := fun _ => True) (seg := [v]) (j := 3) (x' := ⟨(nd l i).kind, (nd l i).ints, (nd l i).texts, q⟩) hH (by omega) (by omega) (Nat.le_refl 4)
    (kNode_mkM (Kd.R_mono r1 (fun _ h => .inl h)) (Kd.R_mono r2 (fun _ h => .inl h)) (Kd.R_lower (Kd.R_mono (Kd.R_bound hv) (fun k hk => .inr hk.2.1)) hB)) (fun k hk => hk) (fun k hk => ⟨trivial, by omega⟩)
  rw [Int.toNat_natCast] at hs
  exact ⟨⟨_, hcc 3 _ rfl⟩, hfr 3, Kd.S_base h g rfl, hs.1⟩
def fnv (i : Nat) : Value := .agg #[.func (.func i) #[] #[]]
noncomputable def upF : Lit → Option Value := putF (putF (putF (putF (putF (putF (fun _ => none) (.int .i64 1) (fnv 72)) (.int .i64 2) (fnv 73)) (.int .i64 3) (fnv 76)) (.int .i64 4) (fnv 78)) (.int .i64 5) (fnv 79)) (.int .i64 6) (fnv 80)
set_option maxRecDepth 100000 in
set_option maxHeartbeats 2000000 in
theorem uprows_any (w : World) : Calls Tryd.prog 38 #[] w fun e w' => ∃ b, e = .returned (.map (some b)) ∧ MapF Tryd.prog 3 w' b 6 upF ∧ w.heap.size ≤ b ∧ Below w.heap.size w w' := by
  have hmm := @run_makeMap Tryd.prog
  have HM0 := Aside0.mk (MapF.made Tryd.prog 3 w)
  have HB0 := Aside0.mk (below_alloc (Below.refl w.heap.size w) (.map #[] 0))
  go_enter Tryd.func38, Tryd.ntmps38
  go_wp2_with (first
    | (refine wpList_insert_F _ rfl (.tmp 1) _ (.tmp 2) 73 rfl 3 72 keyI Tryd.underlying73 w.heap.size 0 (fun _ => none) rfl HM0.out (by decide) (.int .i64 1) (fnv 72) (.int .i64 1) rfl rfl (keyI_of (by omega) (by omega)) ?_; intro w1 hM1 hg1; have HM1 := Aside0.mk hM1; have HB1 := Aside0.mk (below_map HB0.out HB0.out.size hg1 (Nat.le_refl _)); clear hM1 hg1)
    | (refine wpList_insert_F _ rfl (.tmp 1) _ (.tmp 3) 73 rfl 3 72 keyI Tryd.underlying73 w.heap.size 1 _ rfl HM1.out (by decide) (.int .i64 2) (fnv 73) (.int .i64 2) rfl rfl (keyI_of (by omega) (by omega)) ?_; intro w2 hM2 hg2; have HM2 := Aside0.mk hM2; have HB2 := Aside0.mk (below_map HB1.out HB1.out.size hg2 (Nat.le_refl _)); clear hM2 hg2)
    | (refine wpList_insert_F _ rfl (.tmp 1) _ (.tmp 4) 73 rfl 3 72 keyI Tryd.underlying73 w.heap.size 2 _ rfl HM2.out (by decide) (.int .i64 3) (fnv 76) (.int .i64 3) rfl rfl (keyI_of (by omega) (by omega)) ?_; intro w3 hM3 hg3; have HM3 := Aside0.mk hM3; have HB3 := Aside0.mk (below_map HB2.out HB2.out.size hg3 (Nat.le_refl _)); clear hM3 hg3)
    | (refine wpList_insert_F _ rfl (.tmp 1) _ (.tmp 5) 73 rfl 3 72 keyI Tryd.underlying73 w.heap.size 3 _ rfl HM3.out (by decide) (.int .i64 4) (fnv 78) (.int .i64 4) rfl rfl (keyI_of (by omega) (by omega)) ?_; intro w4 hM4 hg4; have HM4 := Aside0.mk hM4; have HB4 := Aside0.mk (below_map HB3.out HB3.out.size hg4 (Nat.le_refl _)); clear hM4 hg4)
    | (refine wpList_insert_F _ rfl (.tmp 1) _ (.tmp 6) 73 rfl 3 72 keyI Tryd.underlying73 w.heap.size 4 _ rfl HM4.out (by decide) (.int .i64 5) (fnv 79) (.int .i64 5) rfl rfl (keyI_of (by omega) (by omega)) ?_; intro w5 hM5 hg5; have HM5 := Aside0.mk hM5; have HB5 := Aside0.mk (below_map HB4.out HB4.out.size hg5 (Nat.le_refl _)); clear hM5 hg5)
    | (refine wpList_insert_F _ rfl (.tmp 1) _ (.tmp 7) 73 rfl 3 72 keyI Tryd.underlying73 w.heap.size 5 _ rfl HM5.out (by decide) (.int .i64 6) (fnv 80) (.int .i64 6) rfl rfl (keyI_of (by omega) (by omega)) ?_; intro w6 hM6 hg6; have HM6 := Aside0.mk hM6; have HB6 := Aside0.mk (below_map HB5.out HB5.out.size hg6 (Nat.le_refl _)); clear hM6 hg6))
  go_ret
  exact ⟨_, rfl, HM6.out, Nat.le_refl _, HB6.out⟩
end Go.Proofs.YtglfebpgdghlfaaDoor.L
end
section
namespace Go.Proofs.YtglfebpgdghlfaaDoor.L
open Go.RowKit Go.ChangeShapes Go.WideShapes Go.Proofs.YtglfebpgdghlfaaDoorW.PrintWords Go.Proofs.YtglfebpgdghlfaaDoorW.PrintLast Go.Proofs.YtglfebpgdghlfaaDoorW.PrintMore
attribute [local go_sem] max2_int min2_int max_two min_two max_three min_three max_four min_four
def upN (n : Node) : List Node :=
  if n.kind = 1 then [⟨1, [], [ByteArray.empty], n.kids⟩]
  else if n.kind = 2 then [⟨2, n.ints.take 3, [], [0]⟩, ⟨8, [rd n.ints 3, rd n.ints 3, rd n.ints 3], [], n.kids⟩]
  else if n.kind = 3 then [⟨3, [rd n.ints 0, rd n.ints 0, rd n.ints 0], n.texts, n.kids⟩]
  else if n.kind = 4 then [⟨4, n.ints, n.texts, n.kids⟩]
  else if n.kind = 5 then [⟨5, [65536], [str n.texts 0, ⟨#[115, 97, 110, 115]⟩], n.kids⟩]
  else [⟨7, [rd n.ints 0, rd n.ints 0, rd n.ints 0, 1], [], n.kids⟩]
def upR (n : Node) : List Node × Int := if nodeT oldTab n = 0 then (upN n, 0) else ([], nodeT oldTab n)
def UpPost (r : List Node × Int) (w : World) (e : Ending) (w' : World) : Prop :=
  ∃ A c, e = .returned (.tuple #[.slice A r.1.length c, .int .i64 r.2]) ∧ Kd.S kNode 26 w' w.heap.size (fun _ => True) (.slice A r.1.length c) r.1 ∧ Below w.heap.size w w'
theorem nodeErr_zero {n : Node} {s : Spec} (h : nodeErr n s = 0) : numsOk n.ints s.ints = true ∧ (n.texts.length : Int) = s.texts ∧ textsOk n.texts = true := by
  unfold nodeErr at h
  by_cases h1 : numsOk n.ints s.ints = false
  · rw [if_pos h1] at h; omega
  · rw [if_neg h1] at h
    by_cases h2 : ¬ (n.texts.length : Int) = s.texts ∨ textsOk n.texts = false
    · rw [if_pos h2] at h; omega
    · have h3 : (n.texts.length : Int) = s.texts := Classical.byContradiction fun h => h2 (.inl h)
      have h4 : ¬ textsOk n.texts = false := fun h => h2 (.inr h)
      exact ⟨by cases hh : numsOk n.ints s.ints with | true => rfl | false => exact absurd hh h1, h3, by cases hh : textsOk n.texts with | true => rfl | false => exact absurd hh h4⟩
theorem old_kind {k : Int} {x : Spec} (h : findS oldTab k = some x) : 1 ≤ k ∧ k ≤ 6 := by
  unfold findS at h
  by_cases hk : k < 1 ∨ (oldTab.length : Int) ≤ k
  · rw [if_pos hk] at h; cases h
  · have : (oldTab.length : Int) = 7 := rfl
    omega
theorem upF_1 : upF (.int .i64 1) = some (fnv 72) := by simp [upF, putF]
theorem upF_2 : upF (.int .i64 2) = some (fnv 73) := by simp [upF, putF]
theorem upF_3 : upF (.int .i64 3) = some (fnv 76) := by simp [upF, putF]
theorem upF_4 : upF (.int .i64 4) = some (fnv 78) := by simp [upF, putF]
theorem upF_5 : upF (.int .i64 5) = some (fnv 79) := by simp [upF, putF]
theorem upF_6 : upF (.int .i64 6) = some (fnv 80) := by simp [upF, putF]
theorem field_run (i : Nat) (w : World) : (Instr.field 72 (.agg #[.func (.func i) #[] #[]]) 0).run Tryd.prog w = .ok (.func (.func i) #[] #[]) w := by kernel_rfl
theorem pos1 {m k : Nat} (h : m = k) (hk : 0 < k) : 0 < m := by omega
theorem pos5 {m : Nat} (h : (m : Int) = 1) : 0 < m := by omega
theorem zeroU (w : World) : (zeroValue 72).run Tryd.prog w = .ok ((match (Tryd.prog.info? 72) with | some i => i.zero.getD undef | none => undef)) w := by kernel_rfl
theorem node_len {n : Node} {x : Spec} (hf : findS oldTab n.kind = some x) (hz : nodeErr n x = 0) {k : Int} {y : Spec} (hk : n.kind = k) (hy : findS oldTab k = some y) : n.ints.length = y.ints.length ∧ (n.texts.length : Int) = y.texts := by
  rw [hk, hy] at hf
  injection hf with hf
  subst hf
  have h := nodeErr_zero hz
  have h1 := of_decide_eq_true h.1
  exact ⟨h1.1, h.2.1⟩
set_option maxRecDepth 100000 in
set_option maxHeartbeats 8000000 in
theorem upnode_any (n : Node) (A1 : Option Addr) (c1 : Nat) (A2 : Option Addr) (c2 : Nat) (A3 : Option Addr) (c3 : Nat) (w : World) (h : NodeC w n A1 c1 A2 c2 A3 c3) (hs : Small n) (hts : TextsSmall n) (hT : Tabs w) :
    Calls Tryd.prog 14 #[.agg #[.int .i64 n.kind, .slice A1 n.ints.length c1, .slice A2 n.texts.length c2, .slice A3 n.kids.length c3]] w (UpPost (upR n) w) := by
  have HN := Aside0.mk h
  have HS := Aside0.mk hs
  have HTS := Aside0.mk hts
  have HT := Aside0.mk hT
  have HB := Aside0.mk (below_alloc (Below.refl w.heap.size w) (.cells #[.int .i64 n.kind, .slice A1 n.ints.length c1, .slice A2 n.texts.length c2, .slice A3 n.kids.length c3] 26))
  have k0 := box_cell w _ rfl #[.int .i64 n.kind, .slice A1 n.ints.length c1, .slice A2 n.texts.length c2, .slice A3 n.kids.length c3] 26 0 _ rfl
  have k1 := box_cell w _ rfl #[.int .i64 n.kind, .slice A1 n.ints.length c1, .slice A2 n.texts.length c2, .slice A3 n.kids.length c3] 26 1 _ rfl
  have k2 := box_cell w _ rfl #[.int .i64 n.kind, .slice A1 n.ints.length c1, .slice A2 n.texts.length c2, .slice A3 n.kids.length c3] 26 2 _ rfl
  have k3 := box_cell w _ rfl #[.int .i64 n.kind, .slice A1 n.ints.length c1, .slice A2 n.texts.length c2, .slice A3 n.kids.length c3] 26 3 _ rfl
  have hun := Tryd.underlying26
  have hus := Tryd.underlying66
  have hub := Tryd.underlying72
  clear h hs hts hT
  go_enter Tryd.func14, Tryd.ntmps14
  go_wp2_with fail
  refine (old_any n.kind _).mono ?_
  rintro e w6 ⟨A4, c4, rfl, hS6, -, hB6⟩
  replace k0 := pw_cell_below hB6 k0
  replace k1 := pw_cell_below hB6 k1
  replace k2 := pw_cell_below hB6 k2
  replace k3 := pw_cell_below hB6 k3
  have HB6 := Aside0.mk (below_step HB.out hB6)
  cases hf : findS oldTab n.kind with
  | none =>
    have HE := Aside0.mk (show upR n = ([], 9) from by
      have : nodeT oldTab n = 9 := by unfold nodeT; rw [hf]
      unfold upR; rw [this, if_neg (by decide)])
    clear hf hS6 hB6
    go_wp2
    go_ret2
    exact ⟨none, 0, by rw [HE.out]; rfl, by rw [HE.out]; exact Kd.S_nil _ _ _ _ _, below_step HB6.out (below_alloc (Below.refl _ _) _)⟩
  | some sp =>
    have HF := Aside0.mk hf
    have HE2 := Aside0.mk (show nodeT oldTab n = nodeErr n sp from by unfold nodeT; rw [hf])
    rw [hf] at hS6
    have hbs := below_alloc (Below.refl w6.heap.size w6) (.cells #[.slice A4 sp.ints.length c4, .int .i64 sp.texts, .int .i64 sp.least, .int .i64 sp.most] 66)
    have hbx : (w6.alloc (.cells #[.slice A4 sp.ints.length c4, .int .i64 sp.texts, .int .i64 sp.least, .int .i64 sp.most] 66)).heap[w6.heap.size]? = some (.cells #[.slice A4 sp.ints.length c4, .int .i64 sp.texts, .int .i64 sp.least, .int .i64 sp.most] 66 (0, 0)) := by simpa using heap_alloc_new w6 _
    replace k0 := pw_cell_below hbs k0
    replace k1 := pw_cell_below hbs k1
    replace k2 := pw_cell_below hbs k2
    replace k3 := pw_cell_below hbs k3
    have q0 := (blk_cell hbx 0).trans rfl
    have q1 := (blk_cell hbx 1).trans rfl
    have q2 := (blk_cell hbx 2).trans rfl
    have q3 := (blk_cell hbx 3).trans rfl
    have HS6 := Aside0.mk (SpecC.below hS6 hbs)
    have HB7 := Aside0.mk (below_step HB6.out hbs)
    clear hf hS6 hB6 hbs hbx
    go_wp2_with fail
    refine (check_any n A1 c1 A2 c2 A3 c3 sp A4 c4 _ (HN.out.below HB7.out) HS6.out HTS.out (HT.out.below HB7.out)).mono ?_
    rintro e w8 ⟨rfl, hB8⟩
    have HB8 := Aside0.mk (below_step HB7.out hB8)
    replace k0 := pw_cell_below hB8 k0
    replace k1 := pw_cell_below hB8 k1
    replace k2 := pw_cell_below hB8 k2
    replace k3 := pw_cell_below hB8 k3
    clear hB8 q0 q1 q2 q3
    by_cases hz : nodeErr n sp = 0
    · have HE := Aside0.mk (show upR n = (upN n, 0) from by unfold upR; rw [if_pos (HE2.out.trans hz)])
      have HLen := Aside0.mk (fun {k : Int} {y : Spec} (hk : n.kind = k) (hy : findS oldTab k = some y) => node_len HF.out hz hk hy)
      have HK := Aside0.mk (old_kind HF.out)
      rw [hz]
      clear hz
      have hk6 : n.kind = 1 ∨ n.kind = 2 ∨ n.kind = 3 ∨ n.kind = 4 ∨ n.kind = 5 ∨ n.kind = 6 := by have := HK.out; omega
      rcases hk6 with hk | hk | hk | hk | hk | hk
      · have HUN : Aside0 (upN n = ([⟨1, [], [ByteArray.empty], []⟩] : List Node).set 0 ⟨(nd [⟨1, [], [ByteArray.empty], []⟩] 0).kind, (nd [⟨1, [], [ByteArray.empty], []⟩] 0).ints, (nd [⟨1, [], [ByteArray.empty], []⟩] 0).texts, n.kids⟩) := ⟨by unfold upN; rw [hk]; rfl⟩
        have HLn := Aside0.mk (HLen.out hk rfl)
        have HKn := Aside0.mk hk
        have hk0 : w8.cell? ⟨w.heap.size, 0, none⟩ = some (.int .i64 1) := by rw [← hk]; exact k0
        have hnode : Value.agg #[.int .i64 n.kind, .slice A1 n.ints.length c1, .slice A2 n.texts.length c2, .slice A3 n.kids.length c3] = .agg #[.int .i64 1, .slice A1 n.ints.length c1, .slice A2 n.texts.length c2, .slice A3 n.kids.length c3] := by rw [hk]
        have HCall := Aside0.mk (fun (wx : World) (HBa : Aside0 (Below w.heap.size w wx)) => show Calls Tryd.prog 72 #[.agg #[.int .i64 1, .slice A1 n.ints.length c1, .slice A2 n.texts.length c2, .slice A3 n.kids.length c3]] wx (RowsPost [⟨1, [], [ByteArray.empty], []⟩] wx) from hnode ▸ (up1_any n A1 c1 A2 c2 A3 c3 wx))
        have hfd := field_run 72
        clear hk k0 hnode
        go_wp2
        go_region_held3 (fun W => W.cell? ⟨w.heap.size, 0, none⟩ = some (.int .i64 1) ∧ W.cell? ⟨w.heap.size, 1, none⟩ = some (.slice A1 n.ints.length c1) ∧ W.cell? ⟨w.heap.size, 2, none⟩ = some (.slice A2 n.texts.length c2) ∧ W.cell? ⟨w.heap.size, 3, none⟩ = some (.slice A3 n.kids.length c3))
          (first
            | (go_split_ands
               refine ⟨?_, ?_, ?_, ?_⟩
               all_goals first
                 | with_reducible assumption
                 | with_reducible exact pw_cell_below hB (by assumption)
                 | (simp [*]; done)))
          (first
            | (go_at_call 38; refine (uprows_any _).mono ?_; rintro e wa ⟨b, rfl, hMF, hbb, hBa⟩; have hlk := MapF.run_lookup wa 73 hMF keyI Tryd.underlying73 (zeroU wa) (keyI_of (x := 1) (by omega) (by omega)); rw [upF_1] at hlk; replace hlk : (Instr.lookup 73 (.map (some b)) (.int .i64 1) false).run Tryd.prog wa = .ok (.agg #[.func (.func 72) #[] #[]]) wa := hlk; have HBa := Aside0.mk (below_step (below_drew HB8.out) hBa); have hB := hBa)
            | (go_at_call 72; refine (HCall.out wa HBa).mono ?_; rintro e wb ⟨g, cg, rfl, hSg, hBg⟩; have hB := hBg))
        have HBb := Aside0.mk (below_step HBa.out hBg)
        have HSg := Aside0.mk (show Kd.S kNode 26 wb w.heap.size (fun _ => True) (.slice (some ⟨g, 0, none⟩) 1 cg) [⟨1, [], [ByteArray.empty], []⟩] from by obtain ⟨f, hf⟩ := hSg; exact ⟨f, Kd.R_lower hf HBa.out.size⟩)
        have k3b := pw_cell_below hBg (pw_cell_below hBa (show w8.drew.cell? _ = _ from k3))
        have hgw := Kd.S_lt HSg.out g rfl
        clear k1 k2 k3 hk0 hfd hSg hBg hBa hMF hbb hlk
        go_wp2_with fail
        refine (clone_int A3 c3 n.kids _ (Kd.C_below HN.out.k HBb.out) (Nat.le_trans HS.out.2.2 (by omega))).mono ?_
        rintro e wc ⟨B3, d3, rfl, hR3, hBc⟩
        have HBc := Aside0.mk (below_step HBb.out hBc)
        obtain ⟨⟨x, hx⟩, hfx, hgb, hS3⟩ := S_kids HSg.out hBc hR3 0 (by decide) HBb.out.size
        replace hx : wc.cell? ⟨g, 3, none⟩ = some x := hx
        replace hfx : wc.frozen? ⟨g, 3, none⟩ = false := hfx
        have HS3 := Aside0.mk hS3
        have HG := Aside0.mk hgb
        clear hS3 hR3 hBc k3b hgw hgb
        go_wp2
        clear hx hfx
        go_ret2
        exact ⟨some ⟨g, 0, none⟩, cg, by rw [HE.out, HUN.out]; rfl, by rw [HE.out, HUN.out]; exact HS3.out, below_set HBc.out HG.out⟩
      · have HUN : Aside0 (upN n = ([⟨2, n.ints.take 3, [], [0]⟩, ⟨8, [rd n.ints 3, rd n.ints 3, rd n.ints 3], [], []⟩] : List Node).set 1 ⟨(nd [⟨2, n.ints.take 3, [], [0]⟩, ⟨8, [rd n.ints 3, rd n.ints 3, rd n.ints 3], [], []⟩] 1).kind, (nd [⟨2, n.ints.take 3, [], [0]⟩, ⟨8, [rd n.ints 3, rd n.ints 3, rd n.ints 3], [], []⟩] 1).ints, (nd [⟨2, n.ints.take 3, [], [0]⟩, ⟨8, [rd n.ints 3, rd n.ints 3, rd n.ints 3], [], []⟩] 1).texts, n.kids⟩) := ⟨by unfold upN; rw [hk]; rfl⟩
        have HLn := Aside0.mk (HLen.out hk rfl)
        have HKn := Aside0.mk hk
        have hk0 : w8.cell? ⟨w.heap.size, 0, none⟩ = some (.int .i64 2) := by rw [← hk]; exact k0
        have hnode : Value.agg #[.int .i64 n.kind, .slice A1 n.ints.length c1, .slice A2 n.texts.length c2, .slice A3 n.kids.length c3] = .agg #[.int .i64 2, .slice A1 n.ints.length c1, .slice A2 n.texts.length c2, .slice A3 n.kids.length c3] := by rw [hk]
        have HCall := Aside0.mk (fun (wx : World) (HBa : Aside0 (Below w.heap.size w wx)) => show Calls Tryd.prog 73 #[.agg #[.int .i64 2, .slice A1 n.ints.length c1, .slice A2 n.texts.length c2, .slice A3 n.kids.length c3]] wx (RowsPost [⟨2, n.ints.take 3, [], [0]⟩, ⟨8, [rd n.ints 3, rd n.ints 3, rd n.ints 3], [], []⟩] wx) from hnode ▸ (up2_any n A1 c1 A2 c2 A3 c3 wx (HN.out.below HBa.out) (HLn.out.1)))
        have hfd := field_run 73
        clear hk k0 hnode
        go_wp2
        go_region_held3 (fun W => W.cell? ⟨w.heap.size, 0, none⟩ = some (.int .i64 2) ∧ W.cell? ⟨w.heap.size, 1, none⟩ = some (.slice A1 n.ints.length c1) ∧ W.cell? ⟨w.heap.size, 2, none⟩ = some (.slice A2 n.texts.length c2) ∧ W.cell? ⟨w.heap.size, 3, none⟩ = some (.slice A3 n.kids.length c3))
          (first
            | (go_split_ands
               refine ⟨?_, ?_, ?_, ?_⟩
               all_goals first
                 | with_reducible assumption
                 | with_reducible exact pw_cell_below hB (by assumption)
                 | (simp [*]; done)))
          (first
            | (go_at_call 38; refine (uprows_any _).mono ?_; rintro e wa ⟨b, rfl, hMF, hbb, hBa⟩; have hlk := MapF.run_lookup wa 73 hMF keyI Tryd.underlying73 (zeroU wa) (keyI_of (x := 2) (by omega) (by omega)); rw [upF_2] at hlk; replace hlk : (Instr.lookup 73 (.map (some b)) (.int .i64 2) false).run Tryd.prog wa = .ok (.agg #[.func (.func 73) #[] #[]]) wa := hlk; have HBa := Aside0.mk (below_step (below_drew HB8.out) hBa); have hB := hBa)
            | (go_at_call 73; refine (HCall.out wa HBa).mono ?_; rintro e wb ⟨g, cg, rfl, hSg, hBg⟩; have hB := hBg))
        have HBb := Aside0.mk (below_step HBa.out hBg)
        have HSg := Aside0.mk (show Kd.S kNode 26 wb w.heap.size (fun _ => True) (.slice (some ⟨g, 0, none⟩) 2 cg) [⟨2, n.ints.take 3, [], [0]⟩, ⟨8, [rd n.ints 3, rd n.ints 3, rd n.ints 3], [], []⟩] from by obtain ⟨f, hf⟩ := hSg; exact ⟨f, Kd.R_lower hf HBa.out.size⟩)
        have k3b := pw_cell_below hBg (pw_cell_below hBa (show w8.drew.cell? _ = _ from k3))
        have hgw := Kd.S_lt HSg.out g rfl
        clear k1 k2 k3 hk0 hfd hSg hBg hBa hMF hbb hlk
        go_wp2_with fail
        refine (clone_int A3 c3 n.kids _ (Kd.C_below HN.out.k HBb.out) (Nat.le_trans HS.out.2.2 (by omega))).mono ?_
        rintro e wc ⟨B3, d3, rfl, hR3, hBc⟩
        have HBc := Aside0.mk (below_step HBb.out hBc)
        obtain ⟨⟨x, hx⟩, hfx, hgb, hS3⟩ := S_kids HSg.out hBc hR3 1 (by decide) HBb.out.size
        replace hx : wc.cell? ⟨g, 7, none⟩ = some x := hx
        replace hfx : wc.frozen? ⟨g, 7, none⟩ = false := hfx
        have HS3 := Aside0.mk hS3
        have HG := Aside0.mk hgb
        clear hS3 hR3 hBc k3b hgw hgb
        go_wp2
        clear hx hfx
        go_ret2
        exact ⟨some ⟨g, 0, none⟩, cg, by rw [HE.out, HUN.out]; rfl, by rw [HE.out, HUN.out]; exact HS3.out, below_set HBc.out HG.out⟩
      · have HUN : Aside0 (upN n = ([⟨3, [rd n.ints 0, rd n.ints 0, rd n.ints 0], n.texts, []⟩] : List Node).set 0 ⟨(nd [⟨3, [rd n.ints 0, rd n.ints 0, rd n.ints 0], n.texts, []⟩] 0).kind, (nd [⟨3, [rd n.ints 0, rd n.ints 0, rd n.ints 0], n.texts, []⟩] 0).ints, (nd [⟨3, [rd n.ints 0, rd n.ints 0, rd n.ints 0], n.texts, []⟩] 0).texts, n.kids⟩) := ⟨by unfold upN; rw [hk]; rfl⟩
        have HLn := Aside0.mk (HLen.out hk rfl)
        have HKn := Aside0.mk hk
        have hk0 : w8.cell? ⟨w.heap.size, 0, none⟩ = some (.int .i64 3) := by rw [← hk]; exact k0
        have hnode : Value.agg #[.int .i64 n.kind, .slice A1 n.ints.length c1, .slice A2 n.texts.length c2, .slice A3 n.kids.length c3] = .agg #[.int .i64 3, .slice A1 n.ints.length c1, .slice A2 n.texts.length c2, .slice A3 n.kids.length c3] := by rw [hk]
        have HCall := Aside0.mk (fun (wx : World) (HBa : Aside0 (Below w.heap.size w wx)) => show Calls Tryd.prog 76 #[.agg #[.int .i64 3, .slice A1 n.ints.length c1, .slice A2 n.texts.length c2, .slice A3 n.kids.length c3]] wx (RowsPost [⟨3, [rd n.ints 0, rd n.ints 0, rd n.ints 0], n.texts, []⟩] wx) from hnode ▸ (up3_any n A1 c1 A2 c2 A3 c3 wx (HN.out.below HBa.out) HS.out (pos1 HLn.out.1 (by decide))))
        have hfd := field_run 76
        clear hk k0 hnode
        go_wp2
        go_region_held3 (fun W => W.cell? ⟨w.heap.size, 0, none⟩ = some (.int .i64 3) ∧ W.cell? ⟨w.heap.size, 1, none⟩ = some (.slice A1 n.ints.length c1) ∧ W.cell? ⟨w.heap.size, 2, none⟩ = some (.slice A2 n.texts.length c2) ∧ W.cell? ⟨w.heap.size, 3, none⟩ = some (.slice A3 n.kids.length c3))
          (first
            | (go_split_ands
               refine ⟨?_, ?_, ?_, ?_⟩
               all_goals first
                 | with_reducible assumption
                 | with_reducible exact pw_cell_below hB (by assumption)
                 | (simp [*]; done)))
          (first
            | (go_at_call 38; refine (uprows_any _).mono ?_; rintro e wa ⟨b, rfl, hMF, hbb, hBa⟩; have hlk := MapF.run_lookup wa 73 hMF keyI Tryd.underlying73 (zeroU wa) (keyI_of (x := 3) (by omega) (by omega)); rw [upF_3] at hlk; replace hlk : (Instr.lookup 73 (.map (some b)) (.int .i64 3) false).run Tryd.prog wa = .ok (.agg #[.func (.func 76) #[] #[]]) wa := hlk; have HBa := Aside0.mk (below_step (below_drew HB8.out) hBa); have hB := hBa)
            | (go_at_call 76; refine (HCall.out wa HBa).mono ?_; rintro e wb ⟨g, cg, rfl, hSg, hBg⟩; have hB := hBg))
        have HBb := Aside0.mk (below_step HBa.out hBg)
        have HSg := Aside0.mk (show Kd.S kNode 26 wb w.heap.size (fun _ => True) (.slice (some ⟨g, 0, none⟩) 1 cg) [⟨3, [rd n.ints 0, rd n.ints 0, rd n.ints 0], n.texts, []⟩] from by obtain ⟨f, hf⟩ := hSg; exact ⟨f, Kd.R_lower hf HBa.out.size⟩)
        have k3b := pw_cell_below hBg (pw_cell_below hBa (show w8.drew.cell? _ = _ from k3))
        have hgw := Kd.S_lt HSg.out g rfl
        clear k1 k2 k3 hk0 hfd hSg hBg hBa hMF hbb hlk
        go_wp2_with fail
        refine (clone_int A3 c3 n.kids _ (Kd.C_below HN.out.k HBb.out) (Nat.le_trans HS.out.2.2 (by omega))).mono ?_
        rintro e wc ⟨B3, d3, rfl, hR3, hBc⟩
        have HBc := Aside0.mk (below_step HBb.out hBc)
        obtain ⟨⟨x, hx⟩, hfx, hgb, hS3⟩ := S_kids HSg.out hBc hR3 0 (by decide) HBb.out.size
        replace hx : wc.cell? ⟨g, 3, none⟩ = some x := hx
        replace hfx : wc.frozen? ⟨g, 3, none⟩ = false := hfx
        have HS3 := Aside0.mk hS3
        have HG := Aside0.mk hgb
        clear hS3 hR3 hBc k3b hgw hgb
        go_wp2
        clear hx hfx
        go_ret2
        exact ⟨some ⟨g, 0, none⟩, cg, by rw [HE.out, HUN.out]; rfl, by rw [HE.out, HUN.out]; exact HS3.out, below_set HBc.out HG.out⟩
      · have HUN : Aside0 (upN n = ([⟨4, n.ints, n.texts, []⟩] : List Node).set 0 ⟨(nd [⟨4, n.ints, n.texts, []⟩] 0).kind, (nd [⟨4, n.ints, n.texts, []⟩] 0).ints, (nd [⟨4, n.ints, n.texts, []⟩] 0).texts, n.kids⟩) := ⟨by unfold upN; rw [hk]; rfl⟩
        have HLn := Aside0.mk (HLen.out hk rfl)
        have HKn := Aside0.mk hk
        have hk0 : w8.cell? ⟨w.heap.size, 0, none⟩ = some (.int .i64 4) := by rw [← hk]; exact k0
        have hnode : Value.agg #[.int .i64 n.kind, .slice A1 n.ints.length c1, .slice A2 n.texts.length c2, .slice A3 n.kids.length c3] = .agg #[.int .i64 4, .slice A1 n.ints.length c1, .slice A2 n.texts.length c2, .slice A3 n.kids.length c3] := by rw [hk]
        have HCall := Aside0.mk (fun (wx : World) (HBa : Aside0 (Below w.heap.size w wx)) => show Calls Tryd.prog 78 #[.agg #[.int .i64 4, .slice A1 n.ints.length c1, .slice A2 n.texts.length c2, .slice A3 n.kids.length c3]] wx (RowsPost [⟨4, n.ints, n.texts, []⟩] wx) from hnode ▸ (up4_any n A1 c1 A2 c2 A3 c3 wx (HN.out.below HBa.out) HS.out))
        have hfd := field_run 78
        clear hk k0 hnode
        go_wp2
        go_region_held3 (fun W => W.cell? ⟨w.heap.size, 0, none⟩ = some (.int .i64 4) ∧ W.cell? ⟨w.heap.size, 1, none⟩ = some (.slice A1 n.ints.length c1) ∧ W.cell? ⟨w.heap.size, 2, none⟩ = some (.slice A2 n.texts.length c2) ∧ W.cell? ⟨w.heap.size, 3, none⟩ = some (.slice A3 n.kids.length c3))
          (first
            | (go_split_ands
               refine ⟨?_, ?_, ?_, ?_⟩
               all_goals first
                 | with_reducible assumption
                 | with_reducible exact pw_cell_below hB (by assumption)
                 | (simp [*]; done)))
          (first
            | (go_at_call 38; refine (uprows_any _).mono ?_; rintro e wa ⟨b, rfl, hMF, hbb, hBa⟩; have hlk := MapF.run_lookup wa 73 hMF keyI Tryd.underlying73 (zeroU wa) (keyI_of (x := 4) (by omega) (by omega)); rw [upF_4] at hlk; replace hlk : (Instr.lookup 73 (.map (some b)) (.int .i64 4) false).run Tryd.prog wa = .ok (.agg #[.func (.func 78) #[] #[]]) wa := hlk; have HBa := Aside0.mk (below_step (below_drew HB8.out) hBa); have hB := hBa)
            | (go_at_call 78; refine (HCall.out wa HBa).mono ?_; rintro e wb ⟨g, cg, rfl, hSg, hBg⟩; have hB := hBg))
        have HBb := Aside0.mk (below_step HBa.out hBg)
        have HSg := Aside0.mk (show Kd.S kNode 26 wb w.heap.size (fun _ => True) (.slice (some ⟨g, 0, none⟩) 1 cg) [⟨4, n.ints, n.texts, []⟩] from by obtain ⟨f, hf⟩ := hSg; exact ⟨f, Kd.R_lower hf HBa.out.size⟩)
        have k3b := pw_cell_below hBg (pw_cell_below hBa (show w8.drew.cell? _ = _ from k3))
        have hgw := Kd.S_lt HSg.out g rfl
        clear k1 k2 k3 hk0 hfd hSg hBg hBa hMF hbb hlk
        go_wp2_with fail
        refine (clone_int A3 c3 n.kids _ (Kd.C_below HN.out.k HBb.out) (Nat.le_trans HS.out.2.2 (by omega))).mono ?_
        rintro e wc ⟨B3, d3, rfl, hR3, hBc⟩
        have HBc := Aside0.mk (below_step HBb.out hBc)
        obtain ⟨⟨x, hx⟩, hfx, hgb, hS3⟩ := S_kids HSg.out hBc hR3 0 (by decide) HBb.out.size
        replace hx : wc.cell? ⟨g, 3, none⟩ = some x := hx
        replace hfx : wc.frozen? ⟨g, 3, none⟩ = false := hfx
        have HS3 := Aside0.mk hS3
        have HG := Aside0.mk hgb
        clear hS3 hR3 hBc k3b hgw hgb
        go_wp2
        clear hx hfx
        go_ret2
        exact ⟨some ⟨g, 0, none⟩, cg, by rw [HE.out, HUN.out]; rfl, by rw [HE.out, HUN.out]; exact HS3.out, below_set HBc.out HG.out⟩
      · have HUN : Aside0 (upN n = ([⟨5, [65536], [str n.texts 0, ⟨#[115, 97, 110, 115]⟩], []⟩] : List Node).set 0 ⟨(nd [⟨5, [65536], [str n.texts 0, ⟨#[115, 97, 110, 115]⟩], []⟩] 0).kind, (nd [⟨5, [65536], [str n.texts 0, ⟨#[115, 97, 110, 115]⟩], []⟩] 0).ints, (nd [⟨5, [65536], [str n.texts 0, ⟨#[115, 97, 110, 115]⟩], []⟩] 0).texts, n.kids⟩) := ⟨by unfold upN; rw [hk]; rfl⟩
        have HLn := Aside0.mk (HLen.out hk rfl)
        have HKn := Aside0.mk hk
        have hk0 : w8.cell? ⟨w.heap.size, 0, none⟩ = some (.int .i64 5) := by rw [← hk]; exact k0
        have hnode : Value.agg #[.int .i64 n.kind, .slice A1 n.ints.length c1, .slice A2 n.texts.length c2, .slice A3 n.kids.length c3] = .agg #[.int .i64 5, .slice A1 n.ints.length c1, .slice A2 n.texts.length c2, .slice A3 n.kids.length c3] := by rw [hk]
        have HCall := Aside0.mk (fun (wx : World) (HBa : Aside0 (Below w.heap.size w wx)) => show Calls Tryd.prog 79 #[.agg #[.int .i64 5, .slice A1 n.ints.length c1, .slice A2 n.texts.length c2, .slice A3 n.kids.length c3]] wx (RowsPost [⟨5, [65536], [str n.texts 0, ⟨#[115, 97, 110, 115]⟩], []⟩] wx) from hnode ▸ (up5_any n A1 c1 A2 c2 A3 c3 wx (HN.out.below HBa.out) (pos5 HLn.out.2)))
        have hfd := field_run 79
        clear hk k0 hnode
        go_wp2
        go_region_held3 (fun W => W.cell? ⟨w.heap.size, 0, none⟩ = some (.int .i64 5) ∧ W.cell? ⟨w.heap.size, 1, none⟩ = some (.slice A1 n.ints.length c1) ∧ W.cell? ⟨w.heap.size, 2, none⟩ = some (.slice A2 n.texts.length c2) ∧ W.cell? ⟨w.heap.size, 3, none⟩ = some (.slice A3 n.kids.length c3))
          (first
            | (go_split_ands
               refine ⟨?_, ?_, ?_, ?_⟩
               all_goals first
                 | with_reducible assumption
                 | with_reducible exact pw_cell_below hB (by assumption)
                 | (simp [*]; done)))
          (first
            | (go_at_call 38; refine (uprows_any _).mono ?_; rintro e wa ⟨b, rfl, hMF, hbb, hBa⟩; have hlk := MapF.run_lookup wa 73 hMF keyI Tryd.underlying73 (zeroU wa) (keyI_of (x := 5) (by omega) (by omega)); rw [upF_5] at hlk; replace hlk : (Instr.lookup 73 (.map (some b)) (.int .i64 5) false).run Tryd.prog wa = .ok (.agg #[.func (.func 79) #[] #[]]) wa := hlk; have HBa := Aside0.mk (below_step (below_drew HB8.out) hBa); have hB := hBa)
            | (go_at_call 79; refine (HCall.out wa HBa).mono ?_; rintro e wb ⟨g, cg, rfl, hSg, hBg⟩; have hB := hBg))
        have HBb := Aside0.mk (below_step HBa.out hBg)
        have HSg := Aside0.mk (show Kd.S kNode 26 wb w.heap.size (fun _ => True) (.slice (some ⟨g, 0, none⟩) 1 cg) [⟨5, [65536], [str n.texts 0, ⟨#[115, 97, 110, 115]⟩], []⟩] from by obtain ⟨f, hf⟩ := hSg; exact ⟨f, Kd.R_lower hf HBa.out.size⟩)
        have k3b := pw_cell_below hBg (pw_cell_below hBa (show w8.drew.cell? _ = _ from k3))
        have hgw := Kd.S_lt HSg.out g rfl
        clear k1 k2 k3 hk0 hfd hSg hBg hBa hMF hbb hlk
        go_wp2_with fail
        refine (clone_int A3 c3 n.kids _ (Kd.C_below HN.out.k HBb.out) (Nat.le_trans HS.out.2.2 (by omega))).mono ?_
        rintro e wc ⟨B3, d3, rfl, hR3, hBc⟩
        have HBc := Aside0.mk (below_step HBb.out hBc)
        obtain ⟨⟨x, hx⟩, hfx, hgb, hS3⟩ := S_kids HSg.out hBc hR3 0 (by decide) HBb.out.size
        replace hx : wc.cell? ⟨g, 3, none⟩ = some x := hx
        replace hfx : wc.frozen? ⟨g, 3, none⟩ = false := hfx
        have HS3 := Aside0.mk hS3
        have HG := Aside0.mk hgb
        clear hS3 hR3 hBc k3b hgw hgb
        go_wp2
        clear hx hfx
        go_ret2
        exact ⟨some ⟨g, 0, none⟩, cg, by rw [HE.out, HUN.out]; rfl, by rw [HE.out, HUN.out]; exact HS3.out, below_set HBc.out HG.out⟩
      · have HUN : Aside0 (upN n = ([⟨7, [rd n.ints 0, rd n.ints 0, rd n.ints 0, 1], [], []⟩] : List Node).set 0 ⟨(nd [⟨7, [rd n.ints 0, rd n.ints 0, rd n.ints 0, 1], [], []⟩] 0).kind, (nd [⟨7, [rd n.ints 0, rd n.ints 0, rd n.ints 0, 1], [], []⟩] 0).ints, (nd [⟨7, [rd n.ints 0, rd n.ints 0, rd n.ints 0, 1], [], []⟩] 0).texts, n.kids⟩) := ⟨by unfold upN; rw [hk]; rfl⟩
        have HLn := Aside0.mk (HLen.out hk rfl)
        have HKn := Aside0.mk hk
        have hk0 : w8.cell? ⟨w.heap.size, 0, none⟩ = some (.int .i64 6) := by rw [← hk]; exact k0
        have hnode : Value.agg #[.int .i64 n.kind, .slice A1 n.ints.length c1, .slice A2 n.texts.length c2, .slice A3 n.kids.length c3] = .agg #[.int .i64 6, .slice A1 n.ints.length c1, .slice A2 n.texts.length c2, .slice A3 n.kids.length c3] := by rw [hk]
        have HCall := Aside0.mk (fun (wx : World) (HBa : Aside0 (Below w.heap.size w wx)) => show Calls Tryd.prog 80 #[.agg #[.int .i64 6, .slice A1 n.ints.length c1, .slice A2 n.texts.length c2, .slice A3 n.kids.length c3]] wx (RowsPost [⟨7, [rd n.ints 0, rd n.ints 0, rd n.ints 0, 1], [], []⟩] wx) from hnode ▸ (up6_any n A1 c1 A2 c2 A3 c3 wx (HN.out.below HBa.out) (pos1 HLn.out.1 (by decide))))
        have hfd := field_run 80
        clear hk k0 hnode
        go_wp2
        go_region_held3 (fun W => W.cell? ⟨w.heap.size, 0, none⟩ = some (.int .i64 6) ∧ W.cell? ⟨w.heap.size, 1, none⟩ = some (.slice A1 n.ints.length c1) ∧ W.cell? ⟨w.heap.size, 2, none⟩ = some (.slice A2 n.texts.length c2) ∧ W.cell? ⟨w.heap.size, 3, none⟩ = some (.slice A3 n.kids.length c3))
          (first
            | (go_split_ands
               refine ⟨?_, ?_, ?_, ?_⟩
               all_goals first
                 | with_reducible assumption
                 | with_reducible exact pw_cell_below hB (by assumption)
                 | (simp [*]; done)))
          (first
            | (go_at_call 38; refine (uprows_any _).mono ?_; rintro e wa ⟨b, rfl, hMF, hbb, hBa⟩; have hlk := MapF.run_lookup wa 73 hMF keyI Tryd.underlying73 (zeroU wa) (keyI_of (x := 6) (by omega) (by omega)); rw [upF_6] at hlk; replace hlk : (Instr.lookup 73 (.map (some b)) (.int .i64 6) false).run Tryd.prog wa = .ok (.agg #[.func (.func 80) #[] #[]]) wa := hlk; have HBa := Aside0.mk (below_step (below_drew HB8.out) hBa); have hB := hBa)
            | (go_at_call 80; refine (HCall.out wa HBa).mono ?_; rintro e wb ⟨g, cg, rfl, hSg, hBg⟩; have hB := hBg))
        have HBb := Aside0.mk (below_step HBa.out hBg)
        have HSg := Aside0.mk (show Kd.S kNode 26 wb w.heap.size (fun _ => True) (.slice (some ⟨g, 0, none⟩) 1 cg) [⟨7, [rd n.ints 0, rd n.ints 0, rd n.ints 0, 1], [], []⟩] from by obtain ⟨f, hf⟩ := hSg; exact ⟨f, Kd.R_lower hf HBa.out.size⟩)
        have k3b := pw_cell_below hBg (pw_cell_below hBa (show w8.drew.cell? _ = _ from k3))
        have hgw := Kd.S_lt HSg.out g rfl
        clear k1 k2 k3 hk0 hfd hSg hBg hBa hMF hbb hlk
        go_wp2_with fail
        refine (clone_int A3 c3 n.kids _ (Kd.C_below HN.out.k HBb.out) (Nat.le_trans HS.out.2.2 (by omega))).mono ?_
        rintro e wc ⟨B3, d3, rfl, hR3, hBc⟩
        have HBc := Aside0.mk (below_step HBb.out hBc)
        obtain ⟨⟨x, hx⟩, hfx, hgb, hS3⟩ := S_kids HSg.out hBc hR3 0 (by decide) HBb.out.size
        replace hx : wc.cell? ⟨g, 3, none⟩ = some x := hx
        replace hfx : wc.frozen? ⟨g, 3, none⟩ = false := hfx
        have HS3 := Aside0.mk hS3
        have HG := Aside0.mk hgb
        clear hS3 hR3 hBc k3b hgw hgb
        go_wp2
        clear hx hfx
        go_ret2
        exact ⟨some ⟨g, 0, none⟩, cg, by rw [HE.out, HUN.out]; rfl, by rw [HE.out, HUN.out]; exact HS3.out, below_set HBc.out HG.out⟩
    · have HE := Aside0.mk (show upR n = ([], nodeErr n sp) from by unfold upR; rw [if_neg (by rw [HE2.out]; exact hz), HE2.out])
      have dz : (nodeErr n sp != 0) = true := by simpa using hz
      clear hz
      go_wp2
      go_ret2
      exact ⟨none, 0, by rw [HE.out]; rfl, by rw [HE.out]; exact Kd.S_nil _ _ _ _ _, HB8.out⟩
end Go.Proofs.YtglfebpgdghlfaaDoor.L
end
section
namespace Go.Proofs.YtglfebpgdghlfaaDoor.L
open Go.RowKit Go.ChangeShapes Go.WideShapes Go.Proofs.YtglfebpgdghlfaaDoorW.PrintWords Go.Proofs.YtglfebpgdghlfaaDoorW.PrintLast Go.Proofs.YtglfebpgdghlfaaDoorW.PrintMore
attribute [local go_sem] max2_int min2_int max_two min_two max_three min_three max_four min_four
section
open Classical in
theorem S_append_rows {P : Program} {ops : Array Oper} {rest : List Oper} {o : Oper} {a : Act} {Q : Exit → Act → World → Prop} {α : Type} (d : Kd α) {w0 W : World} (base : Nat) (hgd : o.guard = none) (s x : Operand) (t e : TypeId) (z : Value) (bytes : Nat)
    (ho : o.op = .call { callee := .builtin .append, args := #[s, x], argTypes := #[t, t] })
    (ht : P.underlying t = some (.slice e)) (hinfo : (P.info? e).map (fun i => (i.zero, i.size, i.bytes)) = some (some z, d.sz, bytes)) (hz : z.cells.size = d.sz) (hs0 : 0 < d.sz) (hb0 : 0 < bytes)
    (v : Value) (xs ys : List α) (A : Option Addr) (m c : Nat) (okx oky : Nat → Prop) (hs : a.eval s = v) (hx : a.eval x = .slice A m c)
    (HO : Kd.S d e W base okx v xs) (HY : Kd.S d e W base oky (.slice A m c) ys) (hap : ∀ k, oky k → ¬ okx k)
    (HB : Below base w0 W) (hbase : base ≤ W.heap.size) (hl : (xs.length + m) * bytes ≤ 140737488355328)
    (h : ∀ v1 w1, Kd.S d e w1 base (fun k => okx k ∨ oky k ∨ W.heap.size ≤ k) v1 (xs ++ ys) → Below base w0 w1 → W.grownBy w1 v.ownBlock → (v1.ownBlock = v.ownBlock ∨ ∃ b, v1.ownBlock = some b ∧ W.heap.size ≤ b) → wpList P ops Q rest (a.put o.dst v1) w1) :
    wpList P ops Q (o :: rest) a W := by
  obtain ⟨fx, hfx⟩ := HO
  obtain ⟨fy, hfy⟩ := HY
  let f' : Nat → Nat := fun k => if okx k then fx k else xs.length + fy k
  have h1 : (Kd.tag f' d).R e W base (fun k => okx k ∨ oky k ∨ W.heap.size ≤ k) v xs.zipIdx := Kd.R_mono (Kd.R_tag hfx (fun k hk _ => if_pos hk)) (fun k hk => .inl hk)
  obtain ⟨A', c', e', _, hrow⟩ := OwnRow.reads hfy.2
  rw [List.length_zipIdx] at e' hrow
  injection e' with eA em ec
  subst eA em ec
  have hrow2 : ReadsRow (fun (p : α × Nat) cs => xs.length ≤ p.2 ∧ (Kd.tag fy d).M W base oky (p.1, p.2 - xs.length) cs) (Kd.tag f' d).sz W A ys.length (ys.zipIdx xs.length) := by
    refine ⟨by simp, hrow.2.1, fun hp => ?_⟩
    obtain ⟨ad, ha, hc⟩ := hrow.2.2 hp
    refine ⟨ad, ha, fun j p hj => ?_⟩
    rw [List.getElem?_zipIdx] at hj
    obtain ⟨y, hy, rfl⟩ := Option.map_eq_some_iff.1 hj
    obtain ⟨cs, h1, h2, h3⟩ := hc j (y, j) (by rw [List.getElem?_zipIdx, hy, Nat.zero_add]; rfl)
    refine ⟨cs, h1, ⟨by show xs.length ≤ xs.length + j; omega, ?_⟩, h3⟩
    have : xs.length + j - xs.length = j := by omega
    show (Kd.tag fy d).M W base oky (y, xs.length + j - xs.length) cs
    rw [this]
    exact (Kd.tag fy d).M_mono (fun k hk => hk.1) h2
  refine Kd.R_append_rows (Kd.tag f' d) base hgd s x t e z bytes ho ht hinfo hz hs0 hb0 v xs.zipIdx (ys.zipIdx xs.length) A ys.length c (fun k => okx k ∨ oky k ∨ W.heap.size ≤ k) oky hs hx h1 hrow2 (fun p cs hp => ?_) (fun k hk => ⟨.inr (.inl hk), fun e => hap k hk (hfx.1 k e.symm)⟩) (fun k hk => .inr (.inr hk)) HB hbase (by rw [List.length_zipIdx]; exact hl) ?_
  · refine d.M_mono (fun k hk => ⟨hk.1, ?_⟩) (show d.M W base (fun k => oky k ∧ fy k = p.2 - xs.length) p.1 cs from hp.2)
    show (if okx k then fx k else xs.length + fy k) = p.2
    rw [if_neg (hap k hk.1), hk.2]
    have := hp.1
    omega
  · intro v1 w1 hr
    have e2 : xs.zipIdx ++ ys.zipIdx xs.length = (xs ++ ys).zipIdx := by rw [List.zipIdx_append, Nat.zero_add]
    rw [e2] at hr
    exact h v1 w1 ⟨f', hr⟩
end
end Go.Proofs.YtglfebpgdghlfaaDoor.L
end
section
namespace Go.Proofs.YtglfebpgdghlfaaDoor.L
open Go.RowKit Go.ChangeShapes Go.WideShapes Go.Proofs.YtglfebpgdghlfaaDoorW.PrintWords Go.Proofs.YtglfebpgdghlfaaDoorW.PrintLast Go.Proofs.YtglfebpgdghlfaaDoorW.PrintMore
attribute [local go_sem] max2_int min2_int max_two min_two max_three min_three max_four min_four
def upK (n : Node) (b : Int) (q : List Int) : List Node :=
  if n.kind = 1 then [⟨1, [], [ByteArray.empty], q⟩]
  else if n.kind = 2 then [⟨2, n.ints.take 3, [], [b]⟩, ⟨8, [rd n.ints 3, rd n.ints 3, rd n.ints 3], [], q⟩]
  else if n.kind = 3 then [⟨3, [rd n.ints 0, rd n.ints 0, rd n.ints 0], n.texts, q⟩]
  else if n.kind = 4 then [⟨4, n.ints, n.texts, q⟩]
  else if n.kind = 5 then [⟨5, [65536], [str n.texts 0, ⟨#[115, 97, 110, 115]⟩], q⟩]
  else [⟨7, [rd n.ints 0, rd n.ints 0, rd n.ints 0, 1], [], q⟩]
theorem upN_eq (n : Node) : upN n = upK n 0 n.kids := rfl
def upLen (n : Node) : Nat := if n.kind = 2 then 2 else 1
theorem upLen_pos (n : Node) : 1 ≤ upLen n := by unfold upLen; split <;> omega
theorem upLen_le (n : Node) : upLen n ≤ 2 := by unfold upLen; split <;> omega
theorem upK_len (n : Node) (b : Int) (q : List Int) : (upK n b q).length = upLen n := by
  unfold upK upLen
  by_cases h1 : n.kind = 1
  · rw [if_pos h1, if_neg (by omega)]; rfl
  · rw [if_neg h1]
    by_cases h2 : n.kind = 2
    · rw [if_pos h2, if_pos h2]; rfl
    · rw [if_neg h2, if_neg h2]
      split
      · rfl
      · split
        · rfl
        · split <;> rfl
def withKids (n : Node) (q : List Int) : Node := ⟨n.kind, n.ints, n.texts, q⟩
theorem upK_last (n : Node) (b : Int) (q q' : List Int) : (upK n b q).set (upLen n - 1) (withKids (nd (upK n b q) (upLen n - 1)) q') = upK n b q' ∧ (nd (upK n b q) (upLen n - 1)).kids = q := by
  unfold upK upLen
  by_cases h1 : n.kind = 1
  · rw [if_pos h1, if_neg (by omega), if_pos h1]; exact ⟨rfl, rfl⟩
  · rw [if_neg h1, if_neg h1]
    by_cases h2 : n.kind = 2
    · rw [if_pos h2, if_pos h2, if_pos h2]; exact ⟨rfl, rfl⟩
    · rw [if_neg h2, if_neg h2, if_neg h2]
      split
      · exact ⟨rfl, rfl⟩
      · split
        · exact ⟨rfl, rfl⟩
        · split <;> exact ⟨rfl, rfl⟩
theorem upK_first {n : Node} (h : n.kind = 2) (b b' : Int) (q : List Int) : (upK n b q).set 0 (withKids (nd (upK n b q) 0) [b']) = upK n b' q ∧ (nd (upK n b q) 0).kids = [b] := by
  unfold upK
  rw [if_neg (by omega), if_pos h, if_neg (by omega), if_pos h]
  exact ⟨rfl, rfl⟩
theorem upK_one {n : Node} (h : ¬ n.kind = 2) (b b' : Int) (q : List Int) : upK n b q = upK n b' q := by
  unfold upK
  rw [if_neg h, if_neg h]
def pos (ns : List Node) (i : Nat) : Nat := ((List.range i).map (fun p => upLen (nd ns p))).sum
theorem pos_succ (ns : List Node) (i : Nat) : pos ns (i + 1) = pos ns i + upLen (nd ns i) := by unfold pos; rw [List.range_succ, List.map_append, List.sum_append]; simp
theorem pos_mono (ns : List Node) {i j : Nat} (h : i ≤ j) : pos ns i ≤ pos ns j := by
  have : ∀ d, pos ns i ≤ pos ns (i + d) := fun d => by
    induction d with
    | zero => exact Nat.le_refl _
    | succ d ih => rw [← Nat.add_assoc, pos_succ]; omega
  have := this (j - i)
  rwa [show i + (j - i) = j by omega] at this
theorem pos_le (ns : List Node) (i : Nat) : pos ns i ≤ 2 * i := by
  induction i with
  | zero => exact Nat.le_refl _
  | succ i ih => rw [pos_succ]; have := upLen_le (nd ns i); omega
theorem pos_lt (ns : List Node) {p n : Nat} (h : p < n) : pos ns (p + 1) - 1 < pos ns n := by
  have h1 := pos_mono ns (show p + 1 ≤ n from h)
  have h2 := pos_succ ns p
  have h3 := upLen_pos (nd ns p)
  omega
def mapK (ns : List Node) (q : List Int) : List Int := q.map (fun k => (pos ns k.toNat : Int))
def mix (ns : List Node) (i j : Nat) : List Node := (List.range i).flatMap (fun p => upK (nd ns p) ((pos ns p : Int) + 1) (if p < j then mapK ns (nd ns p).kids else (nd ns p).kids))
theorem mix_succ (ns : List Node) (i j : Nat) : mix ns (i + 1) j = mix ns i j ++ upK (nd ns i) ((pos ns i : Int) + 1) (if i < j then mapK ns (nd ns i).kids else (nd ns i).kids) := by
  unfold mix
  rw [List.range_succ, List.flatMap_append]
  simp
theorem mix_len (ns : List Node) (i j : Nat) : (mix ns i j).length = pos ns i := by
  induction i with
  | zero => rfl
  | succ i ih => rw [mix_succ, List.length_append, ih, upK_len, pos_succ]
theorem mix_same (ns : List Node) {i j k : Nat} (hj : i ≤ j) (hk : i ≤ k) : mix ns i j = mix ns i k := by
  induction i with
  | zero => rfl
  | succ i ih => rw [mix_succ, mix_succ, ih (by omega) (by omega), if_pos (by omega), if_pos (by omega)]
theorem nd_append_left {a b : List Node} {i : Nat} (h : i < a.length) : nd (a ++ b) i = nd a i := by
  unfold nd
  rw [List.getD_eq_getElem?_getD, List.getD_eq_getElem?_getD, List.getElem?_append_left h]
theorem nd_append_right {a b : List Node} {i : Nat} : nd (a ++ b) (a.length + i) = nd b i := by
  unfold nd
  rw [List.getD_eq_getElem?_getD, List.getD_eq_getElem?_getD, List.getElem?_append_right (by omega)]
  simp
theorem mix_set (ns : List Node) (n p : Nat) (hp : p < n) : (nd (mix ns n p) (pos ns (p + 1) - 1)).kids = (nd ns p).kids ∧
    (mix ns n p).set (pos ns (p + 1) - 1) (withKids (nd (mix ns n p) (pos ns (p + 1) - 1)) (mapK ns (nd ns p).kids)) = mix ns n (p + 1) := by
  induction n with
  | zero => omega
  | succ n ih =>
    rw [mix_succ, mix_succ]
    by_cases e : p = n
    · subst e
      have h1 := pos_succ ns p
      have h2 := upLen_pos (nd ns p)
      have h3 := mix_len ns p p
      have e1 : pos ns (p + 1) - 1 = (mix ns p p).length + (upLen (nd ns p) - 1) := by omega
      rw [e1, nd_append_right, List.set_append_right _ _ (by omega), Nat.add_sub_cancel_left, if_neg (by omega), if_pos (by omega)]
      obtain ⟨h4, h5⟩ := upK_last (nd ns p) ((pos ns p : Int) + 1) (nd ns p).kids (mapK ns (nd ns p).kids)
      rw [h4]
      exact ⟨h5, by rw [mix_same ns (Nat.le_refl p) (Nat.le_succ p)]⟩
    · have hlt : pos ns (p + 1) - 1 < (mix ns n p).length := by rw [mix_len]; exact pos_lt ns (by omega)
      obtain ⟨h4, h5⟩ := ih (by omega)
      rw [nd_append_left hlt, List.set_append_left _ _ hlt, h5, if_neg (by omega), if_neg (by omega)]
      exact ⟨h4, rfl⟩
def upS (s : Scene) : Scene := ⟨mix s.nodes s.nodes.length s.nodes.length, (pos s.nodes s.root.toNat : Int)⟩
def fillTo (f : Nat → Int) (i n : Nat) : List Int := (List.range n).map (fun p : Nat => if p < i then f p else 0)
theorem fillTo_len (f : Nat → Int) (i n : Nat) : (fillTo f i n).length = n := by simp [fillTo]
theorem fillTo_zero (f : Nat → Int) (n : Nat) : fillTo f 0 n = List.replicate n 0 := by
  refine List.ext_getElem (by simp [fillTo]) (fun p h1 h2 => ?_)
  simp [fillTo]
theorem fillTo_rd (f : Nat → Int) (i n p : Nat) (hp : p < i) (hn : p < n) : rd (fillTo f i n) (p : Int) = f p := by
  rw [rd_eq (by rw [fillTo_len]; exact hn)]
  simp [fillTo, hp]
theorem fillTo_set (f : Nat → Int) (i n : Nat) : (fillTo f i n).set i (f i) = fillTo f (i + 1) n := by
  refine List.ext_getElem (by simp [fillTo]) (fun p h1 h2 => ?_)
  rw [List.getElem_set]
  simp only [fillTo, List.getElem_map, List.getElem_range]
  by_cases e : i = p
  · subst e; rw [if_pos rfl, if_pos (by omega)]
  · rw [if_neg e]
    by_cases h : p < i
    · rw [if_pos h, if_pos (by omega)]
    · rw [if_neg h, if_neg (by omega)]
def posI (ns : List Node) (p : Nat) : Int := (pos ns p : Int)
def lastI (ns : List Node) (p : Nat) : Int := ((pos ns (p + 1) - 1 : Nat) : Int)
def rowsL (ns : List Node) : Nat := (ns.map (fun n => n.kids.length + 1)).sum
theorem rows_eq (ns : List Node) : rows ns = rowsL ns := by
  unfold rows rowsL
  congr 1
  refine List.ext_getElem (by simp) (fun i h1 h2 => ?_)
  rw [List.length_map] at h2
  simp only [List.getElem_map, List.getElem_range]
  unfold wt nd
  rw [getD_eq _ h2]
theorem rowsL_append (a b : List Node) : rowsL (a ++ b) = rowsL a + rowsL b := by unfold rowsL; rw [List.map_append, List.sum_append]
theorem upK_rows (n : Node) (b : Int) (q : List Int) : rowsL (upK n b q) ≤ q.length + 3 := by
  unfold upK rowsL
  by_cases h1 : n.kind = 1
  · rw [if_pos h1]; simp
  · rw [if_neg h1]
    by_cases h2 : n.kind = 2
    · rw [if_pos h2]; simp; omega
    · rw [if_neg h2]
      split
      · simp
      · split
        · simp
        · split <;> simp
theorem mix_rows (ns : List Node) (j : Nat) : ∀ i, i ≤ ns.length → rowsL (mix ns i j) ≤ 3 * pre ns i
  | 0, _ => Nat.zero_le _
  | i + 1, h => by
    have h1 := mix_rows ns j i (by omega)
    have h2 := upK_rows (nd ns i) ((pos ns i : Int) + 1) (if i < j then mapK ns (nd ns i).kids else (nd ns i).kids)
    have h3 : (if i < j then mapK ns (nd ns i).kids else (nd ns i).kids).length = (nd ns i).kids.length := by
      split
      · simp [mapK]
      · rfl
    have h4 := pre_succ ns i
    rw [wt] at h4
    rw [mix_succ, rowsL_append]
    omega
theorem upS_rows (s : Scene) : rows (upS s).nodes ≤ 3 * rows s.nodes := by
  rw [rows_eq]
  exact Nat.le_trans (mix_rows _ _ _ (Nat.le_refl _)) (Nat.mul_le_mul_left 3 (pre_le (Nat.le_refl _)))
theorem upK_small {n : Node} {b : Int} {q : List Int} (hn : Small n) (hq : q.length ≤ 1000000) : ∀ x ∈ upK n b q, Small x := by
  have h1 := hn.1
  have h2 := hn.2.1
  intro x hx
  unfold upK at hx
  by_cases h1 : n.kind = 1
  · rw [if_pos h1] at hx; simp at hx; subst hx; exact ⟨by simp, by simp, hq⟩
  · rw [if_neg h1] at hx
    by_cases h2 : n.kind = 2
    · rw [if_pos h2] at hx
      simp at hx
      rcases hx with rfl | rfl
      · exact ⟨by simp; omega, by simp, by simp⟩
      · exact ⟨by simp, by simp, hq⟩
    · rw [if_neg h2] at hx
      split at hx
      · simp at hx; subst hx; exact ⟨by simp, hn.2.1, hq⟩
      · split at hx
        · simp at hx; subst hx; exact ⟨hn.1, hn.2.1, hq⟩
        · split at hx
          · simp at hx; subst hx; exact ⟨by simp, by simp, hq⟩
          · simp at hx; subst hx; exact ⟨by simp, by simp, hq⟩
theorem upS_small {s : Scene} (h : ∀ i : Nat, i < s.nodes.length → Small (nd s.nodes i)) : ∀ i : Nat, i < (upS s).nodes.length → Small (nd (upS s).nodes i) := by
  intro i hi
  have hm : nd (upS s).nodes i ∈ (upS s).nodes := by unfold nd; rw [getD_eq _ hi]; exact List.getElem_mem hi
  unfold upS mix at hm
  obtain ⟨p, hp, hx⟩ := List.mem_flatMap.1 hm
  have hp' := List.mem_range.1 hp
  refine upK_small (h p hp') ?_ _ hx
  have h2 : (mapK s.nodes (nd s.nodes p).kids).length ≤ 1000000 := by unfold mapK; rw [List.length_map]; exact (h p hp').2.2
  split
  all_goals first | exact h2 | exact (h p hp').2.2
noncomputable def upErr (s : Scene) : Int := if (typedS oldTab s.nodes).1 = 0 then (if (gcheck s).1 = 0 then (gcheck (upS s)).1 else (gcheck s).1) else (typedS oldTab s.nodes).1
noncomputable def upRes (s : Scene) : Scene := if (typedS oldTab s.nodes).1 = 0 then (if (gcheck s).1 = 0 then canonR (upS s) else ⟨[], 0⟩) else ⟨[], 0⟩
end Go.Proofs.YtglfebpgdghlfaaDoor.L
end
section
namespace Go.Proofs.YtglfebpgdghlfaaDoor.L
open Go.RowKit Go.ChangeShapes Go.WideShapes Go.Proofs.YtglfebpgdghlfaaDoorW.PrintWords Go.Proofs.YtglfebpgdghlfaaDoorW.PrintLast Go.Proofs.YtglfebpgdghlfaaDoorW.PrintMore
attribute [local go_sem] max2_int min2_int max_two min_two max_three min_three max_four min_four
theorem kid_write {W : World} {base g m c : Nat} {ok : Nat → Prop} {l : List Node} (h : Kd.S kNode 26 W base ok (.slice (some ⟨g, 0, none⟩) m c) l) (i : Nat) (hi : i < m) (j : Nat) (hj : j < (nd l i).kids.length) :
    ∃ gk ck, W.cell? ⟨g, i * 4 + 3, none⟩ = some (.slice (some ⟨gk, 0, none⟩) (nd l i).kids.length ck) ∧ ok gk ∧ gk ≠ g ∧ base ≤ gk ∧ (∃ cells, W.heap[gk]? = some (.cells cells 3 (0, 0))) ∧ W.cell? ⟨gk, j, none⟩ = some (.int .i64 (rd (nd l i).kids (j : Int))) ∧ W.frozen? ⟨gk, j, none⟩ = false ∧
      ∀ u : Int, Kd.S kNode 26 (W.setCell ⟨gk, j, none⟩ (.int .i64 u)) base ok (.slice (some ⟨g, 0, none⟩) m c) (l.set i (withKids (nd l i) ((nd l i).kids.set j u))) ∧ W.grownBy (W.setCell ⟨gk, j, none⟩ (.int .i64 u)) (some gk) := by
  obtain ⟨oki, cc, hcl, hM, hcc, hfr, hoki, hH⟩ := Kd.S_elem h nodez (i : Int) (by omega) (by omega)
  rw [Int.toNat_natCast] at hM hcc hfr
  obtain ⟨v1, v2, v3, rfl, r1, r2, r3⟩ := kNode_openM hM
  obtain ⟨gk, ck, hv3, hb, -, cells, hc⟩ := Kd.R_form r3 (by show 0 < (nd l i).kids.length; omega)
  subst hv3
  have hko := r3.1 gk rfl
  obtain ⟨c1, c2⟩ := ints_cell r3 j hj
  refine ⟨gk, ck, hcc 3 _ rfl, (hoki gk hko).1, (hoki gk hko).2, hb, ⟨cells, hc⟩, c1, c2, fun u => ?_⟩
  obtain ⟨s1, s2, _⟩ := ints_store r3 j hj u
  refine ⟨?_, s2⟩
  have s1' : (Kd.int .i64).R 3 (W.setCell ⟨gk, j, none⟩ (.int .i64 u)) base oki (.slice (some ⟨gk, 0, none⟩) (nd l i).kids.length ck) ((nd l i).kids.set j u) := s1
  have hb2 := Kd.H_back (Kd.H_grown hH s2 (fun k hk => by injection hk with hk; rw [← hk]; exact hko)) (x' := withKids (nd l i) ((nd l i).kids.set j u)) (okp := oki)
    (kNode_mkM (Kd.R_grown1 r1 rfl s2 (Kd.R_ne r1 hc (by decide))) (Kd.R_grown1 r2 rfl s2 (Kd.R_ne r2 hc (by decide))) s1') (fun _ h => h)
  rw [Int.toNat_natCast] at hb2
  exact hb2
theorem kids_read {W : World} {base g m c : Nat} {ok : Nat → Prop} {l : List Node} (h : Kd.S kNode 26 W base ok (.slice (some ⟨g, 0, none⟩) m c) l) (i : Nat) (hi : i < m) :
    ∃ A3 c3, W.cell? ⟨g, i * 4 + 3, none⟩ = some (.slice A3 (nd l i).kids.length c3) ∧ (Kd.int .i64).C W A3 (nd l i).kids.length (nd l i).kids := by
  obtain ⟨oki, cc, hcl, hM, hcc, hfr, hoki, hH⟩ := Kd.S_elem h nodez (i : Int) (by omega) (by omega)
  rw [Int.toNat_natCast] at hM hcc hfr
  obtain ⟨v1, v2, v3, rfl, r1, r2, r3⟩ := kNode_openM hM
  obtain ⟨A3, c3, hv3⟩ := Kd.R_slice r3
  subst hv3
  exact ⟨A3, c3, hcc 3 _ rfl, (Kd.R_reads' r3).2.2⟩
theorem below_of_grown {W W1 : World} (h : W.grownBy W1 none) : Below W.heap.size W W1 := ⟨h.os, h.tape, h.output, h.size, fun k hk => h.block k hk (by simp)⟩
structure Up1 (s : Scene) (A : Option Addr) (c : Nat) (w : World) (b8 g9 c9 g10 c10 : Nat) (v : Value) (i j k : Nat) (W : World) : Prop where
  box : W.heap[b8]? = some (.cells #[v, .int .i64 0] 39 (0, 0))
  nodes : Kd.S kNode 26 W w.heap.size (fun k => k ≠ g9 ∧ k ≠ g10) v (mix s.nodes i 0)
  up : (Kd.int .i64).R 3 W w.heap.size (fun k => k ≠ g10) (.slice (some ⟨g9, 0, none⟩) s.nodes.length c9) (fillTo (posI s.nodes) j s.nodes.length)
  la : (Kd.int .i64).R 3 W w.heap.size (fun _ => True) (.slice (some ⟨g10, 0, none⟩) s.nodes.length c10) (fillTo (lastI s.nodes) k s.nodes.length)
  src : W.heap[w.heap.size]? = some (.cells #[.slice A s.nodes.length c, .int .i64 s.root] 39 (0, 0))
  res : W.heap[w.heap.size + 1]? = some (.cells #[.slice none 0 0, .int .i64 0] 39 (0, 0))
  b0 : w.heap.size + 1 < b8
  below : Below w.heap.size w W
theorem S_type {α : Type} {d : Kd α} {e base : Nat} {ok : Nat → Prop} {W : World} {v : Value} {xs : List α} {g : Nat} {cells : Array Value} {T : TypeId} (h : Kd.S d e W base ok v xs) (hb : W.heap[g]? = some (.cells cells T (0, 0))) (hT : ¬ T ∈ e :: d.E) (u : Value) (i : Nat) : Kd.S d e (W.setCell ⟨g, i, none⟩ u) base ok v xs :=
  Kd.S_mono (Kd.S_grown (Kd.S_bound h) (set_grown W g i u) (fun k hk he => by
    injection he with he
    obtain ⟨_, _, _, q, hq, cs, hc⟩ := hk
    subst he
    rw [hb] at hc
    injection hc with hc
    injection hc with _ hc
    subst hc
    exact hT hq)) (fun _ hk => hk.1)
section
variable {s : Scene} {A : Option Addr} {c : Nat} {w : World} {b8 g9 c9 g10 c10 : Nat} {v : Value} {i j k : Nat} {W W1 : World}
theorem Up1.later (h : Up1 s A c w b8 g9 c9 g10 c10 v i j k W) (hb : Below W.heap.size W W1) : Up1 s A c w b8 g9 c9 g10 c10 v i j k W1 :=
  ⟨(hb.block _ (blk_lt h.box)).trans h.box, Kd.S_below h.nodes hb, Kd.R_below h.up hb, Kd.R_below h.la hb, (hb.block _ (blk_lt h.src)).trans h.src, (hb.block _ (blk_lt h.res)).trans h.res, h.b0, below_step h.below hb⟩
theorem Up1.ne (h : Up1 s A c w b8 g9 c9 g10 c10 v i j k W) : g9 ≠ g10 := h.up.1 g9 rfl
theorem Up1.lt9 (h : Up1 s A c w b8 g9 c9 g10 c10 v i j k W) : g9 < W.heap.size := Kd.R_lt h.up g9 rfl
theorem Up1.lt10 (h : Up1 s A c w b8 g9 c9 g10 c10 v i j k W) : g10 < W.heap.size := Kd.R_lt h.la g10 rfl
theorem scene_ne {b g : Nat} {x y : Value} {cells : Array Value} {T : TypeId} (hx : W.heap[b]? = some (.cells #[x, y] 39 (0, 0))) (hc : W.heap[g]? = some (.cells cells T (0, 0))) (hT : T ≠ 39) : some b ≠ some g := fun he => by
  injection he with he
  rw [← he, hx] at hc
  injection hc with hc
  injection hc with _ hc
  exact hT hc.symm
theorem Up1.upper (h : Up1 s A c w b8 g9 c9 g10 c10 v i j k W) (hj : j < s.nodes.length) :
    (∃ x, W.cell? ⟨g9, j, none⟩ = some x) ∧ W.frozen? ⟨g9, j, none⟩ = false ∧ Up1 s A c w b8 g9 c9 g10 c10 v i (j + 1) k (W.setCell ⟨g9, j, none⟩ (.int .i64 (pos s.nodes j : Int))) ∧ W.grownBy (W.setCell ⟨g9, j, none⟩ (.int .i64 (pos s.nodes j : Int))) (some g9) := by
  obtain ⟨c1, c2⟩ := ints_cell h.up j hj
  obtain ⟨s1, s2, s3⟩ := ints_store h.up j hj (pos s.nodes j : Int)
  have e : (fillTo (posI s.nodes) j s.nodes.length).set j (pos s.nodes j : Int) = fillTo (posI s.nodes) (j + 1) s.nodes.length := fillTo_set (posI s.nodes) j s.nodes.length
  rw [e] at s1
  obtain ⟨cells, hc⟩ := Kd.R_typed h.up g9 rfl
  exact ⟨⟨_, c1⟩, c2, ⟨blk_grown h.box s2 (scene_ne h.box hc (by decide)), Kd.S_far (p := ⟨g9, j, none⟩) h.nodes (fun k hk => hk.1) _, s1, Kd.R_grown1 h.la rfl s2 (fun e => h.ne (by simpa [Value.ownBlock] using e)), blk_grown h.src s2 (scene_ne h.src hc (by decide)), blk_grown h.res s2 (scene_ne h.res hc (by decide)), h.b0, below_set h.below s3⟩, s2⟩
theorem Up1.lower (h : Up1 s A c w b8 g9 c9 g10 c10 v i j k W) (hk : k < s.nodes.length) :
    (∃ x, W.cell? ⟨g10, k, none⟩ = some x) ∧ W.frozen? ⟨g10, k, none⟩ = false ∧ Up1 s A c w b8 g9 c9 g10 c10 v i j (k + 1) (W.setCell ⟨g10, k, none⟩ (.int .i64 ((pos s.nodes (k + 1) - 1 : Nat) : Int))) := by
  obtain ⟨c1, c2⟩ := ints_cell h.la k hk
  obtain ⟨s1, s2, s3⟩ := ints_store h.la k hk ((pos s.nodes (k + 1) - 1 : Nat) : Int)
  have e : (fillTo (lastI s.nodes) k s.nodes.length).set k ((pos s.nodes (k + 1) - 1 : Nat) : Int) = fillTo (lastI s.nodes) (k + 1) s.nodes.length := fillTo_set (lastI s.nodes) k s.nodes.length
  rw [e] at s1
  obtain ⟨cells, hc⟩ := Kd.R_typed h.la g10 rfl
  exact ⟨⟨_, c1⟩, c2, ⟨blk_grown h.box s2 (scene_ne h.box hc (by decide)), Kd.S_far (p := ⟨g10, k, none⟩) h.nodes (fun k hk => hk.2) _, Kd.R_far (p := ⟨g10, k, none⟩) h.up (fun k hk => hk) _, s1, blk_grown h.src s2 (scene_ne h.src hc (by decide)), blk_grown h.res s2 (scene_ne h.res hc (by decide)), h.b0, below_set h.below s3⟩⟩
theorem Up1.push (h : Up1 s A c w b8 g9 c9 g10 c10 v i j k W) {B : Nat} (h9 : g9 < B) (h10 : g10 < B) {v1 : Value} (hS : Kd.S kNode 26 W1 w.heap.size (fun k => (k ≠ g9 ∧ k ≠ g10) ∨ B ≤ k ∨ W.heap.size ≤ k) v1 (mix s.nodes (i + 1) 0)) (hB : Below w.heap.size w W1) (hg : W.grownBy W1 v.ownBlock) :
    (∃ x, W1.cell? ⟨b8, 0, none⟩ = some x) ∧ W1.frozen? ⟨b8, 0, none⟩ = false ∧ Up1 s A c w b8 g9 c9 g10 c10 v1 (i + 1) j k (W1.setCell ⟨b8, 0, none⟩ v1) := by
  have hnv := (Kd.S_R h.nodes).1
  have hty := Kd.S_typed h.nodes
  have hne : ∀ b x y, W.heap[b]? = some (.cells #[x, y] 39 (0, 0)) → some b ≠ v.ownBlock := fun b x y hx he => by
    obtain ⟨cells, hc⟩ := hty b he.symm
    exact scene_ne hx hc (by decide) rfl
  have hbx := blk_grown h.box hg (hne _ _ _ h.box)
  have h9s := h.lt9
  have h10s := h.lt10
  have hup := Kd.R_mono (Kd.R_grown1 h.up rfl hg (fun e => (hnv g9 e).1 rfl)) (fun _ hk => hk)
  have hla := Kd.R_grown1 h.la rfl hg (fun e => (hnv g10 e).2 rfl)
  have hS' : Kd.S kNode 26 W1 w.heap.size (fun k => k ≠ g9 ∧ k ≠ g10) v1 (mix s.nodes (i + 1) 0) := Kd.S_mono hS (fun k hk => by
    rcases hk with hk | hk | hk
    · exact hk
    · exact ⟨by omega, by omega⟩
    · exact ⟨by omega, by omega⟩)
  have hb8 := h.b0
  refine ⟨⟨_, (blk_cell hbx 0).trans rfl⟩, blk_frozen hbx 0, ⟨?_, S_type hS' hbx (by decide) _ _, R_type hup hbx (by decide) _ _, R_type hla hbx (by decide) _ _, ?_, ?_, h.b0, below_set hB (by omega)⟩⟩
  · have := blk_set hbx 0 v1
    simpa using this
  · rw [Below.heap_setCell _ _ _ _ (by show w.heap.size ≠ b8; omega)]
    exact blk_grown h.src hg (hne _ _ _ h.src)
  · rw [Below.heap_setCell _ _ _ _ (by show w.heap.size + 1 ≠ b8; omega)]
    exact blk_grown h.res hg (hne _ _ _ h.res)
end
structure UpL (s : Scene) (w : World) (B gl cl i j : Nat) (W : World) : Prop where
  row : Kd.S kNode 26 W w.heap.size (fun k => B ≤ k) (.slice (some ⟨gl, 0, none⟩) (upLen (nd s.nodes i)) cl) (upK (nd s.nodes i) (if j = 0 then 0 else (pos s.nodes i : Int) + 1) (nd s.nodes i).kids)
  jl : j ≤ upLen (nd s.nodes i) - 1
theorem UpL.done {s : Scene} {w : World} {B gl cl i : Nat} {W : World} (h : UpL s w B gl cl i (upLen (nd s.nodes i) - 1) W) : Kd.S kNode 26 W w.heap.size (fun k => B ≤ k) (.slice (some ⟨gl, 0, none⟩) (upLen (nd s.nodes i)) cl) (upK (nd s.nodes i) ((pos s.nodes i : Int) + 1) (nd s.nodes i).kids) := by
  have hr := h.row
  by_cases h2 : (nd s.nodes i).kind = 2
  · have : upLen (nd s.nodes i) = 2 := by unfold upLen; rw [if_pos h2]
    rw [this] at hr ⊢
    exact hr
  · rw [upK_one h2 _ ((pos s.nodes i : Int) + 1)] at hr
    exact hr
theorem grown_trans {W W1 W2 : World} {g g' : Nat} (h1 : W.grownBy W1 (some g)) (h2 : W1.grownBy W2 (some g')) (hg : W.heap.size ≤ g') : W.grownBy W2 (some g) :=
  ⟨h2.os.trans h1.os, h2.tape.trans h1.tape, h2.output.trans h1.output, Nat.le_trans h1.size h2.size, fun k hk hne => (h2.block k (Nat.lt_of_lt_of_le hk h1.size) (fun e => by injection e with e; omega)).trans (h1.block k hk hne)⟩
theorem grown_below {W W1 W2 : World} {g : Nat} (h1 : Below W.heap.size W W1) (h2 : W1.grownBy W2 (some g)) : W.grownBy W2 (some g) :=
  ⟨h2.os.trans h1.os, h2.tape.trans h1.tape, h2.output.trans h1.output, Nat.le_trans h1.size h2.size, fun k hk hne => (h2.block k (Nat.lt_of_lt_of_le hk h1.size) hne).trans (h1.block k hk)⟩
structure UpI (s : Scene) (w wr : World) (B gl cl g9 c9 g10 i j : Nat) (W : World) : Prop where
  grown : wr.grownBy W (some g9)
  up : (Kd.int .i64).R 3 W w.heap.size (fun k => k ≠ g10) (.slice (some ⟨g9, 0, none⟩) s.nodes.length c9) (fillTo (posI s.nodes) (i + 1) s.nodes.length)
  l : UpL s w B gl cl i j W
  hB : wr.heap.size ≤ B
theorem UpL.step {s : Scene} {w : World} {B gl cl i j : Nat} {W : World} (h : UpL s w B gl cl i j W) (hj : j < upLen (nd s.nodes i) - 1) : j = 0 ∧ upLen (nd s.nodes i) = 2 ∧
    ∃ gk ck, W.cell? ⟨gl, 3, none⟩ = some (.slice (some ⟨gk, 0, none⟩) 1 ck) ∧ B ≤ gk ∧ (∃ x, W.cell? ⟨gk, 0, none⟩ = some x) ∧ W.frozen? ⟨gk, 0, none⟩ = false ∧
      UpL s w B gl cl i (j + 1) (W.setCell ⟨gk, 0, none⟩ (.int .i64 ((pos s.nodes i : Int) + 1))) ∧ W.grownBy (W.setCell ⟨gk, 0, none⟩ (.int .i64 ((pos s.nodes i : Int) + 1))) (some gk) := by
  have h2 : (nd s.nodes i).kind = 2 := Classical.byContradiction fun hn => by
    have : upLen (nd s.nodes i) = 1 := by unfold upLen; rw [if_neg hn]
    omega
  have hl : upLen (nd s.nodes i) = 2 := by unfold upLen; rw [if_pos h2]
  obtain rfl : j = 0 := by omega
  have hr := h.row
  rw [if_pos rfl, hl] at hr
  obtain ⟨u1, u2⟩ := upK_first h2 0 ((pos s.nodes i : Int) + 1) (nd s.nodes i).kids
  obtain ⟨gk, ck, k1, k2, k3, k4, _, k5, k6, k7⟩ := kid_write hr 0 (by omega) 0 (by rw [u2]; decide)
  obtain ⟨s1, s2⟩ := k7 ((pos s.nodes i : Int) + 1)
  rw [u2] at k1 s1
  have e : ([(0 : Int)].set 0 ((pos s.nodes i : Int) + 1)) = [(pos s.nodes i : Int) + 1] := rfl
  rw [e, u1] at s1
  refine ⟨rfl, hl, gk, ck, k1, k2, ⟨_, k5⟩, k6, ⟨?_, by omega⟩, s2⟩
  rw [if_neg (by omega), hl]
  exact s1
theorem UpI.step {s : Scene} {w wr : World} {B gl cl g9 c9 g10 i j : Nat} {W : World} (h : UpI s w wr B gl cl g9 c9 g10 i j W) (h9 : g9 < B) (hj : j < upLen (nd s.nodes i) - 1) : j = 0 ∧ upLen (nd s.nodes i) = 2 ∧
    ∃ gk ck, W.cell? ⟨gl, 3, none⟩ = some (.slice (some ⟨gk, 0, none⟩) 1 ck) ∧ wr.heap.size ≤ gk ∧ (∃ x, W.cell? ⟨gk, 0, none⟩ = some x) ∧ W.frozen? ⟨gk, 0, none⟩ = false ∧
      UpI s w wr B gl cl g9 c9 g10 i (j + 1) (W.setCell ⟨gk, 0, none⟩ (.int .i64 ((pos s.nodes i : Int) + 1))) := by
  obtain ⟨e1, e2, gk, ck, k1, k2, k3, k4, k5, k6⟩ := h.l.step hj
  have hB := h.hB
  have hne : some gk ≠ (Value.slice (some ⟨g9, 0, none⟩) s.nodes.length c9).ownBlock := fun e => by
    have e3 : gk = g9 := by simpa [Value.ownBlock] using e
    omega
  exact ⟨e1, e2, gk, ck, k1, by omega, k3, k4, ⟨grown_trans h.grown k6 (by omega), Kd.R_grown1 h.up rfl k6 hne, k5, h.hB⟩⟩
section
variable {s : Scene} {A : Option Addr} {c : Nat} {w : World} {b8 g9 c9 g10 c10 : Nat} {v : Value} {i j k : Nat} {W W1 : World}
theorem Up1.into (h : Up1 s A c w b8 g9 c9 g10 c10 v i i k W) (hg : W.grownBy W1 (some g9)) (hu : (Kd.int .i64).R 3 W1 w.heap.size (fun k => k ≠ g10) (.slice (some ⟨g9, 0, none⟩) s.nodes.length c9) (fillTo (posI s.nodes) (i + 1) s.nodes.length)) : Up1 s A c w b8 g9 c9 g10 c10 v i (i + 1) k W1 := by
  obtain ⟨cells, hc⟩ := Kd.R_typed h.up g9 rfl
  have h9 := Kd.R_base h.up g9 rfl
  exact ⟨blk_grown h.box hg (scene_ne h.box hc (by decide)), Kd.S_grown h.nodes hg (fun k hk e => by injection e with e; exact hk.1 e), hu, Kd.R_grown1 h.la rfl hg (fun e => h.ne (by simpa [Value.ownBlock] using e)), blk_grown h.src hg (scene_ne h.src hc (by decide)), blk_grown h.res hg (scene_ne h.res hc (by decide)), h.b0, h.below.grown hg h.below.size (fun q hq => by injection hq with hq; omega)⟩
theorem Up1.elder (h : Up1 s A c w b8 g9 c9 g10 c10 v i j k W) (hg : W.grownBy W1 (some g9)) : Kd.S kNode 26 W1 w.heap.size (fun k => (k ≠ g9 ∧ k ≠ g10) ∧ k < W.heap.size) v (mix s.nodes i 0) :=
  Kd.S_grown (Kd.S_mono (Kd.S_bound h.nodes) (fun k hk => ⟨hk.1, hk.2.2.1⟩)) hg (fun k hk e => by injection e with e; exact hk.1.1 e)
end
theorem upnode_ok (n : Node) (A1 : Option Addr) (c1 : Nat) (A2 : Option Addr) (c2 : Nat) (A3 : Option Addr) (c3 : Nat) (w : World) (h : NodeC w n A1 c1 A2 c2 A3 c3) (hs : Small n) (hts : TextsSmall n) (hT : Tabs w) (hz : nodeT oldTab n = 0) :
    Calls Tryd.prog 14 #[.agg #[.int .i64 n.kind, .slice A1 n.ints.length c1, .slice A2 n.texts.length c2, .slice A3 n.kids.length c3]] w fun e w' =>
      ∃ gl cl, e = .returned (.tuple #[.slice (some ⟨gl, 0, none⟩) (upLen n) cl, .int .i64 0]) ∧ Kd.S kNode 26 w' w.heap.size (fun _ => True) (.slice (some ⟨gl, 0, none⟩) (upLen n) cl) (upK n 0 n.kids) ∧ Below w.heap.size w w' := by
  refine (upnode_any n A1 c1 A2 c2 A3 c3 w h hs hts hT).mono ?_
  have hr : upR n = (upK n 0 n.kids, 0) := by unfold upR; rw [if_pos hz, upN_eq]
  rw [hr]
  rintro e w' ⟨A, c, rfl, hS, hB⟩
  have hl : (upK n 0 n.kids).length = upLen n := upK_len _ _ _
  have hS' : Kd.S kNode 26 w' w.heap.size (fun _ => True) (.slice A (upK n 0 n.kids).length c) (upK n 0 n.kids) := hS
  obtain ⟨g, cap, hv, -⟩ := Kd.S_form hS' (by rw [hl]; exact upLen_pos n)
  injection hv with hA _ hc
  subst hA hc
  rw [hl] at hS'
  exact ⟨g, c, by show Ending.returned (.tuple #[.slice _ (upK n 0 n.kids).length _, _]) = _; rw [hl], hS', hB⟩

theorem UpI.drew {s : Scene} {w wr : World} {B gl cl g9 c9 g10 i j : Nat} {W : World} (h : UpI s w wr B gl cl g9 c9 g10 i j W) : UpI s w wr B gl cl g9 c9 g10 i j W.drew :=
  ⟨⟨h.grown.os, h.grown.tape, h.grown.output, h.grown.size, h.grown.block⟩, Kd.R_drew h.up, ⟨Kd.S_drew h.l.row, h.l.jl⟩, h.hB⟩
end Go.Proofs.YtglfebpgdghlfaaDoor.L
end
