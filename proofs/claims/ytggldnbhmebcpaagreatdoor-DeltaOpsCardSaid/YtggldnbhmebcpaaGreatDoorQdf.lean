/- Part 6 of the texts that the rows of this seat rest on, joined by a program: what its functions come to. Conditions: those that each theorem states. -/
import Derived.Test.YtggldnbhmebcpaaGreatDoorQde
import Derived.Lib.Bytes
import Derived.Lib.MapLaws
import Derived.Test.YtggldnbhmebcpaaGreatDoorCards
import Derived.Test.YtggldnbhmebcpaaGreatDoorTie
import Derived.OpenShut
import Derived.ChangeOld
import Derived.SizedLaws
import Derived.LaidMore
import Derived.Lay
import Derived.SevenTiedAt
import Derived.Stop.Joined
import Derived.Lib.LaidU8
import Derived.Lib.LaidPrint
import Derived.Lib.LaidTab
set_option linter.unusedVariables false
set_option linter.unusedSimpArgs false
section
-- PRINTED BY print.sh 35421559b90ae4d0a3588c463048766b98c2df88dd9212a6774a882060cdf62d: not written by this session
namespace Go.Proofs.YtggldnbhmebcpaaGreatDoor.PDeltaMakes
open Go.RowKit Go.Proofs.YtggldnbhmebcpaaGreatDoorW.PrintWords Go.Proofs.YtggldnbhmebcpaaGreatDoorW.PrintLast Go.Proofs.YtggldnbhmebcpaaGreatDoorW.PrintMore
attribute [local go_sem] max2_int min2_int max_two min_two max_three min_three max_four min_four   -- for this text's walks alone
set_option linter.unusedVariables false
set_option linter.unusedSimpArgs false
def dioramaref05_Read.l0 : Nat → ByteArray → List Int → Int → Option (List Int × Int)
 | 0, _, _, _ => none
 | k + 1, x0, x4, x5 => if x5 < (x0.size : Int) then ((dioramaref05_At.f k x0 x5).bind fun bt451 => (if bt451.2 = 0 then (some (x4, x5)) else (if x4.length < 35184372088832 then (dioramaref05_Read.l0 k x0 (x4 ++ [bt451.1]) (wrap64 (x5 + bt451.2))) else (none)))) else (some (x4, x5))
def dioramaref05_Read.f (k : Nat) (a0 : ByteArray) : Option (List Int × Int) := dioramaref05_Read.l0 k a0 (([] : List Int)) 0
set_option maxHeartbeats 8000000 in
set_option maxRecDepth 100000 in
theorem dioramaref05_Read.calls (k : Nat) (a0 : ByteArray) (r1 : List Int) (r2 : Int) (w : World) (h : dioramaref05_Read.f k a0 = some (r1, r2)) :
  Calls Tryz.prog 99 #[.string a0] w fun e w' => ∃ v0_ : Value, e = .returned (.tuple #[v0_, .int .i64 r2]) ∧ Kd.R (Kd.int .i32) 21 w' w.heap.size (fun _ => True) v0_ r1 ∧ Below w.heap.size w w' := by
 have HB := Aside0.mk (Below.refl w.heap.size w)
 have H : (dioramaref05_Read.l0 k a0 (([] : List Int)) 0) = some (r1, r2) := h
 clear h
 obtain ⟨y448, hy448⟩ : ∃ y_ : List Int, y_ = (([] : List Int)) := ⟨_, rfl⟩
 replace H : (dioramaref05_Read.l0 k a0 y448 0) = some (r1, r2) := by first | (rw [hy448]; with_reducible exact H) | (have H2_ := (Option.bind_some _ _).symm.trans H; rw [hy448]; with_reducible exact H2_) | (have H2_ := (Option.bind_some _ _).symm.trans H; with_reducible exact H2_) | with_reducible exact H | (rw [hy448]; exact H) | exact H
 have Ny448 := Aside0.mk hy448
 clear hy448
 have H' := Aside0.mk H
 clear H
 go_enter Tryz.func99, Tryz.ntmps99
 go_wp2_with (first | ((with_reducible refine gate_dst (N := 8) rfl ?_); refine Kd.R_lit (Kd.int .i32) _ 21 ?hg (N := 8) ?hd (xs := ([] : List Int)) (inner := []) (ok := fun _ => True) (okp := fun _ => True) ?hr ?hp (fun _ hk => hk) trivial (Below.refl _ _) (Nat.le_refl _) (by simp) ?_; (case hd => rfl); (case hg => rfl); (case hr => first | (go_simp; done) | (go_simp; rfl)); (case hp => exact (Reps.none _ _)); intro v449 w2 ho3 hb hg_ hnew_; clear hg_ hnew_; (first | rw [← Ny448.out] at ho3 | (simp only [Int.reduceToNat] at ho3; rw [← Ny448.out] at ho3)); have n0_ := Aside0.mk (Kd.R_lower ho3 (below_size (by repeat (first | (with_reducible first | exact HB.out | apply below_alloc | apply pw_below_drewN | apply below_drew1) | exact HB.out)))); have n1_ := Aside0.mk (below_step (by repeat (first | (with_reducible first | exact HB.out | apply below_alloc | apply pw_below_drewN | apply below_drew1) | exact HB.out)) hb); clear HB; have HO450 := n0_; have HB := n1_; clear n0_ n1_; clear hb ho3))
 go_loopg [4, 5] k (fun kq v4 v5 w' => ∃ (x4_1 : List Int) (x5_1 : Int), v5 = .int .i64 x5_1 ∧ Aside0 (dioramaref05_Read.l0 kq a0 x4_1 x5_1 = some (r1, r2)) ∧ Aside0 (kq ≤ k) ∧ Aside0 (Kd.R (Kd.int .i32) 21 w' w.heap.size (fun _ => True) v4 x4_1) ∧ Aside0 (Below w.heap.size w w'))
 case atStart => exact ⟨(y448), (0), (by first | rfl | (simp; done) | (simp [*]; done)), H', ⟨Nat.le_refl _⟩, ⟨by (with_reducible repeat (first | apply Kd.R_alloc | apply Kd.R_drewN | apply Kd.R_drew)); exact HO450.out⟩, ⟨by repeat (first | (with_reducible first | exact HB.out | apply below_alloc | apply pw_below_drewN | apply below_drew1) | exact HB.out)⟩⟩
 case round =>
  clear H'
  try clear p2
  obtain ⟨x4_1, x5_1, rfl, HA, HK1, HO_4, HB⟩ := hrel
  cases gk with
  | zero => exact absurd HA.out (by simp [dioramaref05_Read.l0])
  | succ k1 =>
   have H := HA.out
   clear HA
   simp only [dioramaref05_Read.l0] at H
   by_cases c4 : x5_1 < (a0.size : Int)
   ·rw [if_pos c4] at H
    have c4b0 : decide (x5_1 < (a0.size : Int)) = true := decide_eq_true c4
    clear c4
    replace H := Option.bind_eq_some_iff.mp H
    obtain ⟨⟨t451, t452⟩, A50, H⟩ := H
    replace H : (if t452 = 0 then (some (x4_1, x5_1)) else (if x4_1.length < 35184372088832 then (dioramaref05_Read.l0 k1 a0 (x4_1 ++ [t451]) (wrap64 (x5_1 + t452))) else (none))) = some (r1, r2) := H
    have A5 := Aside0.mk A50
    clear A50
    by_cases c6 : t452 = 0
    ·rw [if_pos c6] at H
     have c6b0 : (t452 == 0) = true := beq_iff_eq.mpr c6
     have c6b1 : (t452 != 0) = false := bne_eq_false_iff_eq.mpr c6
     clear c6
     simp only [Option.some.injEq, Prod.mk.injEq] at H
     obtain ⟨rfl, rfl⟩ := H
     go_wp2_with (first | ((with_reducible refine gate_callee (f := 118) rfl ?_); refine goesL_ (some 16) rfl rfl Tryz.func118 (by kernel_rfl) rfl #[.string a0, .int .i64 x5_1] rfl (by (try simp only [List.map_toArray, List.map_cons, List.map_nil]); first | done | rfl | (simp only [List.length_drop, List.length_take]; rfl)) ?_; (with_reducible refine (dioramaref05_At.calls k1 a0 x5_1 t451 t452 _ A5.out).mono ?_); rintro e w7 ⟨rfl, hb⟩; refine ⟨_, rfl, ?_⟩; have n0_ := Aside0.mk (Kd.R_below (by (with_reducible repeat (first | apply Kd.R_alloc | apply Kd.R_drewN | apply Kd.R_drew)); exact HO_4.out) hb); have n1_ := Aside0.mk (below_step (by repeat (first | (with_reducible first | exact HB.out | apply below_alloc | apply pw_below_drewN | apply below_drew1) | exact HB.out)) hb); clear HO_4; clear HB; have HO_4 := n0_; have HB := n1_; clear n0_ n1_; (try clear hb); (try clear hb2); (try clear hk); (try clear hi)))
     go_ret2
     exact ⟨_, by first | rfl | (simp [errW_none, errW_some] <;> rfl) | (simp [*, errW_none, errW_some] <;> rfl), by (with_reducible repeat (first | apply Kd.R_alloc | apply Kd.R_drewN | apply Kd.R_drew)); exact HO_4.out, by repeat (first | (with_reducible first | exact HB.out | apply below_alloc | apply pw_below_drewN | apply below_drew1) | exact HB.out)⟩
    ·rw [if_neg c6] at H
     have c6b0 : (t452 == 0) = false := beq_eq_false_iff_ne.mpr c6
     have c6b1 : (t452 != 0) = true := bne_iff_ne.mpr c6
     by_cases c8 : x4_1.length < 35184372088832
     ·rw [if_pos c8] at H
      have LMc8 := Aside0.mk c8
      clear c8
      obtain ⟨y453, hy453⟩ : ∃ y_ : List Int, y_ = (x4_1 ++ [t451]) := ⟨_, rfl⟩
      replace H : (dioramaref05_Read.l0 k1 a0 y453 (wrap64 (x5_1 + t452))) = some (r1, r2) := by first | (rw [hy453]; with_reducible exact H) | (have H2_ := (Option.bind_some _ _).symm.trans H; rw [hy453]; with_reducible exact H2_) | (have H2_ := (Option.bind_some _ _).symm.trans H; with_reducible exact H2_) | with_reducible exact H | (rw [hy453]; exact H) | exact H
      have Ny453 := Aside0.mk hy453
      clear hy453
      have H' := Aside0.mk H
      clear H
      go_wp2_with (first | ((with_reducible refine gate_callee (f := 118) rfl ?_); refine goesL_ (some 16) rfl rfl Tryz.func118 (by kernel_rfl) rfl #[.string a0, .int .i64 x5_1] rfl (by (try simp only [List.map_toArray, List.map_cons, List.map_nil]); first | done | rfl | (simp only [List.length_drop, List.length_take]; rfl)) ?_; (with_reducible refine (dioramaref05_At.calls k1 a0 x5_1 t451 t452 _ A5.out).mono ?_); rintro e w9 ⟨rfl, hb⟩; refine ⟨_, rfl, ?_⟩; have n0_ := Aside0.mk (Kd.R_below (by (with_reducible repeat (first | apply Kd.R_alloc | apply Kd.R_drewN | apply Kd.R_drew)); exact HO_4.out) hb); have n1_ := Aside0.mk (below_step (by repeat (first | (with_reducible first | exact HB.out | apply below_alloc | apply pw_below_drewN | apply below_drew1) | exact HB.out)) hb); clear HO_4; clear HB; have HO_4 := n0_; have HB := n1_; clear n0_ n1_; (try clear hb); (try clear hb2); (try clear hk); (try clear hi)) | ((with_reducible refine gate_builtin (b := .append) (xs := #[.tmp 23, .tmp 25]) rfl ?_); at_builtin; refine Kd.R_append (Kd.int .i32) (w0 := w) w.heap.size rfl (.tmp 23) (.tmp 25) 144 21 (.int .i32 0) 4 rfl Tryz.underlying144 info21 rfl (by decide) (by omega) u4 x4_1 t451 [.int .i32 t451] (fun _ => True) (fun _ => False) rfl rfl ?aP (fun _ hk => hk.elim) ?aF ?aO ?aB ?aS ?aL ?_; (case aP => exact rfl); (case aB => exact (by repeat (first | (with_reducible first | exact HB.out | apply below_alloc | apply pw_below_drewN | apply below_drew1) | exact HB.out))); (case aF => exact (fun _ _ => trivial)); (case aO => exact (by (with_reducible repeat (first | apply Kd.R_alloc | apply Kd.R_drewN | apply Kd.R_drew)); exact HO_4.out)); (case aS => exact (below_size (by repeat (first | (with_reducible first | exact HB.out | apply below_alloc | apply pw_below_drewN | apply below_drew1) | exact HB.out)))); (case aL => have := LMc8.out; omega); intro v454 w10 ho hb hg hat; rw [← Ny453.out] at ho; have n0_ := Aside0.mk (hb); have n1_ := Aside0.mk (ho); clear HB; clear HO_4; have HB := n0_; have HO455 := n1_; clear n0_ n1_; clear ho hb hg hat))
      go_roundg k1
      case measure => have := HK1.out; omega
      case rel => exact ⟨(y453), (wrap64 (x5_1 + t452)), (by first | rfl | (simp; done) | (simp [*]; done)), H', ⟨by have := HK1.out; omega⟩, ⟨by (with_reducible repeat (first | apply Kd.R_alloc | apply Kd.R_drewN | apply Kd.R_drew)); exact HO455.out⟩, ⟨by repeat (first | (with_reducible first | exact HB.out | apply below_alloc | apply pw_below_drewN | apply below_drew1) | exact HB.out)⟩⟩
     ·rw [if_neg c8] at H
      exact absurd H (by simp)
   ·rw [if_neg c4] at H
    have c4b0 : decide (x5_1 < (a0.size : Int)) = false := decide_eq_false c4
    clear c4
    simp only [Option.some.injEq, Prod.mk.injEq] at H
    obtain ⟨rfl, rfl⟩ := H
    go_wp2
    go_ret2
    exact ⟨_, by first | rfl | (simp [errW_none, errW_some] <;> rfl) | (simp [*, errW_none, errW_some] <;> rfl), by (with_reducible repeat (first | apply Kd.R_alloc | apply Kd.R_drewN | apply Kd.R_drew)); exact HO_4.out, by repeat (first | (with_reducible first | exact HB.out | apply below_alloc | apply pw_below_drewN | apply below_drew1) | exact HB.out)⟩

def dioramaref05_Right.f (k : Nat) (a0 : ByteArray) : Option (Bool) := (dioramaref05_Read.f k a0).bind fun bt456 => (some (bt456.2 == (a0.size : Int)))
set_option maxHeartbeats 8000000 in
set_option maxRecDepth 100000 in
theorem dioramaref05_Right.calls (k : Nat) (a0 : ByteArray) (r : Bool) (w : World) (h : dioramaref05_Right.f k a0 = some r) :
  Calls Tryz.prog 63 #[.string a0] w fun e w' => e = .returned (.bool r) ∧ Below w.heap.size w w' := by
 have HB := Aside0.mk (Below.refl w.heap.size w)
 have H : ((dioramaref05_Read.f k a0).bind fun bt456 => (some (bt456.2 == (a0.size : Int)))) = some r := h
 clear h
 replace H := Option.bind_eq_some_iff.mp H
 obtain ⟨⟨t456, t457⟩, A20, H⟩ := H
 replace H : (some (t457 == (a0.size : Int))) = some r := H
 have A2 := Aside0.mk A20
 clear A20
 obtain rfl := Option.some.inj H
 go_enter Tryz.func63, Tryz.ntmps63
 go_wp2_with (first | ((with_reducible refine gate_callee (f := 99) rfl ?_); refine goesL_ (some 7) rfl rfl Tryz.func99 (by kernel_rfl) rfl #[.string a0] rfl (by (try simp only [List.map_toArray, List.map_cons, List.map_nil]); first | done | rfl | (simp only [List.length_drop, List.length_take]; rfl)) ?_; (with_reducible refine (dioramaref05_Read.calls k a0 t456 t457 _ A2.out).mono ?_); rintro e w3 ⟨v458, rfl, ho0, hb⟩; refine ⟨_, rfl, ?_⟩; have n0_ := Aside0.mk (Kd.R_lower ho0 (below_size (by repeat (first | (with_reducible first | exact HB.out | apply below_alloc | apply pw_below_drewN | apply below_drew1) | exact HB.out)))); have n1_ := Aside0.mk (below_step (by repeat (first | (with_reducible first | exact HB.out | apply below_alloc | apply pw_below_drewN | apply below_drew1) | exact HB.out)) hb); clear HB; have HO459 := n0_; have HB := n1_; clear n0_ n1_; (try clear hb); (try clear hb2); (try clear hk); (try clear hi); (try clear ho0)))
 go_ret
 exact ⟨by first | rfl | (simp [errW_none, errW_some] <;> rfl) | (simp [*, errW_none, errW_some] <;> rfl), by repeat (first | (with_reducible first | exact HB.out | apply below_alloc | apply pw_below_drewN | apply below_drew1) | exact HB.out)⟩

mutual
def dioramaref08_Check.l0 : Nat → Int → Int → List Int → List ByteArray → List Int → List Int → Int → Int → Int → Option (Int)
 | 0, _, _, _, _, _, _, _, _, _ => none
 | k + 1, x5, x461000, x461001, x461002, x461003, x462000, x462001, x462002, x462003 => if x5 < (x461001.length : Int) then (if 0 ≤ x5 then (if x5 < (x462000.length : Int) then ((dioramaref07_In.f (rd x462000 x5) (rd x461001 x5)).bind fun t464 => (if t464 = true then (dioramaref08_Check.l0 k (wrap64 (x5 + 1)) x461000 x461001 x461002 x461003 x462000 x462001 x462002 x462003) else (some 10))) else (none)) else (none)) else (if (x461002.length : Int) = x462001 then (dioramaref08_Check.l1 k 0 x461000 x461001 x461002 x461003 x462000 x462001 x462002 x462003) else (some 11))
def dioramaref08_Check.l1 : Nat → Int → Int → List Int → List ByteArray → List Int → List Int → Int → Int → Int → Option (Int)
 | 0, _, _, _, _, _, _, _, _, _ => none
 | k + 1, x6, x461000, x461001, x461002, x461003, x462000, x462001, x462002, x462003 => if x6 < (x461002.length : Int) then (if 0 ≤ x6 then ((dioramaref05_Right.f k (rdOf ByteArray.empty x461002 x6)).bind fun t466 => (if t466 = true then (dioramaref08_Check.l1 k (wrap64 (x6 + 1)) x461000 x461001 x461002 x461003 x462000 x462001 x462002 x462003) else (some 11))) else (none)) else (if (x461003.length : Int) < x462002 then (some 12) else (if x462003 ≥ 0 then (if (x461003.length : Int) > x462003 then (some 12) else (some 0)) else (some 0)))
end
def dioramaref08_Check.f (k : Nat) (a0_0 : Int) (l0_1 : List Int) (l0_2 : List ByteArray) (l0_3 : List Int) (l1_0 : List Int) (a1_1 : Int) (a1_2 : Int) (a1_3 : Int) : Option (Int) := if (l0_1.length : Int) = (l1_0.length : Int) then (dioramaref08_Check.l0 k 0 a0_0 l0_1 l0_2 l0_3 l1_0 a1_1 a1_2 a1_3) else (some 10)
set_option maxHeartbeats 8000000 in
set_option maxRecDepth 100000 in
theorem dioramaref08_Check.calls (k : Nat) (a0_0 : Int) (A0_1 : Option Addr) (c0_1 : Nat) (l0_1 : List Int) (A0_2 : Option Addr) (c0_2 : Nat) (l0_2 : List ByteArray) (A0_3 : Option Addr) (c0_3 : Nat) (l0_3 : List Int) (A1_0 : Option Addr) (c1_0 : Nat) (l1_0 : List Int) (a1_1 : Int) (a1_2 : Int) (a1_3 : Int) (r : Int) (w : World) (hr0_1 : Kd.C (Kd.int .i64) w A0_1 l0_1.length l0_1) (hc0_1 : l0_1.length ≤ c0_1) (hr0_2 : Kd.C Kd.string w A0_2 l0_2.length l0_2) (hc0_2 : l0_2.length ≤ c0_2) (hr0_3 : Kd.C (Kd.int .i64) w A0_3 l0_3.length l0_3) (hc0_3 : l0_3.length ≤ c0_3) (hr1_0 : Kd.C (Kd.int .i64) w A1_0 l1_0.length l1_0) (hc1_0 : l1_0.length ≤ c1_0) (h : dioramaref08_Check.f k a0_0 l0_1 l0_2 l0_3 l1_0 a1_1 a1_2 a1_3 = some r) :
  Calls Tryz.prog 33 #[.agg #[.int .i64 a0_0, .slice A0_1 l0_1.length c0_1, .slice A0_2 l0_2.length c0_2, .slice A0_3 l0_3.length c0_3], .agg #[.slice A1_0 l1_0.length c1_0, .int .i64 a1_1, .int .i64 a1_2, .int .i64 a1_3]] w fun e w' => e = .returned (.int .i64 r) ∧ Below w.heap.size w w' := by
 have hu42 := Tryz.underlying42
 have hu66 := Tryz.underlying66
 have HR0_1 := Aside0.mk hr0_1
 have HC0_1 := Aside0.mk hc0_1
 clear hr0_1 hc0_1
 have HR0_2 := Aside0.mk hr0_2
 have HC0_2 := Aside0.mk hc0_2
 clear hr0_2 hc0_2
 have HR0_3 := Aside0.mk hr0_3
 have HC0_3 := Aside0.mk hc0_3
 clear hr0_3 hc0_3
 have HR1_0 := Aside0.mk hr1_0
 have HC1_0 := Aside0.mk hc1_0
 clear hr1_0 hc1_0
 have HB := Aside0.mk (Below.refl w.heap.size w)
 have H : (if (l0_1.length : Int) = (l1_0.length : Int) then (dioramaref08_Check.l0 k 0 a0_0 l0_1 l0_2 l0_3 l1_0 a1_1 a1_2 a1_3) else (some 10)) = some r := h
 clear h
 by_cases c3 : (l0_1.length : Int) = (l1_0.length : Int)
 ·rw [if_pos c3] at H
  have c3b0 : ((l0_1.length : Int) == (l1_0.length : Int)) = true := beq_iff_eq.mpr c3
  have c3b1 : ((l0_1.length : Int) != (l1_0.length : Int)) = false := bne_eq_false_iff_eq.mpr c3
  have c3b2 : (l0_1.length == l1_0.length) = true := by first | simpa using c3 | (simp at c3 ⊢; omega)
  clear c3
  have H' := Aside0.mk H
  clear H
  go_enter Tryz.func33, Tryz.ntmps33
  go_wp2_with (first | ((with_reducible refine gate_dst (N := 2) rfl ?_); (try (refine gate_guard (by rfl) ?_; dsimp only)); refine box_event ?hg (N := 2) ?hd (cs := #[.int .i64 a0_0, .slice A0_1 l0_1.length c0_1, .slice A0_2 l0_2.length c0_2, .slice A0_3 l0_3.length c0_3]) (t := 42) ?hr ?_; (case hd => rfl); (case hg => rfl); (case hr => first | (go_simp; done) | (go_simp; rfl)); intro gb460 hg w4 hbox hb; have n0_ := Aside0.mk (below_step (by repeat (first | (with_reducible first | exact HB.out | apply below_alloc | apply pw_below_drewN | apply below_drew1) | exact HB.out)) hb); have n1_ := Aside0.mk (hbox); have n2_ := Aside0.mk ((by rw [hg]; exact (below_size (by repeat (first | (with_reducible first | exact HB.out | apply below_alloc | apply pw_below_drewN | apply below_drew1) | exact HB.out))) : w.heap.size ≤ gb460)); have n3_ := Aside0.mk ((by rw [hg]; exact (below_size (by repeat (first | (with_reducible first | exact HB.out | apply below_alloc | apply pw_below_drewN | apply below_drew1) | exact HB.out))) : w.heap.size ≤ gb460)); clear HB; have HB := n0_; have BK460 := n1_; have GW460 := n2_; have GE460 := n3_; clear n0_ n1_ n2_ n3_; clear hb hbox hg) | ((with_reducible refine gate_dst (N := 3) rfl ?_); (try (refine gate_guard (by rfl) ?_; dsimp only)); refine box_event ?hg (N := 3) ?hd (cs := #[.slice A1_0 l1_0.length c1_0, .int .i64 a1_1, .int .i64 a1_2, .int .i64 a1_3]) (t := 66) ?hr ?_; (case hd => rfl); (case hg => rfl); (case hr => first | (go_simp; done) | (go_simp; rfl)); intro gb461 hg w5 hbox hb; have n0_ := Aside0.mk (blk_below (g := gb460) (o := .cells #[.int .i64 a0_0, .slice A0_1 l0_1.length c0_1, .slice A0_2 l0_2.length c0_2, .slice A0_3 l0_3.length c0_3] 42 (0, 0)) (by (with_reducible repeat (first | refine blk_drewN ?_ _ | refine blk_drew ?_ | refine blk_alloc ?_ _)); exact BK460.out) hb); have n1_ := Aside0.mk (below_step (by repeat (first | (with_reducible first | exact HB.out | apply below_alloc | apply pw_below_drewN | apply below_drew1 | refine below_set ?_ GE460.out) | exact HB.out)) hb); have n2_ := Aside0.mk (hbox); have n3_ := Aside0.mk ((by rw [hg]; exact (below_size (by repeat (first | (with_reducible first | exact HB.out | apply below_alloc | apply pw_below_drewN | apply below_drew1 | refine below_set ?_ GE460.out) | exact HB.out))) : w.heap.size ≤ gb461)); have n4_ := Aside0.mk ((by rw [hg]; exact (below_size (by repeat (first | (with_reducible first | exact HB.out | apply below_alloc | apply pw_below_drewN | apply below_drew1 | refine below_set ?_ GE460.out) | exact HB.out))) : w.heap.size ≤ gb461)); have n5_ := Aside0.mk ((by rw [hg]; exact Nat.ne_of_lt (blk_lt (g := gb460) (o := .cells #[.int .i64 a0_0, .slice A0_1 l0_1.length c0_1, .slice A0_2 l0_2.length c0_2, .slice A0_3 l0_3.length c0_3] 42 (0, 0)) (by (with_reducible repeat (first | refine blk_drewN ?_ _ | refine blk_drew ?_ | refine blk_alloc ?_ _)); exact BK460.out)) : gb460 ≠ gb461)); have n6_ := Aside0.mk ((by rw [hg]; exact Nat.ne_of_gt (blk_lt (g := gb460) (o := .cells #[.int .i64 a0_0, .slice A0_1 l0_1.length c0_1, .slice A0_2 l0_2.length c0_2, .slice A0_3 l0_3.length c0_3] 42 (0, 0)) (by (with_reducible repeat (first | refine blk_drewN ?_ _ | refine blk_drew ?_ | refine blk_alloc ?_ _)); exact BK460.out)) : gb461 ≠ gb460)); clear BK460; clear HB; have BK460 := n0_; have HB := n1_; have BK461 := n2_; have GW461 := n3_; have GE461 := n4_; have NB460_461 := n5_; have NB461_460 := n6_; clear n0_ n1_ n2_ n3_ n4_ n5_ n6_; clear hb hbox hg; have hnb6 := NB460_461.out; have hnc6 := NB461_460.out; have hcz7_0 : w5.cell? ⟨gb460, 0, none⟩ = some (.int .i64 a0_0) := (blk_cell BK460.out 0).trans rfl; have hcz7_1 : w5.cell? ⟨gb460, 1, none⟩ = some (.slice A0_1 l0_1.length c0_1) := (blk_cell BK460.out 1).trans rfl; have hcz7_2 : w5.cell? ⟨gb460, 2, none⟩ = some (.slice A0_2 l0_2.length c0_2) := (blk_cell BK460.out 2).trans rfl; have hcz7_3 : w5.cell? ⟨gb460, 3, none⟩ = some (.slice A0_3 l0_3.length c0_3) := (blk_cell BK460.out 3).trans rfl; have hfz7_0 := blk_frozen BK460.out 0; have hfz7_1 := blk_frozen BK460.out 1; have hfz7_2 := blk_frozen BK460.out 2; have hfz7_3 := blk_frozen BK460.out 3; have hcz8_0 : w5.cell? ⟨gb461, 0, none⟩ = some (.slice A1_0 l1_0.length c1_0) := (blk_cell BK461.out 0).trans rfl; have hcz8_1 : w5.cell? ⟨gb461, 1, none⟩ = some (.int .i64 a1_1) := (blk_cell BK461.out 1).trans rfl; have hcz8_2 : w5.cell? ⟨gb461, 2, none⟩ = some (.int .i64 a1_2) := (blk_cell BK461.out 2).trans rfl; have hcz8_3 : w5.cell? ⟨gb461, 3, none⟩ = some (.int .i64 a1_3) := (blk_cell BK461.out 3).trans rfl; have hfz8_0 := blk_frozen BK461.out 0; have hfz8_1 := blk_frozen BK461.out 1; have hfz8_2 := blk_frozen BK461.out 2; have hfz8_3 := blk_frozen BK461.out 3))
  repeat (go_quiet (first | ((with_reducible refine gate_dst (N := 2) rfl ?_); (try (refine gate_guard (by rfl) ?_; dsimp only)); refine box_event ?hg (N := 2) ?hd (cs := #[.int .i64 a0_0, .slice A0_1 l0_1.length c0_1, .slice A0_2 l0_2.length c0_2, .slice A0_3 l0_3.length c0_3]) (t := 42) ?hr ?_; (case hd => rfl); (case hg => rfl); (case hr => first | (go_simp; done) | (go_simp; rfl)); intro gb460 hg w4 hbox hb; have n0_ := Aside0.mk (below_step (by repeat (first | (with_reducible first | exact HB.out | apply below_alloc | apply pw_below_drewN | apply below_drew1) | exact HB.out)) hb); have n1_ := Aside0.mk (hbox); have n2_ := Aside0.mk ((by rw [hg]; exact (below_size (by repeat (first | (with_reducible first | exact HB.out | apply below_alloc | apply pw_below_drewN | apply below_drew1) | exact HB.out))) : w.heap.size ≤ gb460)); have n3_ := Aside0.mk ((by rw [hg]; exact (below_size (by repeat (first | (with_reducible first | exact HB.out | apply below_alloc | apply pw_below_drewN | apply below_drew1) | exact HB.out))) : w.heap.size ≤ gb460)); clear HB; have HB := n0_; have BK460 := n1_; have GW460 := n2_; have GE460 := n3_; clear n0_ n1_ n2_ n3_; clear hb hbox hg) | ((with_reducible refine gate_dst (N := 3) rfl ?_); (try (refine gate_guard (by rfl) ?_; dsimp only)); refine box_event ?hg (N := 3) ?hd (cs := #[.slice A1_0 l1_0.length c1_0, .int .i64 a1_1, .int .i64 a1_2, .int .i64 a1_3]) (t := 66) ?hr ?_; (case hd => rfl); (case hg => rfl); (case hr => first | (go_simp; done) | (go_simp; rfl)); intro gb461 hg w5 hbox hb; have n0_ := Aside0.mk (blk_below (g := gb460) (o := .cells #[.int .i64 a0_0, .slice A0_1 l0_1.length c0_1, .slice A0_2 l0_2.length c0_2, .slice A0_3 l0_3.length c0_3] 42 (0, 0)) (by (with_reducible repeat (first | refine blk_drewN ?_ _ | refine blk_drew ?_ | refine blk_alloc ?_ _)); exact BK460.out) hb); have n1_ := Aside0.mk (below_step (by repeat (first | (with_reducible first | exact HB.out | apply below_alloc | apply pw_below_drewN | apply below_drew1 | refine below_set ?_ GE460.out) | exact HB.out)) hb); have n2_ := Aside0.mk (hbox); have n3_ := Aside0.mk ((by rw [hg]; exact (below_size (by repeat (first | (with_reducible first | exact HB.out | apply below_alloc | apply pw_below_drewN | apply below_drew1 | refine below_set ?_ GE460.out) | exact HB.out))) : w.heap.size ≤ gb461)); have n4_ := Aside0.mk ((by rw [hg]; exact (below_size (by repeat (first | (with_reducible first | exact HB.out | apply below_alloc | apply pw_below_drewN | apply below_drew1 | refine below_set ?_ GE460.out) | exact HB.out))) : w.heap.size ≤ gb461)); have n5_ := Aside0.mk ((by rw [hg]; exact Nat.ne_of_lt (blk_lt (g := gb460) (o := .cells #[.int .i64 a0_0, .slice A0_1 l0_1.length c0_1, .slice A0_2 l0_2.length c0_2, .slice A0_3 l0_3.length c0_3] 42 (0, 0)) (by (with_reducible repeat (first | refine blk_drewN ?_ _ | refine blk_drew ?_ | refine blk_alloc ?_ _)); exact BK460.out)) : gb460 ≠ gb461)); have n6_ := Aside0.mk ((by rw [hg]; exact Nat.ne_of_gt (blk_lt (g := gb460) (o := .cells #[.int .i64 a0_0, .slice A0_1 l0_1.length c0_1, .slice A0_2 l0_2.length c0_2, .slice A0_3 l0_3.length c0_3] 42 (0, 0)) (by (with_reducible repeat (first | refine blk_drewN ?_ _ | refine blk_drew ?_ | refine blk_alloc ?_ _)); exact BK460.out)) : gb461 ≠ gb460)); clear BK460; clear HB; have BK460 := n0_; have HB := n1_; have BK461 := n2_; have GW461 := n3_; have GE461 := n4_; have NB460_461 := n5_; have NB461_460 := n6_; clear n0_ n1_ n2_ n3_ n4_ n5_ n6_; clear hb hbox hg; have hnb6 := NB460_461.out; have hnc6 := NB461_460.out; have hcz7_0 : w5.cell? ⟨gb460, 0, none⟩ = some (.int .i64 a0_0) := (blk_cell BK460.out 0).trans rfl; have hcz7_1 : w5.cell? ⟨gb460, 1, none⟩ = some (.slice A0_1 l0_1.length c0_1) := (blk_cell BK460.out 1).trans rfl; have hcz7_2 : w5.cell? ⟨gb460, 2, none⟩ = some (.slice A0_2 l0_2.length c0_2) := (blk_cell BK460.out 2).trans rfl; have hcz7_3 : w5.cell? ⟨gb460, 3, none⟩ = some (.slice A0_3 l0_3.length c0_3) := (blk_cell BK460.out 3).trans rfl; have hfz7_0 := blk_frozen BK460.out 0; have hfz7_1 := blk_frozen BK460.out 1; have hfz7_2 := blk_frozen BK460.out 2; have hfz7_3 := blk_frozen BK460.out 3; have hcz8_0 : w5.cell? ⟨gb461, 0, none⟩ = some (.slice A1_0 l1_0.length c1_0) := (blk_cell BK461.out 0).trans rfl; have hcz8_1 : w5.cell? ⟨gb461, 1, none⟩ = some (.int .i64 a1_1) := (blk_cell BK461.out 1).trans rfl; have hcz8_2 : w5.cell? ⟨gb461, 2, none⟩ = some (.int .i64 a1_2) := (blk_cell BK461.out 2).trans rfl; have hcz8_3 : w5.cell? ⟨gb461, 3, none⟩ = some (.int .i64 a1_3) := (blk_cell BK461.out 3).trans rfl; have hfz8_0 := blk_frozen BK461.out 0; have hfz8_1 := blk_frozen BK461.out 1; have hfz8_2 := blk_frozen BK461.out 2; have hfz8_3 := blk_frozen BK461.out 3)); try go_wp2_with (first | ((with_reducible refine gate_dst (N := 2) rfl ?_); (try (refine gate_guard (by rfl) ?_; dsimp only)); refine box_event ?hg (N := 2) ?hd (cs := #[.int .i64 a0_0, .slice A0_1 l0_1.length c0_1, .slice A0_2 l0_2.length c0_2, .slice A0_3 l0_3.length c0_3]) (t := 42) ?hr ?_; (case hd => rfl); (case hg => rfl); (case hr => first | (go_simp; done) | (go_simp; rfl)); intro gb460 hg w4 hbox hb; have n0_ := Aside0.mk (below_step (by repeat (first | (with_reducible first | exact HB.out | apply below_alloc | apply pw_below_drewN | apply below_drew1) | exact HB.out)) hb); have n1_ := Aside0.mk (hbox); have n2_ := Aside0.mk ((by rw [hg]; exact (below_size (by repeat (first | (with_reducible first | exact HB.out | apply below_alloc | apply pw_below_drewN | apply below_drew1) | exact HB.out))) : w.heap.size ≤ gb460)); have n3_ := Aside0.mk ((by rw [hg]; exact (below_size (by repeat (first | (with_reducible first | exact HB.out | apply below_alloc | apply pw_below_drewN | apply below_drew1) | exact HB.out))) : w.heap.size ≤ gb460)); clear HB; have HB := n0_; have BK460 := n1_; have GW460 := n2_; have GE460 := n3_; clear n0_ n1_ n2_ n3_; clear hb hbox hg) | ((with_reducible refine gate_dst (N := 3) rfl ?_); (try (refine gate_guard (by rfl) ?_; dsimp only)); refine box_event ?hg (N := 3) ?hd (cs := #[.slice A1_0 l1_0.length c1_0, .int .i64 a1_1, .int .i64 a1_2, .int .i64 a1_3]) (t := 66) ?hr ?_; (case hd => rfl); (case hg => rfl); (case hr => first | (go_simp; done) | (go_simp; rfl)); intro gb461 hg w5 hbox hb; have n0_ := Aside0.mk (blk_below (g := gb460) (o := .cells #[.int .i64 a0_0, .slice A0_1 l0_1.length c0_1, .slice A0_2 l0_2.length c0_2, .slice A0_3 l0_3.length c0_3] 42 (0, 0)) (by (with_reducible repeat (first | refine blk_drewN ?_ _ | refine blk_drew ?_ | refine blk_alloc ?_ _)); exact BK460.out) hb); have n1_ := Aside0.mk (below_step (by repeat (first | (with_reducible first | exact HB.out | apply below_alloc | apply pw_below_drewN | apply below_drew1 | refine below_set ?_ GE460.out) | exact HB.out)) hb); have n2_ := Aside0.mk (hbox); have n3_ := Aside0.mk ((by rw [hg]; exact (below_size (by repeat (first | (with_reducible first | exact HB.out | apply below_alloc | apply pw_below_drewN | apply below_drew1 | refine below_set ?_ GE460.out) | exact HB.out))) : w.heap.size ≤ gb461)); have n4_ := Aside0.mk ((by rw [hg]; exact (below_size (by repeat (first | (with_reducible first | exact HB.out | apply below_alloc | apply pw_below_drewN | apply below_drew1 | refine below_set ?_ GE460.out) | exact HB.out))) : w.heap.size ≤ gb461)); have n5_ := Aside0.mk ((by rw [hg]; exact Nat.ne_of_lt (blk_lt (g := gb460) (o := .cells #[.int .i64 a0_0, .slice A0_1 l0_1.length c0_1, .slice A0_2 l0_2.length c0_2, .slice A0_3 l0_3.length c0_3] 42 (0, 0)) (by (with_reducible repeat (first | refine blk_drewN ?_ _ | refine blk_drew ?_ | refine blk_alloc ?_ _)); exact BK460.out)) : gb460 ≠ gb461)); have n6_ := Aside0.mk ((by rw [hg]; exact Nat.ne_of_gt (blk_lt (g := gb460) (o := .cells #[.int .i64 a0_0, .slice A0_1 l0_1.length c0_1, .slice A0_2 l0_2.length c0_2, .slice A0_3 l0_3.length c0_3] 42 (0, 0)) (by (with_reducible repeat (first | refine blk_drewN ?_ _ | refine blk_drew ?_ | refine blk_alloc ?_ _)); exact BK460.out)) : gb461 ≠ gb460)); clear BK460; clear HB; have BK460 := n0_; have HB := n1_; have BK461 := n2_; have GW461 := n3_; have GE461 := n4_; have NB460_461 := n5_; have NB461_460 := n6_; clear n0_ n1_ n2_ n3_ n4_ n5_ n6_; clear hb hbox hg; have hnb6 := NB460_461.out; have hnc6 := NB461_460.out; have hcz7_0 : w5.cell? ⟨gb460, 0, none⟩ = some (.int .i64 a0_0) := (blk_cell BK460.out 0).trans rfl; have hcz7_1 : w5.cell? ⟨gb460, 1, none⟩ = some (.slice A0_1 l0_1.length c0_1) := (blk_cell BK460.out 1).trans rfl; have hcz7_2 : w5.cell? ⟨gb460, 2, none⟩ = some (.slice A0_2 l0_2.length c0_2) := (blk_cell BK460.out 2).trans rfl; have hcz7_3 : w5.cell? ⟨gb460, 3, none⟩ = some (.slice A0_3 l0_3.length c0_3) := (blk_cell BK460.out 3).trans rfl; have hfz7_0 := blk_frozen BK460.out 0; have hfz7_1 := blk_frozen BK460.out 1; have hfz7_2 := blk_frozen BK460.out 2; have hfz7_3 := blk_frozen BK460.out 3; have hcz8_0 : w5.cell? ⟨gb461, 0, none⟩ = some (.slice A1_0 l1_0.length c1_0) := (blk_cell BK461.out 0).trans rfl; have hcz8_1 : w5.cell? ⟨gb461, 1, none⟩ = some (.int .i64 a1_1) := (blk_cell BK461.out 1).trans rfl; have hcz8_2 : w5.cell? ⟨gb461, 2, none⟩ = some (.int .i64 a1_2) := (blk_cell BK461.out 2).trans rfl; have hcz8_3 : w5.cell? ⟨gb461, 3, none⟩ = some (.int .i64 a1_3) := (blk_cell BK461.out 3).trans rfl; have hfz8_0 := blk_frozen BK461.out 0; have hfz8_1 := blk_frozen BK461.out 1; have hfz8_2 := blk_frozen BK461.out 2; have hfz8_3 := blk_frozen BK461.out 3)))
  go_loopg [5] k (fun kq v5 w' => ∃ (x5_1 : Int), v5 = .int .i64 x5_1 ∧ Aside0 (dioramaref08_Check.l0 kq x5_1 a0_0 l0_1 l0_2 l0_3 l1_0 a1_1 a1_2 a1_3 = some r) ∧ Aside0 (kq ≤ k) ∧ Aside0 (w'.heap[gb460]? = some (.cells #[.int .i64 a0_0, (.slice A0_1 l0_1.length c0_1), (.slice A0_2 l0_2.length c0_2), (.slice A0_3 l0_3.length c0_3)] 42 (0, 0))) ∧ Aside0 (w'.heap[gb461]? = some (.cells #[(.slice A1_0 l1_0.length c1_0), .int .i64 a1_1, .int .i64 a1_2, .int .i64 a1_3] 66 (0, 0))) ∧ Aside0 (Below w.heap.size w w'))
  case atStart => exact ⟨(0), (by first | rfl | (simp; done) | (simp [*]; done)), H', ⟨Nat.le_refl _⟩, ⟨by (with_reducible repeat (first | refine blk_drewN ?_ _ | refine blk_drew ?_ | refine blk_alloc ?_ _)); exact BK460.out⟩, ⟨by (with_reducible repeat (first | refine blk_drewN ?_ _ | refine blk_drew ?_ | refine blk_alloc ?_ _)); exact BK461.out⟩, ⟨by repeat (first | (with_reducible first | exact HB.out | apply below_alloc | apply pw_below_drewN | apply below_drew1 | refine below_set ?_ GE460.out | refine below_set ?_ GE461.out) | exact HB.out)⟩⟩
  case round =>
   clear H'
   try clear c1
   try clear p2
   try clear c3
   try clear c3b0
   try clear c3b1
   try clear c3b2
   try clear c6
   try clear hcz7_0
   try clear hcz7_1
   try clear hcz7_2
   try clear hcz7_3
   try clear hcz8_0
   try clear hcz8_1
   try clear hcz8_2
   try clear hcz8_3
   try clear hfz7_0
   try clear hfz7_1
   try clear hfz7_2
   try clear hfz7_3
   try clear hfz8_0
   try clear hfz8_1
   try clear hfz8_2
   try clear hfz8_3
   obtain ⟨x5_1, rfl, HA, HK1, BK460, BK461, HB⟩ := hrel
   cases gk with
   | zero => exact absurd HA.out (by simp [dioramaref08_Check.l0])
   | succ k1 =>
    have H := HA.out
    clear HA
    simp only [dioramaref08_Check.l0] at H
    by_cases c9 : x5_1 < (l0_1.length : Int)
    ·rw [if_pos c9] at H
     have c9b0 : decide (x5_1 < (l0_1.length : Int)) = true := decide_eq_true c9
     clear c9
     by_cases c10 : 0 ≤ x5_1
     ·rw [if_pos c10] at H
      have c10b0 : decide (0 ≤ x5_1) = true := decide_eq_true c10
      clear c10
      by_cases c11 : x5_1 < (l1_0.length : Int)
      ·rw [if_pos c11] at H
       have c11b0 : decide (x5_1 < (l1_0.length : Int)) = true := decide_eq_true c11
       clear c11
       replace H := Option.bind_eq_some_iff.mp H
       obtain ⟨t464, A120, H⟩ := H
       replace H : (if t464 = true then (dioramaref08_Check.l0 k1 (wrap64 (x5_1 + 1)) a0_0 l0_1 l0_2 l0_3 l1_0 a1_1 a1_2 a1_3) else (some 10)) = some r := H
       have A12 := Aside0.mk A120
       clear A120
       by_cases c13 : t464 = true
       ·subst c13
        have H1 : (dioramaref08_Check.l0 k1 (wrap64 (x5_1 + 1)) a0_0 l0_1 l0_2 l0_3 l1_0 a1_1 a1_2 a1_3) = some r := by rw [if_pos rfl] at H; exact H
        clear H
        have H := H1
        clear H1
        have H' := Aside0.mk H
        clear H
        have hnb14 := NB460_461.out
        have hnc14 := NB461_460.out
        have hcz15_0 : wr.cell? ⟨gb460, 0, none⟩ = some (.int .i64 a0_0) := (blk_cell BK460.out 0).trans rfl
        have hcz15_1 : wr.cell? ⟨gb460, 1, none⟩ = some (.slice A0_1 l0_1.length c0_1) := (blk_cell BK460.out 1).trans rfl
        have hcz15_2 : wr.cell? ⟨gb460, 2, none⟩ = some (.slice A0_2 l0_2.length c0_2) := (blk_cell BK460.out 2).trans rfl
        have hcz15_3 : wr.cell? ⟨gb460, 3, none⟩ = some (.slice A0_3 l0_3.length c0_3) := (blk_cell BK460.out 3).trans rfl
        have hfz15_0 := blk_frozen BK460.out 0
        have hfz15_1 := blk_frozen BK460.out 1
        have hfz15_2 := blk_frozen BK460.out 2
        have hfz15_3 := blk_frozen BK460.out 3
        have hcz16_0 : wr.cell? ⟨gb461, 0, none⟩ = some (.slice A1_0 l1_0.length c1_0) := (blk_cell BK461.out 0).trans rfl
        have hcz16_1 : wr.cell? ⟨gb461, 1, none⟩ = some (.int .i64 a1_1) := (blk_cell BK461.out 1).trans rfl
        have hcz16_2 : wr.cell? ⟨gb461, 2, none⟩ = some (.int .i64 a1_2) := (blk_cell BK461.out 2).trans rfl
        have hcz16_3 : wr.cell? ⟨gb461, 3, none⟩ = some (.int .i64 a1_3) := (blk_cell BK461.out 3).trans rfl
        have hfz16_0 := blk_frozen BK461.out 0
        have hfz16_1 := blk_frozen BK461.out 1
        have hfz16_2 := blk_frozen BK461.out 2
        have hfz16_3 := blk_frozen BK461.out 3
        have p462 : 0 ≤ (x5_1 : Int) := of_decide_eq_true (by first | (with_reducible assumption) | assumption)
        have q462 : x5_1 < (l1_0.length : Int) := of_decide_eq_true (by first | (with_reducible assumption) | assumption)
        obtain ⟨ad462, e462, hx462_0⟩ := Kd.at_int HR1_0.out x5_1 p462 q462
        cases e462
        replace hx462_0 := (HB.out.cell (World.block_lt_of_cell? w _ hx462_0)).trans hx462_0
        replace p462 := eq_true p462
        replace q462 := eq_true q462
        have p463 : 0 ≤ (x5_1 : Int) := of_decide_eq_true (by first | (with_reducible assumption) | assumption)
        have q463 : x5_1 < (l0_1.length : Int) := of_decide_eq_true (by first | (with_reducible assumption) | assumption)
        obtain ⟨ad463, e463, hx463_0⟩ := Kd.at_int HR0_1.out x5_1 p463 q463
        cases e463
        replace hx463_0 := (HB.out.cell (World.block_lt_of_cell? w _ hx463_0)).trans hx463_0
        replace p463 := eq_true p463
        replace q463 := eq_true q463
        go_wp2_with (first | (go_at_call 62; (with_reducible refine (dioramaref07_In.calls (rd l1_0 x5_1) (rd l0_1 x5_1) true _ A12.out).mono ?_); rintro e w' ⟨rfl, ⟨nd, rfl⟩⟩; (try first | exact ⟨rfl, _, World.drewN_drewN _ _ _⟩ | exact ⟨rfl, _, Eq.trans (World.drewN_drewN _ _ _) (congrArg (World.drewN _) (Nat.add_assoc _ _ _))⟩)))
        repeat (go_quiet (first | (go_at_call 62; (with_reducible refine (dioramaref07_In.calls (rd l1_0 x5_1) (rd l0_1 x5_1) true _ A12.out).mono ?_); rintro e w' ⟨rfl, ⟨nd, rfl⟩⟩; (try first | exact ⟨rfl, _, World.drewN_drewN _ _ _⟩ | exact ⟨rfl, _, Eq.trans (World.drewN_drewN _ _ _) (congrArg (World.drewN _) (Nat.add_assoc _ _ _))⟩))); try go_wp2_with (first | (go_at_call 62; (with_reducible refine (dioramaref07_In.calls (rd l1_0 x5_1) (rd l0_1 x5_1) true _ A12.out).mono ?_); rintro e w' ⟨rfl, ⟨nd, rfl⟩⟩; (try first | exact ⟨rfl, _, World.drewN_drewN _ _ _⟩ | exact ⟨rfl, _, Eq.trans (World.drewN_drewN _ _ _) (congrArg (World.drewN _) (Nat.add_assoc _ _ _))⟩))))
        go_roundg k1
        case measure => have := HK1.out; omega
        case rel => exact ⟨(wrap64 (x5_1 + 1)), (by first | rfl | (simp; done) | (simp [*]; done)), H', ⟨by have := HK1.out; omega⟩, ⟨by (with_reducible repeat (first | refine blk_drewN ?_ _ | refine blk_drew ?_ | refine blk_alloc ?_ _)); exact BK460.out⟩, ⟨by (with_reducible repeat (first | refine blk_drewN ?_ _ | refine blk_drew ?_ | refine blk_alloc ?_ _)); exact BK461.out⟩, ⟨by repeat (first | (with_reducible first | exact HB.out | apply below_alloc | apply pw_below_drewN | apply below_drew1 | refine below_set ?_ GE460.out | refine below_set ?_ GE461.out) | exact HB.out)⟩⟩
       ·replace c13 := Bool.eq_false_iff.mpr c13
        subst c13
        have H1 : (some 10) = some r := by rw [if_neg (show ¬ (false = true) by decide)] at H; exact H
        clear H
        have H := H1
        clear H1
        obtain rfl := Option.some.inj H
        have hnb17 := NB460_461.out
        have hnc17 := NB461_460.out
        have hcz18_0 : wr.cell? ⟨gb460, 0, none⟩ = some (.int .i64 a0_0) := (blk_cell BK460.out 0).trans rfl
        have hcz18_1 : wr.cell? ⟨gb460, 1, none⟩ = some (.slice A0_1 l0_1.length c0_1) := (blk_cell BK460.out 1).trans rfl
        have hcz18_2 : wr.cell? ⟨gb460, 2, none⟩ = some (.slice A0_2 l0_2.length c0_2) := (blk_cell BK460.out 2).trans rfl
        have hcz18_3 : wr.cell? ⟨gb460, 3, none⟩ = some (.slice A0_3 l0_3.length c0_3) := (blk_cell BK460.out 3).trans rfl
        have hfz18_0 := blk_frozen BK460.out 0
        have hfz18_1 := blk_frozen BK460.out 1
        have hfz18_2 := blk_frozen BK460.out 2
        have hfz18_3 := blk_frozen BK460.out 3
        have hcz19_0 : wr.cell? ⟨gb461, 0, none⟩ = some (.slice A1_0 l1_0.length c1_0) := (blk_cell BK461.out 0).trans rfl
        have hcz19_1 : wr.cell? ⟨gb461, 1, none⟩ = some (.int .i64 a1_1) := (blk_cell BK461.out 1).trans rfl
        have hcz19_2 : wr.cell? ⟨gb461, 2, none⟩ = some (.int .i64 a1_2) := (blk_cell BK461.out 2).trans rfl
        have hcz19_3 : wr.cell? ⟨gb461, 3, none⟩ = some (.int .i64 a1_3) := (blk_cell BK461.out 3).trans rfl
        have hfz19_0 := blk_frozen BK461.out 0
        have hfz19_1 := blk_frozen BK461.out 1
        have hfz19_2 := blk_frozen BK461.out 2
        have hfz19_3 := blk_frozen BK461.out 3
        have p462 : 0 ≤ (x5_1 : Int) := of_decide_eq_true (by first | (with_reducible assumption) | assumption)
        have q462 : x5_1 < (l1_0.length : Int) := of_decide_eq_true (by first | (with_reducible assumption) | assumption)
        obtain ⟨ad462, e462, hx462_0⟩ := Kd.at_int HR1_0.out x5_1 p462 q462
        cases e462
        replace hx462_0 := (HB.out.cell (World.block_lt_of_cell? w _ hx462_0)).trans hx462_0
        replace p462 := eq_true p462
        replace q462 := eq_true q462
        have p463 : 0 ≤ (x5_1 : Int) := of_decide_eq_true (by first | (with_reducible assumption) | assumption)
        have q463 : x5_1 < (l0_1.length : Int) := of_decide_eq_true (by first | (with_reducible assumption) | assumption)
        obtain ⟨ad463, e463, hx463_0⟩ := Kd.at_int HR0_1.out x5_1 p463 q463
        cases e463
        replace hx463_0 := (HB.out.cell (World.block_lt_of_cell? w _ hx463_0)).trans hx463_0
        replace p463 := eq_true p463
        replace q463 := eq_true q463
        go_wp2_with (first | (go_at_call 62; (with_reducible refine (dioramaref07_In.calls (rd l1_0 x5_1) (rd l0_1 x5_1) false _ A12.out).mono ?_); rintro e w' ⟨rfl, ⟨nd, rfl⟩⟩; (try first | exact ⟨rfl, _, World.drewN_drewN _ _ _⟩ | exact ⟨rfl, _, Eq.trans (World.drewN_drewN _ _ _) (congrArg (World.drewN _) (Nat.add_assoc _ _ _))⟩)))
        repeat (go_quiet (first | (go_at_call 62; (with_reducible refine (dioramaref07_In.calls (rd l1_0 x5_1) (rd l0_1 x5_1) false _ A12.out).mono ?_); rintro e w' ⟨rfl, ⟨nd, rfl⟩⟩; (try first | exact ⟨rfl, _, World.drewN_drewN _ _ _⟩ | exact ⟨rfl, _, Eq.trans (World.drewN_drewN _ _ _) (congrArg (World.drewN _) (Nat.add_assoc _ _ _))⟩))); try go_wp2_with (first | (go_at_call 62; (with_reducible refine (dioramaref07_In.calls (rd l1_0 x5_1) (rd l0_1 x5_1) false _ A12.out).mono ?_); rintro e w' ⟨rfl, ⟨nd, rfl⟩⟩; (try first | exact ⟨rfl, _, World.drewN_drewN _ _ _⟩ | exact ⟨rfl, _, Eq.trans (World.drewN_drewN _ _ _) (congrArg (World.drewN _) (Nat.add_assoc _ _ _))⟩))))
        go_ret
        exact ⟨by first | rfl | (simp [errW_none, errW_some] <;> rfl) | (simp [*, errW_none, errW_some] <;> rfl), by repeat (first | (with_reducible first | exact HB.out | apply below_alloc | apply pw_below_drewN | apply below_drew1 | refine below_set ?_ GE460.out | refine below_set ?_ GE461.out) | exact HB.out)⟩
      ·rw [if_neg c11] at H
       exact absurd H (by simp)
     ·rw [if_neg c10] at H
      exact absurd H (by simp)
    ·rw [if_neg c9] at H
     have c9b0 : decide (x5_1 < (l0_1.length : Int)) = false := decide_eq_false c9
     clear c9
     by_cases c20 : (l0_2.length : Int) = a1_1
     ·rw [if_pos c20] at H
      have c20b0 : ((l0_2.length : Int) == a1_1) = true := beq_iff_eq.mpr c20
      have c20b1 : ((l0_2.length : Int) != a1_1) = false := bne_eq_false_iff_eq.mpr c20
      clear c20
      have H' := Aside0.mk H
      clear H
      have hnb21 := NB460_461.out
      have hnc21 := NB461_460.out
      have hcz22_0 : wr.cell? ⟨gb460, 0, none⟩ = some (.int .i64 a0_0) := (blk_cell BK460.out 0).trans rfl
      have hcz22_1 : wr.cell? ⟨gb460, 1, none⟩ = some (.slice A0_1 l0_1.length c0_1) := (blk_cell BK460.out 1).trans rfl
      have hcz22_2 : wr.cell? ⟨gb460, 2, none⟩ = some (.slice A0_2 l0_2.length c0_2) := (blk_cell BK460.out 2).trans rfl
      have hcz22_3 : wr.cell? ⟨gb460, 3, none⟩ = some (.slice A0_3 l0_3.length c0_3) := (blk_cell BK460.out 3).trans rfl
      have hfz22_0 := blk_frozen BK460.out 0
      have hfz22_1 := blk_frozen BK460.out 1
      have hfz22_2 := blk_frozen BK460.out 2
      have hfz22_3 := blk_frozen BK460.out 3
      have hcz23_0 : wr.cell? ⟨gb461, 0, none⟩ = some (.slice A1_0 l1_0.length c1_0) := (blk_cell BK461.out 0).trans rfl
      have hcz23_1 : wr.cell? ⟨gb461, 1, none⟩ = some (.int .i64 a1_1) := (blk_cell BK461.out 1).trans rfl
      have hcz23_2 : wr.cell? ⟨gb461, 2, none⟩ = some (.int .i64 a1_2) := (blk_cell BK461.out 2).trans rfl
      have hcz23_3 : wr.cell? ⟨gb461, 3, none⟩ = some (.int .i64 a1_3) := (blk_cell BK461.out 3).trans rfl
      have hfz23_0 := blk_frozen BK461.out 0
      have hfz23_1 := blk_frozen BK461.out 1
      have hfz23_2 := blk_frozen BK461.out 2
      have hfz23_3 := blk_frozen BK461.out 3
      go_wp2
      repeat (go_quiet (fail); try go_wp2)
      go_loopg [6] k1 (fun kq v6 w' => ∃ (x6_2 : Int), v6 = .int .i64 x6_2 ∧ Aside0 (dioramaref08_Check.l1 kq x6_2 a0_0 l0_1 l0_2 l0_3 l1_0 a1_1 a1_2 a1_3 = some r) ∧ Aside0 (kq ≤ k1) ∧ Aside0 (w'.heap[gb460]? = some (.cells #[.int .i64 a0_0, (.slice A0_1 l0_1.length c0_1), (.slice A0_2 l0_2.length c0_2), (.slice A0_3 l0_3.length c0_3)] 42 (0, 0))) ∧ Aside0 (w'.heap[gb461]? = some (.cells #[(.slice A1_0 l1_0.length c1_0), .int .i64 a1_1, .int .i64 a1_2, .int .i64 a1_3] 66 (0, 0))) ∧ Aside0 (Below w.heap.size w w'))
      case atStart => exact ⟨(0), (by first | rfl | (simp; done) | (simp [*]; done)), H', ⟨Nat.le_refl _⟩, ⟨by (with_reducible repeat (first | refine blk_drewN ?_ _ | refine blk_drew ?_ | refine blk_alloc ?_ _)); exact BK460.out⟩, ⟨by (with_reducible repeat (first | refine blk_drewN ?_ _ | refine blk_drew ?_ | refine blk_alloc ?_ _)); exact BK461.out⟩, ⟨by repeat (first | (with_reducible first | exact HB.out | apply below_alloc | apply pw_below_drewN | apply below_drew1 | refine below_set ?_ GE460.out | refine below_set ?_ GE461.out) | exact HB.out)⟩⟩
      case round =>
       clear H'
       try clear c1
       try clear c2
       try clear p2
       try clear c3
       try clear c3b0
       try clear c3b1
       try clear c3b2
       try clear p4
       try clear q4
       try clear hx4
       try clear c6
       try clear p6
       try clear c9
       try clear c9b0
       try clear c10
       try clear c10b0
       try clear c11
       try clear c11b0
       try clear c13
       try clear c14
       try clear c17
       try clear c20
       try clear c20b0
       try clear c20b1
       try clear c21
       try clear hcz15_0
       try clear hcz15_1
       try clear hcz15_2
       try clear hcz15_3
       try clear hcz16_0
       try clear hcz16_1
       try clear hcz16_2
       try clear hcz16_3
       try clear hcz18_0
       try clear hcz18_1
       try clear hcz18_2
       try clear hcz18_3
       try clear hcz19_0
       try clear hcz19_1
       try clear hcz19_2
       try clear hcz19_3
       try clear hcz22_0
       try clear hcz22_1
       try clear hcz22_2
       try clear hcz22_3
       try clear hcz23_0
       try clear hcz23_1
       try clear hcz23_2
       try clear hcz23_3
       try clear hcz7_0
       try clear hcz7_1
       try clear hcz7_2
       try clear hcz7_3
       try clear hcz8_0
       try clear hcz8_1
       try clear hcz8_2
       try clear hcz8_3
       try clear hfz15_0
       try clear hfz15_1
       try clear hfz15_2
       try clear hfz15_3
       try clear hfz16_0
       try clear hfz16_1
       try clear hfz16_2
       try clear hfz16_3
       try clear hfz18_0
       try clear hfz18_1
       try clear hfz18_2
       try clear hfz18_3
       try clear hfz19_0
       try clear hfz19_1
       try clear hfz19_2
       try clear hfz19_3
       try clear hfz22_0
       try clear hfz22_1
       try clear hfz22_2
       try clear hfz22_3
       try clear hfz23_0
       try clear hfz23_1
       try clear hfz23_2
       try clear hfz23_3
       try clear hfz7_0
       try clear hfz7_1
       try clear hfz7_2
       try clear hfz7_3
       try clear hfz8_0
       try clear hfz8_1
       try clear hfz8_2
       try clear hfz8_3
       try clear hx462_0
       try clear hx463_0
       try clear p2
       try clear p462
       try clear p463
       try clear q462
       try clear q463
       obtain ⟨x6_2, rfl, HA, HK2, BK460, BK461, HB⟩ := hrel
       cases gk with
       | zero => exact absurd HA.out (by simp [dioramaref08_Check.l1])
       | succ k2 =>
        have H := HA.out
        clear HA
        simp only [dioramaref08_Check.l1] at H
        by_cases c24 : x6_2 < (l0_2.length : Int)
        ·rw [if_pos c24] at H
         have c24b0 : decide (x6_2 < (l0_2.length : Int)) = true := decide_eq_true c24
         clear c24
         by_cases c25 : 0 ≤ x6_2
         ·rw [if_pos c25] at H
          have c25b0 : decide (0 ≤ x6_2) = true := decide_eq_true c25
          clear c25
          replace H := Option.bind_eq_some_iff.mp H
          obtain ⟨t466, A260, H⟩ := H
          replace H : (if t466 = true then (dioramaref08_Check.l1 k2 (wrap64 (x6_2 + 1)) a0_0 l0_1 l0_2 l0_3 l1_0 a1_1 a1_2 a1_3) else (some 11)) = some r := H
          have A26 := Aside0.mk A260
          clear A260
          by_cases c27 : t466 = true
          ·subst c27
           have H1 : (dioramaref08_Check.l1 k2 (wrap64 (x6_2 + 1)) a0_0 l0_1 l0_2 l0_3 l1_0 a1_1 a1_2 a1_3) = some r := by rw [if_pos rfl] at H; exact H
           clear H
           have H := H1
           clear H1
           have H' := Aside0.mk H
           clear H
           have hnb28 := NB460_461.out
           have hnc28 := NB461_460.out
           have hcz29_0 : wr.cell? ⟨gb460, 0, none⟩ = some (.int .i64 a0_0) := (blk_cell BK460.out 0).trans rfl
           have hcz29_1 : wr.cell? ⟨gb460, 1, none⟩ = some (.slice A0_1 l0_1.length c0_1) := (blk_cell BK460.out 1).trans rfl
           have hcz29_2 : wr.cell? ⟨gb460, 2, none⟩ = some (.slice A0_2 l0_2.length c0_2) := (blk_cell BK460.out 2).trans rfl
           have hcz29_3 : wr.cell? ⟨gb460, 3, none⟩ = some (.slice A0_3 l0_3.length c0_3) := (blk_cell BK460.out 3).trans rfl
           have hfz29_0 := blk_frozen BK460.out 0
           have hfz29_1 := blk_frozen BK460.out 1
           have hfz29_2 := blk_frozen BK460.out 2
           have hfz29_3 := blk_frozen BK460.out 3
           have p465 : 0 ≤ (x6_2 : Int) := of_decide_eq_true (by first | (with_reducible assumption) | assumption)
           have q465 : x6_2 < (l0_2.length : Int) := of_decide_eq_true (by first | (with_reducible assumption) | assumption)
           obtain ⟨ad465, e465, hx465_0⟩ := Kd.at_string HR0_2.out x6_2 p465 q465
           cases e465
           replace hx465_0 := (HB.out.cell (World.block_lt_of_cell? w _ hx465_0)).trans hx465_0
           replace p465 := eq_true p465
           replace q465 := eq_true q465
           go_wp2_with (first | (go_at_call 63; (with_reducible refine (dioramaref05_Right.calls k2 (rdOf ByteArray.empty l0_2 x6_2) true _ A26.out).mono ?_); rintro e w30 ⟨rfl, hb⟩; have n0_ := Aside0.mk (blk_below (g := gb460) (o := .cells #[.int .i64 a0_0, .slice A0_1 l0_1.length c0_1, .slice (some ad465) l0_2.length c0_2, .slice A0_3 l0_3.length c0_3] 42 (0, 0)) (by (with_reducible repeat (first | refine blk_drewN ?_ _ | refine blk_drew ?_ | refine blk_alloc ?_ _)); exact BK460.out) hb); have n1_ := Aside0.mk (blk_below (g := gb461) (o := .cells #[.slice A1_0 l1_0.length c1_0, .int .i64 a1_1, .int .i64 a1_2, .int .i64 a1_3] 66 (0, 0)) (by (with_reducible repeat (first | refine blk_drewN ?_ _ | refine blk_drew ?_ | refine blk_alloc ?_ _)); exact BK461.out) hb); have n2_ := Aside0.mk (below_step (by repeat (first | (with_reducible first | exact HB.out | apply below_alloc | apply pw_below_drewN | apply below_drew1 | refine below_set ?_ GE460.out | refine below_set ?_ GE461.out) | exact HB.out)) hb); clear BK460; clear BK461; clear HB; have BK460 := n0_; have BK461 := n1_; have HB := n2_; clear n0_ n1_ n2_; (try clear hb); (try clear hb2); (try clear hk); (try clear hi)))
           repeat (go_quiet (first | (go_at_call 63; (with_reducible refine (dioramaref05_Right.calls k2 (rdOf ByteArray.empty l0_2 x6_2) true _ A26.out).mono ?_); rintro e w30 ⟨rfl, hb⟩; have n0_ := Aside0.mk (blk_below (g := gb460) (o := .cells #[.int .i64 a0_0, .slice A0_1 l0_1.length c0_1, .slice (some ad465) l0_2.length c0_2, .slice A0_3 l0_3.length c0_3] 42 (0, 0)) (by (with_reducible repeat (first | refine blk_drewN ?_ _ | refine blk_drew ?_ | refine blk_alloc ?_ _)); exact BK460.out) hb); have n1_ := Aside0.mk (blk_below (g := gb461) (o := .cells #[.slice A1_0 l1_0.length c1_0, .int .i64 a1_1, .int .i64 a1_2, .int .i64 a1_3] 66 (0, 0)) (by (with_reducible repeat (first | refine blk_drewN ?_ _ | refine blk_drew ?_ | refine blk_alloc ?_ _)); exact BK461.out) hb); have n2_ := Aside0.mk (below_step (by repeat (first | (with_reducible first | exact HB.out | apply below_alloc | apply pw_below_drewN | apply below_drew1 | refine below_set ?_ GE460.out | refine below_set ?_ GE461.out) | exact HB.out)) hb); clear BK460; clear BK461; clear HB; have BK460 := n0_; have BK461 := n1_; have HB := n2_; clear n0_ n1_ n2_; (try clear hb); (try clear hb2); (try clear hk); (try clear hi))); try go_wp2_with (first | (go_at_call 63; (with_reducible refine (dioramaref05_Right.calls k2 (rdOf ByteArray.empty l0_2 x6_2) true _ A26.out).mono ?_); rintro e w30 ⟨rfl, hb⟩; have n0_ := Aside0.mk (blk_below (g := gb460) (o := .cells #[.int .i64 a0_0, .slice A0_1 l0_1.length c0_1, .slice (some ad465) l0_2.length c0_2, .slice A0_3 l0_3.length c0_3] 42 (0, 0)) (by (with_reducible repeat (first | refine blk_drewN ?_ _ | refine blk_drew ?_ | refine blk_alloc ?_ _)); exact BK460.out) hb); have n1_ := Aside0.mk (blk_below (g := gb461) (o := .cells #[.slice A1_0 l1_0.length c1_0, .int .i64 a1_1, .int .i64 a1_2, .int .i64 a1_3] 66 (0, 0)) (by (with_reducible repeat (first | refine blk_drewN ?_ _ | refine blk_drew ?_ | refine blk_alloc ?_ _)); exact BK461.out) hb); have n2_ := Aside0.mk (below_step (by repeat (first | (with_reducible first | exact HB.out | apply below_alloc | apply pw_below_drewN | apply below_drew1 | refine below_set ?_ GE460.out | refine below_set ?_ GE461.out) | exact HB.out)) hb); clear BK460; clear BK461; clear HB; have BK460 := n0_; have BK461 := n1_; have HB := n2_; clear n0_ n1_ n2_; (try clear hb); (try clear hb2); (try clear hk); (try clear hi))))
           go_roundg k2
           case measure => have := HK1.out; have := HK2.out; omega
           case rel => exact ⟨(wrap64 (x6_2 + 1)), (by first | rfl | (simp; done) | (simp [*]; done)), H', ⟨by have := HK1.out; have := HK2.out; omega⟩, ⟨by (with_reducible repeat (first | refine blk_drewN ?_ _ | refine blk_drew ?_ | refine blk_alloc ?_ _)); exact BK460.out⟩, ⟨by (with_reducible repeat (first | refine blk_drewN ?_ _ | refine blk_drew ?_ | refine blk_alloc ?_ _)); exact BK461.out⟩, ⟨by repeat (first | (with_reducible first | exact HB.out | apply below_alloc | apply pw_below_drewN | apply below_drew1 | refine below_set ?_ GE460.out | refine below_set ?_ GE461.out) | exact HB.out)⟩⟩
          ·replace c27 := Bool.eq_false_iff.mpr c27
           subst c27
           have H1 : (some 11) = some r := by rw [if_neg (show ¬ (false = true) by decide)] at H; exact H
           clear H
           have H := H1
           clear H1
           obtain rfl := Option.some.inj H
           have hnb31 := NB460_461.out
           have hnc31 := NB461_460.out
           have hcz32_0 : wr.cell? ⟨gb460, 0, none⟩ = some (.int .i64 a0_0) := (blk_cell BK460.out 0).trans rfl
           have hcz32_1 : wr.cell? ⟨gb460, 1, none⟩ = some (.slice A0_1 l0_1.length c0_1) := (blk_cell BK460.out 1).trans rfl
           have hcz32_2 : wr.cell? ⟨gb460, 2, none⟩ = some (.slice A0_2 l0_2.length c0_2) := (blk_cell BK460.out 2).trans rfl
           have hcz32_3 : wr.cell? ⟨gb460, 3, none⟩ = some (.slice A0_3 l0_3.length c0_3) := (blk_cell BK460.out 3).trans rfl
           have hfz32_0 := blk_frozen BK460.out 0
           have hfz32_1 := blk_frozen BK460.out 1
           have hfz32_2 := blk_frozen BK460.out 2
           have hfz32_3 := blk_frozen BK460.out 3
           have p465 : 0 ≤ (x6_2 : Int) := of_decide_eq_true (by first | (with_reducible assumption) | assumption)
           have q465 : x6_2 < (l0_2.length : Int) := of_decide_eq_true (by first | (with_reducible assumption) | assumption)
           obtain ⟨ad465, e465, hx465_0⟩ := Kd.at_string HR0_2.out x6_2 p465 q465
           cases e465
           replace hx465_0 := (HB.out.cell (World.block_lt_of_cell? w _ hx465_0)).trans hx465_0
           replace p465 := eq_true p465
           replace q465 := eq_true q465
           go_wp2_with (first | (go_at_call 63; (with_reducible refine (dioramaref05_Right.calls k2 (rdOf ByteArray.empty l0_2 x6_2) false _ A26.out).mono ?_); rintro e w33 ⟨rfl, hb⟩; have n0_ := Aside0.mk (blk_below (g := gb460) (o := .cells #[.int .i64 a0_0, .slice A0_1 l0_1.length c0_1, .slice (some ad465) l0_2.length c0_2, .slice A0_3 l0_3.length c0_3] 42 (0, 0)) (by (with_reducible repeat (first | refine blk_drewN ?_ _ | refine blk_drew ?_ | refine blk_alloc ?_ _)); exact BK460.out) hb); have n1_ := Aside0.mk (blk_below (g := gb461) (o := .cells #[.slice A1_0 l1_0.length c1_0, .int .i64 a1_1, .int .i64 a1_2, .int .i64 a1_3] 66 (0, 0)) (by (with_reducible repeat (first | refine blk_drewN ?_ _ | refine blk_drew ?_ | refine blk_alloc ?_ _)); exact BK461.out) hb); have n2_ := Aside0.mk (below_step (by repeat (first | (with_reducible first | exact HB.out | apply below_alloc | apply pw_below_drewN | apply below_drew1 | refine below_set ?_ GE460.out | refine below_set ?_ GE461.out) | exact HB.out)) hb); clear BK460; clear BK461; clear HB; have BK460 := n0_; have BK461 := n1_; have HB := n2_; clear n0_ n1_ n2_; (try clear hb); (try clear hb2); (try clear hk); (try clear hi)))
           repeat (go_quiet (first | (go_at_call 63; (with_reducible refine (dioramaref05_Right.calls k2 (rdOf ByteArray.empty l0_2 x6_2) false _ A26.out).mono ?_); rintro e w33 ⟨rfl, hb⟩; have n0_ := Aside0.mk (blk_below (g := gb460) (o := .cells #[.int .i64 a0_0, .slice A0_1 l0_1.length c0_1, .slice (some ad465) l0_2.length c0_2, .slice A0_3 l0_3.length c0_3] 42 (0, 0)) (by (with_reducible repeat (first | refine blk_drewN ?_ _ | refine blk_drew ?_ | refine blk_alloc ?_ _)); exact BK460.out) hb); have n1_ := Aside0.mk (blk_below (g := gb461) (o := .cells #[.slice A1_0 l1_0.length c1_0, .int .i64 a1_1, .int .i64 a1_2, .int .i64 a1_3] 66 (0, 0)) (by (with_reducible repeat (first | refine blk_drewN ?_ _ | refine blk_drew ?_ | refine blk_alloc ?_ _)); exact BK461.out) hb); have n2_ := Aside0.mk (below_step (by repeat (first | (with_reducible first | exact HB.out | apply below_alloc | apply pw_below_drewN | apply below_drew1 | refine below_set ?_ GE460.out | refine below_set ?_ GE461.out) | exact HB.out)) hb); clear BK460; clear BK461; clear HB; have BK460 := n0_; have BK461 := n1_; have HB := n2_; clear n0_ n1_ n2_; (try clear hb); (try clear hb2); (try clear hk); (try clear hi))); try go_wp2_with (first | (go_at_call 63; (with_reducible refine (dioramaref05_Right.calls k2 (rdOf ByteArray.empty l0_2 x6_2) false _ A26.out).mono ?_); rintro e w33 ⟨rfl, hb⟩; have n0_ := Aside0.mk (blk_below (g := gb460) (o := .cells #[.int .i64 a0_0, .slice A0_1 l0_1.length c0_1, .slice (some ad465) l0_2.length c0_2, .slice A0_3 l0_3.length c0_3] 42 (0, 0)) (by (with_reducible repeat (first | refine blk_drewN ?_ _ | refine blk_drew ?_ | refine blk_alloc ?_ _)); exact BK460.out) hb); have n1_ := Aside0.mk (blk_below (g := gb461) (o := .cells #[.slice A1_0 l1_0.length c1_0, .int .i64 a1_1, .int .i64 a1_2, .int .i64 a1_3] 66 (0, 0)) (by (with_reducible repeat (first | refine blk_drewN ?_ _ | refine blk_drew ?_ | refine blk_alloc ?_ _)); exact BK461.out) hb); have n2_ := Aside0.mk (below_step (by repeat (first | (with_reducible first | exact HB.out | apply below_alloc | apply pw_below_drewN | apply below_drew1 | refine below_set ?_ GE460.out | refine below_set ?_ GE461.out) | exact HB.out)) hb); clear BK460; clear BK461; clear HB; have BK460 := n0_; have BK461 := n1_; have HB := n2_; clear n0_ n1_ n2_; (try clear hb); (try clear hb2); (try clear hk); (try clear hi))))
           go_ret
           exact ⟨by first | rfl | (simp [errW_none, errW_some] <;> rfl) | (simp [*, errW_none, errW_some] <;> rfl), by repeat (first | (with_reducible first | exact HB.out | apply below_alloc | apply pw_below_drewN | apply below_drew1 | refine below_set ?_ GE460.out | refine below_set ?_ GE461.out) | exact HB.out)⟩
         ·rw [if_neg c25] at H
          exact absurd H (by simp)
        ·rw [if_neg c24] at H
         have c24b0 : decide (x6_2 < (l0_2.length : Int)) = false := decide_eq_false c24
         clear c24
         by_cases c34 : (l0_3.length : Int) < a1_2
         ·rw [if_pos c34] at H
          have c34b0 : decide ((l0_3.length : Int) < a1_2) = true := decide_eq_true c34
          clear c34
          obtain rfl := Option.some.inj H
          have hnb35 := NB460_461.out
          have hnc35 := NB461_460.out
          have hcz36_0 : wr.cell? ⟨gb460, 0, none⟩ = some (.int .i64 a0_0) := (blk_cell BK460.out 0).trans rfl
          have hcz36_1 : wr.cell? ⟨gb460, 1, none⟩ = some (.slice A0_1 l0_1.length c0_1) := (blk_cell BK460.out 1).trans rfl
          have hcz36_2 : wr.cell? ⟨gb460, 2, none⟩ = some (.slice A0_2 l0_2.length c0_2) := (blk_cell BK460.out 2).trans rfl
          have hcz36_3 : wr.cell? ⟨gb460, 3, none⟩ = some (.slice A0_3 l0_3.length c0_3) := (blk_cell BK460.out 3).trans rfl
          have hfz36_0 := blk_frozen BK460.out 0
          have hfz36_1 := blk_frozen BK460.out 1
          have hfz36_2 := blk_frozen BK460.out 2
          have hfz36_3 := blk_frozen BK460.out 3
          have hcz37_0 : wr.cell? ⟨gb461, 0, none⟩ = some (.slice A1_0 l1_0.length c1_0) := (blk_cell BK461.out 0).trans rfl
          have hcz37_1 : wr.cell? ⟨gb461, 1, none⟩ = some (.int .i64 a1_1) := (blk_cell BK461.out 1).trans rfl
          have hcz37_2 : wr.cell? ⟨gb461, 2, none⟩ = some (.int .i64 a1_2) := (blk_cell BK461.out 2).trans rfl
          have hcz37_3 : wr.cell? ⟨gb461, 3, none⟩ = some (.int .i64 a1_3) := (blk_cell BK461.out 3).trans rfl
          have hfz37_0 := blk_frozen BK461.out 0
          have hfz37_1 := blk_frozen BK461.out 1
          have hfz37_2 := blk_frozen BK461.out 2
          have hfz37_3 := blk_frozen BK461.out 3
          go_wp2
          repeat (go_quiet (fail); try go_wp2)
          go_ret
          exact ⟨by first | rfl | (simp [errW_none, errW_some] <;> rfl) | (simp [*, errW_none, errW_some] <;> rfl), by repeat (first | (with_reducible first | exact HB.out | apply below_alloc | apply pw_below_drewN | apply below_drew1 | refine below_set ?_ GE460.out | refine below_set ?_ GE461.out) | exact HB.out)⟩
         ·rw [if_neg c34] at H
          have c34b0 : decide ((l0_3.length : Int) < a1_2) = false := decide_eq_false c34
          clear c34
          by_cases c38 : a1_3 ≥ 0
          ·rw [if_pos c38] at H
           have c38b0 : decide (0 ≤ a1_3) = true := decide_eq_true c38
           clear c38
           by_cases c39 : (l0_3.length : Int) > a1_3
           ·rw [if_pos c39] at H
            have c39b0 : decide (a1_3 < (l0_3.length : Int)) = true := decide_eq_true c39
            clear c39
            obtain rfl := Option.some.inj H
            have hnb40 := NB460_461.out
            have hnc40 := NB461_460.out
            have hcz41_0 : wr.cell? ⟨gb460, 0, none⟩ = some (.int .i64 a0_0) := (blk_cell BK460.out 0).trans rfl
            have hcz41_1 : wr.cell? ⟨gb460, 1, none⟩ = some (.slice A0_1 l0_1.length c0_1) := (blk_cell BK460.out 1).trans rfl
            have hcz41_2 : wr.cell? ⟨gb460, 2, none⟩ = some (.slice A0_2 l0_2.length c0_2) := (blk_cell BK460.out 2).trans rfl
            have hcz41_3 : wr.cell? ⟨gb460, 3, none⟩ = some (.slice A0_3 l0_3.length c0_3) := (blk_cell BK460.out 3).trans rfl
            have hfz41_0 := blk_frozen BK460.out 0
            have hfz41_1 := blk_frozen BK460.out 1
            have hfz41_2 := blk_frozen BK460.out 2
            have hfz41_3 := blk_frozen BK460.out 3
            have hcz42_0 : wr.cell? ⟨gb461, 0, none⟩ = some (.slice A1_0 l1_0.length c1_0) := (blk_cell BK461.out 0).trans rfl
            have hcz42_1 : wr.cell? ⟨gb461, 1, none⟩ = some (.int .i64 a1_1) := (blk_cell BK461.out 1).trans rfl
            have hcz42_2 : wr.cell? ⟨gb461, 2, none⟩ = some (.int .i64 a1_2) := (blk_cell BK461.out 2).trans rfl
            have hcz42_3 : wr.cell? ⟨gb461, 3, none⟩ = some (.int .i64 a1_3) := (blk_cell BK461.out 3).trans rfl
            have hfz42_0 := blk_frozen BK461.out 0
            have hfz42_1 := blk_frozen BK461.out 1
            have hfz42_2 := blk_frozen BK461.out 2
            have hfz42_3 := blk_frozen BK461.out 3
            go_wp2
            repeat (go_quiet (fail); try go_wp2)
            go_ret
            exact ⟨by first | rfl | (simp [errW_none, errW_some] <;> rfl) | (simp [*, errW_none, errW_some] <;> rfl), by repeat (first | (with_reducible first | exact HB.out | apply below_alloc | apply pw_below_drewN | apply below_drew1 | refine below_set ?_ GE460.out | refine below_set ?_ GE461.out) | exact HB.out)⟩
           ·rw [if_neg c39] at H
            have c39b0 : decide (a1_3 < (l0_3.length : Int)) = false := decide_eq_false c39
            clear c39
            obtain rfl := Option.some.inj H
            have hnb43 := NB460_461.out
            have hnc43 := NB461_460.out
            have hcz44_0 : wr.cell? ⟨gb460, 0, none⟩ = some (.int .i64 a0_0) := (blk_cell BK460.out 0).trans rfl
            have hcz44_1 : wr.cell? ⟨gb460, 1, none⟩ = some (.slice A0_1 l0_1.length c0_1) := (blk_cell BK460.out 1).trans rfl
            have hcz44_2 : wr.cell? ⟨gb460, 2, none⟩ = some (.slice A0_2 l0_2.length c0_2) := (blk_cell BK460.out 2).trans rfl
            have hcz44_3 : wr.cell? ⟨gb460, 3, none⟩ = some (.slice A0_3 l0_3.length c0_3) := (blk_cell BK460.out 3).trans rfl
            have hfz44_0 := blk_frozen BK460.out 0
            have hfz44_1 := blk_frozen BK460.out 1
            have hfz44_2 := blk_frozen BK460.out 2
            have hfz44_3 := blk_frozen BK460.out 3
            have hcz45_0 : wr.cell? ⟨gb461, 0, none⟩ = some (.slice A1_0 l1_0.length c1_0) := (blk_cell BK461.out 0).trans rfl
            have hcz45_1 : wr.cell? ⟨gb461, 1, none⟩ = some (.int .i64 a1_1) := (blk_cell BK461.out 1).trans rfl
            have hcz45_2 : wr.cell? ⟨gb461, 2, none⟩ = some (.int .i64 a1_2) := (blk_cell BK461.out 2).trans rfl
            have hcz45_3 : wr.cell? ⟨gb461, 3, none⟩ = some (.int .i64 a1_3) := (blk_cell BK461.out 3).trans rfl
            have hfz45_0 := blk_frozen BK461.out 0
            have hfz45_1 := blk_frozen BK461.out 1
            have hfz45_2 := blk_frozen BK461.out 2
            have hfz45_3 := blk_frozen BK461.out 3
            go_wp2
            repeat (go_quiet (fail); try go_wp2)
            go_ret
            exact ⟨by first | rfl | (simp [errW_none, errW_some] <;> rfl) | (simp [*, errW_none, errW_some] <;> rfl), by repeat (first | (with_reducible first | exact HB.out | apply below_alloc | apply pw_below_drewN | apply below_drew1 | refine below_set ?_ GE460.out | refine below_set ?_ GE461.out) | exact HB.out)⟩
          ·rw [if_neg c38] at H
           have c38b0 : decide (0 ≤ a1_3) = false := decide_eq_false c38
           clear c38
           obtain rfl := Option.some.inj H
           have hnb46 := NB460_461.out
           have hnc46 := NB461_460.out
           have hcz47_0 : wr.cell? ⟨gb460, 0, none⟩ = some (.int .i64 a0_0) := (blk_cell BK460.out 0).trans rfl
           have hcz47_1 : wr.cell? ⟨gb460, 1, none⟩ = some (.slice A0_1 l0_1.length c0_1) := (blk_cell BK460.out 1).trans rfl
           have hcz47_2 : wr.cell? ⟨gb460, 2, none⟩ = some (.slice A0_2 l0_2.length c0_2) := (blk_cell BK460.out 2).trans rfl
           have hcz47_3 : wr.cell? ⟨gb460, 3, none⟩ = some (.slice A0_3 l0_3.length c0_3) := (blk_cell BK460.out 3).trans rfl
           have hfz47_0 := blk_frozen BK460.out 0
           have hfz47_1 := blk_frozen BK460.out 1
           have hfz47_2 := blk_frozen BK460.out 2
           have hfz47_3 := blk_frozen BK460.out 3
           have hcz48_0 : wr.cell? ⟨gb461, 0, none⟩ = some (.slice A1_0 l1_0.length c1_0) := (blk_cell BK461.out 0).trans rfl
           have hcz48_1 : wr.cell? ⟨gb461, 1, none⟩ = some (.int .i64 a1_1) := (blk_cell BK461.out 1).trans rfl
           have hcz48_2 : wr.cell? ⟨gb461, 2, none⟩ = some (.int .i64 a1_2) := (blk_cell BK461.out 2).trans rfl
           have hcz48_3 : wr.cell? ⟨gb461, 3, none⟩ = some (.int .i64 a1_3) := (blk_cell BK461.out 3).trans rfl
           have hfz48_0 := blk_frozen BK461.out 0
           have hfz48_1 := blk_frozen BK461.out 1
           have hfz48_2 := blk_frozen BK461.out 2
           have hfz48_3 := blk_frozen BK461.out 3
           go_wp2
           repeat (go_quiet (fail); try go_wp2)
           go_ret
           exact ⟨by first | rfl | (simp [errW_none, errW_some] <;> rfl) | (simp [*, errW_none, errW_some] <;> rfl), by repeat (first | (with_reducible first | exact HB.out | apply below_alloc | apply pw_below_drewN | apply below_drew1 | refine below_set ?_ GE460.out | refine below_set ?_ GE461.out) | exact HB.out)⟩
     ·rw [if_neg c20] at H
      have c20b0 : ((l0_2.length : Int) == a1_1) = false := beq_eq_false_iff_ne.mpr c20
      have c20b1 : ((l0_2.length : Int) != a1_1) = true := bne_iff_ne.mpr c20
      obtain rfl := Option.some.inj H
      have hnb49 := NB460_461.out
      have hnc49 := NB461_460.out
      have hcz50_0 : wr.cell? ⟨gb460, 0, none⟩ = some (.int .i64 a0_0) := (blk_cell BK460.out 0).trans rfl
      have hcz50_1 : wr.cell? ⟨gb460, 1, none⟩ = some (.slice A0_1 l0_1.length c0_1) := (blk_cell BK460.out 1).trans rfl
      have hcz50_2 : wr.cell? ⟨gb460, 2, none⟩ = some (.slice A0_2 l0_2.length c0_2) := (blk_cell BK460.out 2).trans rfl
      have hcz50_3 : wr.cell? ⟨gb460, 3, none⟩ = some (.slice A0_3 l0_3.length c0_3) := (blk_cell BK460.out 3).trans rfl
      have hfz50_0 := blk_frozen BK460.out 0
      have hfz50_1 := blk_frozen BK460.out 1
      have hfz50_2 := blk_frozen BK460.out 2
      have hfz50_3 := blk_frozen BK460.out 3
      have hcz51_0 : wr.cell? ⟨gb461, 0, none⟩ = some (.slice A1_0 l1_0.length c1_0) := (blk_cell BK461.out 0).trans rfl
      have hcz51_1 : wr.cell? ⟨gb461, 1, none⟩ = some (.int .i64 a1_1) := (blk_cell BK461.out 1).trans rfl
      have hcz51_2 : wr.cell? ⟨gb461, 2, none⟩ = some (.int .i64 a1_2) := (blk_cell BK461.out 2).trans rfl
      have hcz51_3 : wr.cell? ⟨gb461, 3, none⟩ = some (.int .i64 a1_3) := (blk_cell BK461.out 3).trans rfl
      have hfz51_0 := blk_frozen BK461.out 0
      have hfz51_1 := blk_frozen BK461.out 1
      have hfz51_2 := blk_frozen BK461.out 2
      have hfz51_3 := blk_frozen BK461.out 3
      go_wp2
      repeat (go_quiet (fail); try go_wp2)
      go_ret
      exact ⟨by first | rfl | (simp [errW_none, errW_some] <;> rfl) | (simp [*, errW_none, errW_some] <;> rfl), by repeat (first | (with_reducible first | exact HB.out | apply below_alloc | apply pw_below_drewN | apply below_drew1 | refine below_set ?_ GE460.out | refine below_set ?_ GE461.out) | exact HB.out)⟩
 ·rw [if_neg c3] at H
  have c3b0 : ((l0_1.length : Int) == (l1_0.length : Int)) = false := beq_eq_false_iff_ne.mpr c3
  have c3b1 : ((l0_1.length : Int) != (l1_0.length : Int)) = true := bne_iff_ne.mpr c3
  have c3b2 : (l0_1.length == l1_0.length) = false := by first | simpa using c3 | (simp at c3 ⊢; omega)
  obtain rfl := Option.some.inj H
  go_enter Tryz.func33, Tryz.ntmps33
  go_wp2_with (first | ((with_reducible refine gate_dst (N := 2) rfl ?_); (try (refine gate_guard (by rfl) ?_; dsimp only)); refine box_event ?hg (N := 2) ?hd (cs := #[.int .i64 a0_0, .slice A0_1 l0_1.length c0_1, .slice A0_2 l0_2.length c0_2, .slice A0_3 l0_3.length c0_3]) (t := 42) ?hr ?_; (case hd => rfl); (case hg => rfl); (case hr => first | (go_simp; done) | (go_simp; rfl)); intro gb460 hg w52 hbox hb; have n0_ := Aside0.mk (below_step (by repeat (first | (with_reducible first | exact HB.out | apply below_alloc | apply pw_below_drewN | apply below_drew1) | exact HB.out)) hb); have n1_ := Aside0.mk (hbox); have n2_ := Aside0.mk ((by rw [hg]; exact (below_size (by repeat (first | (with_reducible first | exact HB.out | apply below_alloc | apply pw_below_drewN | apply below_drew1) | exact HB.out))) : w.heap.size ≤ gb460)); have n3_ := Aside0.mk ((by rw [hg]; exact (below_size (by repeat (first | (with_reducible first | exact HB.out | apply below_alloc | apply pw_below_drewN | apply below_drew1) | exact HB.out))) : w.heap.size ≤ gb460)); clear HB; have HB := n0_; have BK460 := n1_; have GW460 := n2_; have GE460 := n3_; clear n0_ n1_ n2_ n3_; clear hb hbox hg) | ((with_reducible refine gate_dst (N := 3) rfl ?_); (try (refine gate_guard (by rfl) ?_; dsimp only)); refine box_event ?hg (N := 3) ?hd (cs := #[.slice A1_0 l1_0.length c1_0, .int .i64 a1_1, .int .i64 a1_2, .int .i64 a1_3]) (t := 66) ?hr ?_; (case hd => rfl); (case hg => rfl); (case hr => first | (go_simp; done) | (go_simp; rfl)); intro gb461 hg w53 hbox hb; have n0_ := Aside0.mk (blk_below (g := gb460) (o := .cells #[.int .i64 a0_0, .slice A0_1 l0_1.length c0_1, .slice A0_2 l0_2.length c0_2, .slice A0_3 l0_3.length c0_3] 42 (0, 0)) (by (with_reducible repeat (first | refine blk_drewN ?_ _ | refine blk_drew ?_ | refine blk_alloc ?_ _)); exact BK460.out) hb); have n1_ := Aside0.mk (below_step (by repeat (first | (with_reducible first | exact HB.out | apply below_alloc | apply pw_below_drewN | apply below_drew1 | refine below_set ?_ GE460.out) | exact HB.out)) hb); have n2_ := Aside0.mk (hbox); have n3_ := Aside0.mk ((by rw [hg]; exact (below_size (by repeat (first | (with_reducible first | exact HB.out | apply below_alloc | apply pw_below_drewN | apply below_drew1 | refine below_set ?_ GE460.out) | exact HB.out))) : w.heap.size ≤ gb461)); have n4_ := Aside0.mk ((by rw [hg]; exact (below_size (by repeat (first | (with_reducible first | exact HB.out | apply below_alloc | apply pw_below_drewN | apply below_drew1 | refine below_set ?_ GE460.out) | exact HB.out))) : w.heap.size ≤ gb461)); have n5_ := Aside0.mk ((by rw [hg]; exact Nat.ne_of_lt (blk_lt (g := gb460) (o := .cells #[.int .i64 a0_0, .slice A0_1 l0_1.length c0_1, .slice A0_2 l0_2.length c0_2, .slice A0_3 l0_3.length c0_3] 42 (0, 0)) (by (with_reducible repeat (first | refine blk_drewN ?_ _ | refine blk_drew ?_ | refine blk_alloc ?_ _)); exact BK460.out)) : gb460 ≠ gb461)); have n6_ := Aside0.mk ((by rw [hg]; exact Nat.ne_of_gt (blk_lt (g := gb460) (o := .cells #[.int .i64 a0_0, .slice A0_1 l0_1.length c0_1, .slice A0_2 l0_2.length c0_2, .slice A0_3 l0_3.length c0_3] 42 (0, 0)) (by (with_reducible repeat (first | refine blk_drewN ?_ _ | refine blk_drew ?_ | refine blk_alloc ?_ _)); exact BK460.out)) : gb461 ≠ gb460)); clear BK460; clear HB; have BK460 := n0_; have HB := n1_; have BK461 := n2_; have GW461 := n3_; have GE461 := n4_; have NB460_461 := n5_; have NB461_460 := n6_; clear n0_ n1_ n2_ n3_ n4_ n5_ n6_; clear hb hbox hg; have hnb54 := NB460_461.out; have hnc54 := NB461_460.out; have hcz55_0 : w53.cell? ⟨gb460, 0, none⟩ = some (.int .i64 a0_0) := (blk_cell BK460.out 0).trans rfl; have hcz55_1 : w53.cell? ⟨gb460, 1, none⟩ = some (.slice A0_1 l0_1.length c0_1) := (blk_cell BK460.out 1).trans rfl; have hcz55_2 : w53.cell? ⟨gb460, 2, none⟩ = some (.slice A0_2 l0_2.length c0_2) := (blk_cell BK460.out 2).trans rfl; have hcz55_3 : w53.cell? ⟨gb460, 3, none⟩ = some (.slice A0_3 l0_3.length c0_3) := (blk_cell BK460.out 3).trans rfl; have hfz55_0 := blk_frozen BK460.out 0; have hfz55_1 := blk_frozen BK460.out 1; have hfz55_2 := blk_frozen BK460.out 2; have hfz55_3 := blk_frozen BK460.out 3; have hcz56_0 : w53.cell? ⟨gb461, 0, none⟩ = some (.slice A1_0 l1_0.length c1_0) := (blk_cell BK461.out 0).trans rfl; have hcz56_1 : w53.cell? ⟨gb461, 1, none⟩ = some (.int .i64 a1_1) := (blk_cell BK461.out 1).trans rfl; have hcz56_2 : w53.cell? ⟨gb461, 2, none⟩ = some (.int .i64 a1_2) := (blk_cell BK461.out 2).trans rfl; have hcz56_3 : w53.cell? ⟨gb461, 3, none⟩ = some (.int .i64 a1_3) := (blk_cell BK461.out 3).trans rfl; have hfz56_0 := blk_frozen BK461.out 0; have hfz56_1 := blk_frozen BK461.out 1; have hfz56_2 := blk_frozen BK461.out 2; have hfz56_3 := blk_frozen BK461.out 3))
  repeat (go_quiet (first | ((with_reducible refine gate_dst (N := 2) rfl ?_); (try (refine gate_guard (by rfl) ?_; dsimp only)); refine box_event ?hg (N := 2) ?hd (cs := #[.int .i64 a0_0, .slice A0_1 l0_1.length c0_1, .slice A0_2 l0_2.length c0_2, .slice A0_3 l0_3.length c0_3]) (t := 42) ?hr ?_; (case hd => rfl); (case hg => rfl); (case hr => first | (go_simp; done) | (go_simp; rfl)); intro gb460 hg w52 hbox hb; have n0_ := Aside0.mk (below_step (by repeat (first | (with_reducible first | exact HB.out | apply below_alloc | apply pw_below_drewN | apply below_drew1) | exact HB.out)) hb); have n1_ := Aside0.mk (hbox); have n2_ := Aside0.mk ((by rw [hg]; exact (below_size (by repeat (first | (with_reducible first | exact HB.out | apply below_alloc | apply pw_below_drewN | apply below_drew1) | exact HB.out))) : w.heap.size ≤ gb460)); have n3_ := Aside0.mk ((by rw [hg]; exact (below_size (by repeat (first | (with_reducible first | exact HB.out | apply below_alloc | apply pw_below_drewN | apply below_drew1) | exact HB.out))) : w.heap.size ≤ gb460)); clear HB; have HB := n0_; have BK460 := n1_; have GW460 := n2_; have GE460 := n3_; clear n0_ n1_ n2_ n3_; clear hb hbox hg) | ((with_reducible refine gate_dst (N := 3) rfl ?_); (try (refine gate_guard (by rfl) ?_; dsimp only)); refine box_event ?hg (N := 3) ?hd (cs := #[.slice A1_0 l1_0.length c1_0, .int .i64 a1_1, .int .i64 a1_2, .int .i64 a1_3]) (t := 66) ?hr ?_; (case hd => rfl); (case hg => rfl); (case hr => first | (go_simp; done) | (go_simp; rfl)); intro gb461 hg w53 hbox hb; have n0_ := Aside0.mk (blk_below (g := gb460) (o := .cells #[.int .i64 a0_0, .slice A0_1 l0_1.length c0_1, .slice A0_2 l0_2.length c0_2, .slice A0_3 l0_3.length c0_3] 42 (0, 0)) (by (with_reducible repeat (first | refine blk_drewN ?_ _ | refine blk_drew ?_ | refine blk_alloc ?_ _)); exact BK460.out) hb); have n1_ := Aside0.mk (below_step (by repeat (first | (with_reducible first | exact HB.out | apply below_alloc | apply pw_below_drewN | apply below_drew1 | refine below_set ?_ GE460.out) | exact HB.out)) hb); have n2_ := Aside0.mk (hbox); have n3_ := Aside0.mk ((by rw [hg]; exact (below_size (by repeat (first | (with_reducible first | exact HB.out | apply below_alloc | apply pw_below_drewN | apply below_drew1 | refine below_set ?_ GE460.out) | exact HB.out))) : w.heap.size ≤ gb461)); have n4_ := Aside0.mk ((by rw [hg]; exact (below_size (by repeat (first | (with_reducible first | exact HB.out | apply below_alloc | apply pw_below_drewN | apply below_drew1 | refine below_set ?_ GE460.out) | exact HB.out))) : w.heap.size ≤ gb461)); have n5_ := Aside0.mk ((by rw [hg]; exact Nat.ne_of_lt (blk_lt (g := gb460) (o := .cells #[.int .i64 a0_0, .slice A0_1 l0_1.length c0_1, .slice A0_2 l0_2.length c0_2, .slice A0_3 l0_3.length c0_3] 42 (0, 0)) (by (with_reducible repeat (first | refine blk_drewN ?_ _ | refine blk_drew ?_ | refine blk_alloc ?_ _)); exact BK460.out)) : gb460 ≠ gb461)); have n6_ := Aside0.mk ((by rw [hg]; exact Nat.ne_of_gt (blk_lt (g := gb460) (o := .cells #[.int .i64 a0_0, .slice A0_1 l0_1.length c0_1, .slice A0_2 l0_2.length c0_2, .slice A0_3 l0_3.length c0_3] 42 (0, 0)) (by (with_reducible repeat (first | refine blk_drewN ?_ _ | refine blk_drew ?_ | refine blk_alloc ?_ _)); exact BK460.out)) : gb461 ≠ gb460)); clear BK460; clear HB; have BK460 := n0_; have HB := n1_; have BK461 := n2_; have GW461 := n3_; have GE461 := n4_; have NB460_461 := n5_; have NB461_460 := n6_; clear n0_ n1_ n2_ n3_ n4_ n5_ n6_; clear hb hbox hg; have hnb54 := NB460_461.out; have hnc54 := NB461_460.out; have hcz55_0 : w53.cell? ⟨gb460, 0, none⟩ = some (.int .i64 a0_0) := (blk_cell BK460.out 0).trans rfl; have hcz55_1 : w53.cell? ⟨gb460, 1, none⟩ = some (.slice A0_1 l0_1.length c0_1) := (blk_cell BK460.out 1).trans rfl; have hcz55_2 : w53.cell? ⟨gb460, 2, none⟩ = some (.slice A0_2 l0_2.length c0_2) := (blk_cell BK460.out 2).trans rfl; have hcz55_3 : w53.cell? ⟨gb460, 3, none⟩ = some (.slice A0_3 l0_3.length c0_3) := (blk_cell BK460.out 3).trans rfl; have hfz55_0 := blk_frozen BK460.out 0; have hfz55_1 := blk_frozen BK460.out 1; have hfz55_2 := blk_frozen BK460.out 2; have hfz55_3 := blk_frozen BK460.out 3; have hcz56_0 : w53.cell? ⟨gb461, 0, none⟩ = some (.slice A1_0 l1_0.length c1_0) := (blk_cell BK461.out 0).trans rfl; have hcz56_1 : w53.cell? ⟨gb461, 1, none⟩ = some (.int .i64 a1_1) := (blk_cell BK461.out 1).trans rfl; have hcz56_2 : w53.cell? ⟨gb461, 2, none⟩ = some (.int .i64 a1_2) := (blk_cell BK461.out 2).trans rfl; have hcz56_3 : w53.cell? ⟨gb461, 3, none⟩ = some (.int .i64 a1_3) := (blk_cell BK461.out 3).trans rfl; have hfz56_0 := blk_frozen BK461.out 0; have hfz56_1 := blk_frozen BK461.out 1; have hfz56_2 := blk_frozen BK461.out 2; have hfz56_3 := blk_frozen BK461.out 3)); try go_wp2_with (first | ((with_reducible refine gate_dst (N := 2) rfl ?_); (try (refine gate_guard (by rfl) ?_; dsimp only)); refine box_event ?hg (N := 2) ?hd (cs := #[.int .i64 a0_0, .slice A0_1 l0_1.length c0_1, .slice A0_2 l0_2.length c0_2, .slice A0_3 l0_3.length c0_3]) (t := 42) ?hr ?_; (case hd => rfl); (case hg => rfl); (case hr => first | (go_simp; done) | (go_simp; rfl)); intro gb460 hg w52 hbox hb; have n0_ := Aside0.mk (below_step (by repeat (first | (with_reducible first | exact HB.out | apply below_alloc | apply pw_below_drewN | apply below_drew1) | exact HB.out)) hb); have n1_ := Aside0.mk (hbox); have n2_ := Aside0.mk ((by rw [hg]; exact (below_size (by repeat (first | (with_reducible first | exact HB.out | apply below_alloc | apply pw_below_drewN | apply below_drew1) | exact HB.out))) : w.heap.size ≤ gb460)); have n3_ := Aside0.mk ((by rw [hg]; exact (below_size (by repeat (first | (with_reducible first | exact HB.out | apply below_alloc | apply pw_below_drewN | apply below_drew1) | exact HB.out))) : w.heap.size ≤ gb460)); clear HB; have HB := n0_; have BK460 := n1_; have GW460 := n2_; have GE460 := n3_; clear n0_ n1_ n2_ n3_; clear hb hbox hg) | ((with_reducible refine gate_dst (N := 3) rfl ?_); (try (refine gate_guard (by rfl) ?_; dsimp only)); refine box_event ?hg (N := 3) ?hd (cs := #[.slice A1_0 l1_0.length c1_0, .int .i64 a1_1, .int .i64 a1_2, .int .i64 a1_3]) (t := 66) ?hr ?_; (case hd => rfl); (case hg => rfl); (case hr => first | (go_simp; done) | (go_simp; rfl)); intro gb461 hg w53 hbox hb; have n0_ := Aside0.mk (blk_below (g := gb460) (o := .cells #[.int .i64 a0_0, .slice A0_1 l0_1.length c0_1, .slice A0_2 l0_2.length c0_2, .slice A0_3 l0_3.length c0_3] 42 (0, 0)) (by (with_reducible repeat (first | refine blk_drewN ?_ _ | refine blk_drew ?_ | refine blk_alloc ?_ _)); exact BK460.out) hb); have n1_ := Aside0.mk (below_step (by repeat (first | (with_reducible first | exact HB.out | apply below_alloc | apply pw_below_drewN | apply below_drew1 | refine below_set ?_ GE460.out) | exact HB.out)) hb); have n2_ := Aside0.mk (hbox); have n3_ := Aside0.mk ((by rw [hg]; exact (below_size (by repeat (first | (with_reducible first | exact HB.out | apply below_alloc | apply pw_below_drewN | apply below_drew1 | refine below_set ?_ GE460.out) | exact HB.out))) : w.heap.size ≤ gb461)); have n4_ := Aside0.mk ((by rw [hg]; exact (below_size (by repeat (first | (with_reducible first | exact HB.out | apply below_alloc | apply pw_below_drewN | apply below_drew1 | refine below_set ?_ GE460.out) | exact HB.out))) : w.heap.size ≤ gb461)); have n5_ := Aside0.mk ((by rw [hg]; exact Nat.ne_of_lt (blk_lt (g := gb460) (o := .cells #[.int .i64 a0_0, .slice A0_1 l0_1.length c0_1, .slice A0_2 l0_2.length c0_2, .slice A0_3 l0_3.length c0_3] 42 (0, 0)) (by (with_reducible repeat (first | refine blk_drewN ?_ _ | refine blk_drew ?_ | refine blk_alloc ?_ _)); exact BK460.out)) : gb460 ≠ gb461)); have n6_ := Aside0.mk ((by rw [hg]; exact Nat.ne_of_gt (blk_lt (g := gb460) (o := .cells #[.int .i64 a0_0, .slice A0_1 l0_1.length c0_1, .slice A0_2 l0_2.length c0_2, .slice A0_3 l0_3.length c0_3] 42 (0, 0)) (by (with_reducible repeat (first | refine blk_drewN ?_ _ | refine blk_drew ?_ | refine blk_alloc ?_ _)); exact BK460.out)) : gb461 ≠ gb460)); clear BK460; clear HB; have BK460 := n0_; have HB := n1_; have BK461 := n2_; have GW461 := n3_; have GE461 := n4_; have NB460_461 := n5_; have NB461_460 := n6_; clear n0_ n1_ n2_ n3_ n4_ n5_ n6_; clear hb hbox hg; have hnb54 := NB460_461.out; have hnc54 := NB461_460.out; have hcz55_0 : w53.cell? ⟨gb460, 0, none⟩ = some (.int .i64 a0_0) := (blk_cell BK460.out 0).trans rfl; have hcz55_1 : w53.cell? ⟨gb460, 1, none⟩ = some (.slice A0_1 l0_1.length c0_1) := (blk_cell BK460.out 1).trans rfl; have hcz55_2 : w53.cell? ⟨gb460, 2, none⟩ = some (.slice A0_2 l0_2.length c0_2) := (blk_cell BK460.out 2).trans rfl; have hcz55_3 : w53.cell? ⟨gb460, 3, none⟩ = some (.slice A0_3 l0_3.length c0_3) := (blk_cell BK460.out 3).trans rfl; have hfz55_0 := blk_frozen BK460.out 0; have hfz55_1 := blk_frozen BK460.out 1; have hfz55_2 := blk_frozen BK460.out 2; have hfz55_3 := blk_frozen BK460.out 3; have hcz56_0 : w53.cell? ⟨gb461, 0, none⟩ = some (.slice A1_0 l1_0.length c1_0) := (blk_cell BK461.out 0).trans rfl; have hcz56_1 : w53.cell? ⟨gb461, 1, none⟩ = some (.int .i64 a1_1) := (blk_cell BK461.out 1).trans rfl; have hcz56_2 : w53.cell? ⟨gb461, 2, none⟩ = some (.int .i64 a1_2) := (blk_cell BK461.out 2).trans rfl; have hcz56_3 : w53.cell? ⟨gb461, 3, none⟩ = some (.int .i64 a1_3) := (blk_cell BK461.out 3).trans rfl; have hfz56_0 := blk_frozen BK461.out 0; have hfz56_1 := blk_frozen BK461.out 1; have hfz56_2 := blk_frozen BK461.out 2; have hfz56_3 := blk_frozen BK461.out 3)))
  go_ret
  exact ⟨by first | rfl | (simp [errW_none, errW_some] <;> rfl) | (simp [*, errW_none, errW_some] <;> rfl), by repeat (first | (with_reducible first | exact HB.out | apply below_alloc | apply pw_below_drewN | apply below_drew1 | refine below_set ?_ GE460.out | refine below_set ?_ GE461.out) | exact HB.out)⟩

end Go.Proofs.YtggldnbhmebcpaaGreatDoor.PDeltaMakes
end
section
namespace Go.Proofs.YtggldnbhmebcpaaGreatDoor.L
open Go.RowKit Go.ChangeShapes Go.WideShapes Go.Proofs.YtggldnbhmebcpaaGreatDoorW.PrintWords Go.Proofs.YtggldnbhmebcpaaGreatDoorW.PrintLast Go.Proofs.YtggldnbhmebcpaaGreatDoorW.PrintMore
attribute [local go_sem] max2_int min2_int max_two min_two max_three min_three max_four min_four
open Go.Proofs.YtggldnbhmebcpaaGreatDoor.PDeltaMakes
theorem wrap32_in (n : Int) (h : -2147483648 ≤ n ∧ n ≤ 2147483647) : wrap32 n = n := by unfold wrap32; omega
theorem wN (m : Nat) (h : m ≤ 1114111) : wrap64 (m : Int) = (m : Int) := wrap64_in _ (by omega)
theorem ob {z : Int} (m : Nat) (h : z = (m : Int)) : UInt8.ofNat z.toNat = UInt8.ofNat m := by rw [h]; rfl
theorem td64 (n : Nat) : Int.tdiv (n : Int) 64 = ((n / 64 : Nat) : Int) := by rw [Int.tdiv_eq_ediv_of_nonneg (by omega)]; omega
theorem td4096 (n : Nat) : Int.tdiv (n : Int) 4096 = ((n / 4096 : Nat) : Int) := by rw [Int.tdiv_eq_ediv_of_nonneg (by omega)]; omega
theorem td262144 (n : Nat) : Int.tdiv (n : Int) 262144 = ((n / 262144 : Nat) : Int) := by rw [Int.tdiv_eq_ediv_of_nonneg (by omega)]; omega
theorem tm64 (m : Nat) : Int.tmod (m : Int) 64 = ((m % 64 : Nat) : Int) := by rw [Int.tmod_eq_emod_of_nonneg (by omega)]; omega
def charN (n : Nat) : List Nat :=
  if 1114111 < n ∨ (55296 ≤ n ∧ n ≤ 57343) then [] else if n < 128 then [n] else if n < 2048 then [192 + n / 64, 128 + n % 64]
  else if n < 65536 then [224 + n / 4096, 128 + n / 64 % 64, 128 + n % 64] else [240 + n / 262144, 128 + n / 4096 % 64, 128 + n / 64 % 64, 128 + n % 64]
def bytesL (l : List Nat) : List UInt8 := l.map fun n => UInt8.ofNat n
theorem char_f (k n : Nat) (hn : n ≤ 1114111) : ∃ s, dioramaref05_Char.f (k + 1) (n : Int) = some s ∧ s.toList = bytesL (charN n) := by
  have hL : ∀ xs : List Int, ∃ s, some (strOfNums xs) = some s ∧ s.toList = xs.map fun n => UInt8.ofNat n.toNat := fun xs => ⟨_, rfl, Lib.strOfNums_toList xs⟩
  have hq : ∀ b : Bool, b = decide (55296 ≤ n ∧ n ≤ 57343) → ∃ s, dioramaref05_Char.j0 (k + 1) (n : Int) b = some s ∧ s.toList = bytesL (charN n) := by
    intro b hb
    by_cases hs : 55296 ≤ n ∧ n ≤ 57343
    · obtain rfl : b = true := hb.trans (decide_eq_true hs)
      refine ⟨⟨#[]⟩, by rw [dioramaref05_Char.j0, if_pos rfl], ?_⟩
      unfold charN; rw [if_pos (.inr hs), Lib.toList_data]; rfl
    · obtain rfl : b = false := hb.trans (decide_eq_false hs)
      rw [dioramaref05_Char.j0, wN n hn, if_neg (by decide)]
      unfold charN
      rw [if_neg (show ¬ (1114111 < n ∨ (55296 ≤ n ∧ n ≤ 57343)) by omega)]
      by_cases h1 : n < 128
      · rw [if_pos (show (n : Int) < 128 by omega), if_pos h1]
        obtain ⟨s, e, he⟩ := hL [(n : Int) % 256]
        refine ⟨s, e, he.trans ?_⟩
        simp only [bytesL, List.map_cons, List.map_nil]
        rw [ob (n) (by omega)]
      · rw [if_neg (show ¬ (n : Int) < 128 by omega), if_neg h1]
        by_cases h2 : n < 2048
        · rw [if_pos (show (n : Int) < 2048 by omega), if_pos h2]
          obtain ⟨s, e, he⟩ := hL [(wrap64 (192 + (wrap64 (Int.tdiv (n : Int) 64)))) % 256, (wrap64 (128 + (Int.tmod (n : Int) 64))) % 256]
          refine ⟨s, e, he.trans ?_⟩
          rw [td64, tm64, wN (n / 64) (Nat.le_trans (Nat.div_le_self n 64) hn), wrap64_in (192 + _) (by omega), wrap64_in (128 + _) (by omega)]
          simp only [bytesL, List.map_cons, List.map_nil]
          rw [ob (192 + n / 64) (by omega), ob (128 + n % 64) (by omega)]
        · rw [if_neg (show ¬ (n : Int) < 2048 by omega), if_neg h2]
          by_cases h3 : n < 65536
          · rw [if_pos (show (n : Int) < 65536 by omega), if_pos h3]
            obtain ⟨s, e, he⟩ := hL [(wrap64 (224 + (wrap64 (Int.tdiv (n : Int) 4096)))) % 256, (wrap64 (128 + (Int.tmod (wrap64 (Int.tdiv (n : Int) 64)) 64))) % 256, (wrap64 (128 + (Int.tmod (n : Int) 64))) % 256]
            refine ⟨s, e, he.trans ?_⟩
            rw [td64, td4096, wN (n / 64) (Nat.le_trans (Nat.div_le_self n 64) hn), wN (n / 4096) (Nat.le_trans (Nat.div_le_self n 4096) hn), tm64, tm64, wrap64_in (224 + _) (by omega), wrap64_in (128 + ((n / 64 % 64 : Nat) : Int)) (by omega), wrap64_in (128 + _) (by omega)]
            simp only [bytesL, List.map_cons, List.map_nil]
            rw [ob (224 + n / 4096) (by omega), ob (128 + n / 64 % 64) (by omega), ob (128 + n % 64) (by omega)]
          · rw [if_neg (show ¬ (n : Int) < 65536 by omega), if_neg h3]
            obtain ⟨s, e, he⟩ := hL [(wrap64 (240 + (wrap64 (Int.tdiv (n : Int) 262144)))) % 256, (wrap64 (128 + (Int.tmod (wrap64 (Int.tdiv (n : Int) 4096)) 64))) % 256, (wrap64 (128 + (Int.tmod (wrap64 (Int.tdiv (n : Int) 64)) 64))) % 256, (wrap64 (128 + (Int.tmod (n : Int) 64))) % 256]
            refine ⟨s, e, he.trans ?_⟩
            rw [td64, td4096, td262144, wN (n / 64) (Nat.le_trans (Nat.div_le_self n 64) hn), wN (n / 4096) (Nat.le_trans (Nat.div_le_self n 4096) hn), wN (n / 262144) (Nat.le_trans (Nat.div_le_self n 262144) hn), tm64, tm64, tm64, wrap64_in (240 + _) (by omega), wrap64_in (128 + ((n / 4096 % 64 : Nat) : Int)) (by omega), wrap64_in (128 + ((n / 64 % 64 : Nat) : Int)) (by omega), wrap64_in (128 + _) (by omega)]
            simp only [bytesL, List.map_cons, List.map_nil]
            rw [ob (240 + n / 262144) (by omega), ob (128 + n / 4096 % 64) (by omega), ob (128 + n / 64 % 64) (by omega), ob (128 + n % 64) (by omega)]
  unfold dioramaref05_Char.f
  rw [if_neg (show ¬ (n : Int) < 0 by omega), if_neg (show ¬ (n : Int) > 1114111 by omega)]
  by_cases h : (n : Int) ≥ 55296
  · rw [if_pos h]
    refine hq _ (decide_eq_decide.2 ?_)
    omega
  · rw [if_neg h]
    refine hq _ (decide_eq_false ?_).symm
    omega
end Go.Proofs.YtggldnbhmebcpaaGreatDoor.L
end
section
namespace Go.Proofs.YtggldnbhmebcpaaGreatDoor.L
open Go.RowKit Go.ChangeShapes Go.WideShapes Go.Proofs.YtggldnbhmebcpaaGreatDoorW.PrintWords Go.Proofs.YtggldnbhmebcpaaGreatDoorW.PrintLast Go.Proofs.YtggldnbhmebcpaaGreatDoorW.PrintMore
attribute [local go_sem] max2_int min2_int max_two min_two max_three min_three max_four min_four
open Go.Proofs.YtggldnbhmebcpaaGreatDoor.PDeltaMakes
def B (s : ByteArray) (i : Nat) : Nat := (s.get! i).toNat
theorem B_lt (s : ByteArray) (i : Nat) : B s i < 256 := UInt8.toNat_lt _
theorem bt_B (s : ByteArray) (i : Nat) (h : i < s.size) : bt s (i : Int) = (B s i : Int) := by
  unfold bt B
  rw [dif_pos (by simpa using h)]
  have : s[i] = s.get! i := by
    show s.data[i] = s.data[i]!
    rw [getElem!_pos]
  rw [← this]; rfl
theorem ext_bytes (s : ByteArray) (p z : Nat) (h : p + z ≤ s.size) : (s.extract p (p + z)).toList = bytesL ((List.range z).map fun i => B s (p + i)) := by
  rw [Lib.toList_data]
  refine List.ext_getElem ?_ (fun i h1 h2 => ?_)
  · have : s.size = s.data.size := rfl
    simp [bytesL]; omega
  · have hz : i < z := by simpa [bytesL] using h2
    simp only [bytesL, List.getElem_map, List.getElem_range, B]
    rw [UInt8.ofNat_toNat]
    have : s.get! (p + i) = s.data[p + i]! := rfl
    rw [this, getElem!_pos s.data (p + i) (show p + i < s.data.size by have : s.size = s.data.size := rfl; omega)]
    simp
theorem bytesL_inj : ∀ (l m : List Nat), (∀ x ∈ l, x < 256) → (∀ x ∈ m, x < 256) → (bytesL l = bytesL m ↔ l = m)
  | [], [], _, _ => by simp
  | [], y :: m, _, _ => by simp [bytesL]
  | x :: l, [], _, _ => by simp [bytesL]
  | x :: l, y :: m, h1, h2 => by
    have ih := bytesL_inj l m (fun z hz => h1 z (by simp [hz])) (fun z hz => h2 z (by simp [hz]))
    have hx := h1 x (by simp)
    have hy := h2 y (by simp)
    simp only [bytesL, List.map_cons, List.cons.injEq] at ih ⊢
    rw [ih]
    refine and_congr_left (fun _ => ⟨fun h => ?_, fun h => by rw [h]⟩)
    have := congrArg UInt8.toNat h
    simpa [Nat.mod_eq_of_lt hx, Nat.mod_eq_of_lt hy] using this
theorem charN_lt (n : Nat) (hn : n ≤ 1114111) : ∀ x ∈ charN n, x < 256 := by
  intro x hx
  unfold charN at hx
  by_cases h0 : 1114111 < n ∨ (55296 ≤ n ∧ n ≤ 57343)
  · rw [if_pos h0] at hx; simp at hx
  · rw [if_neg h0] at hx
    by_cases h1 : n < 128
    · rw [if_pos h1] at hx; simp at hx; omega
    · rw [if_neg h1] at hx
      by_cases h2 : n < 2048
      · rw [if_pos h2] at hx; simp at hx; omega
      · rw [if_neg h2] at hx
        by_cases h3 : n < 65536
        · rw [if_pos h3] at hx; simp at hx; omega
        · rw [if_neg h3] at hx; simp at hx; omega
def okZ (s : ByteArray) (p z : Nat) (x : Int) : Prop := 0 ≤ x ∧ x ≤ 1114111 ∧ charN x.toNat = (List.range z).map fun i => B s (p + i)
theorem fin_at (k : Nat) (s : ByteArray) (p z : Nat) (x : Int) (hp : p + z ≤ s.size) (hs : s.size ≤ 1000000) :
    (okZ s p z x → dioramaref05_At.l1 (k + 2) s (p : Int) (z : Int) x (z : Int) = some (x, (z : Int))) ∧ (¬ okZ s p z x → dioramaref05_At.l1 (k + 2) s (p : Int) (z : Int) x (z : Int) = dioramaref05_At.l0 (k + 1) s (p : Int) ((z + 1 : Nat) : Int)) := by
  have hz : wrap64 ((z : Int) + 1) = ((z + 1 : Nat) : Int) := by rw [wrap64_in _ (by omega)]; rfl
  have hpz : wrap64 ((p : Int) + z) = ((p + z : Nat) : Int) := by rw [wrap64_in _ (by omega)]; rfl
  rw [dioramaref05_At.l1, if_neg (Int.lt_irrefl _), hz]
  by_cases h0 : x ≥ 0
  · rw [if_pos h0]
    by_cases h1 : x ≤ 1114111
    · rw [if_pos h1]
      have hw : wrap32 x = x := wrap32_in x (by omega)
      obtain ⟨n, rfl⟩ : ∃ n : Nat, x = (n : Int) := ⟨x.toNat, by omega⟩
      have hn : n ≤ 1114111 := by omega
      obtain ⟨t, ht, hb⟩ := char_f k n hn
      rw [hw, ht, Option.bind_some, hpz, if_pos (Int.natCast_nonneg p), if_pos (show (p : Int) ≤ ((p + z : Nat) : Int) by omega), if_pos (show ((p + z : Nat) : Int) ≤ (s.size : Int) by omega)]
      rw [hb, Int.toNat_natCast, Int.toNat_natCast, ext_bytes s p z hp]
      have hi := bytesL_inj (charN n) ((List.range z).map fun i => B s (p + i)) (charN_lt n hn) (fun x hx => by
        obtain ⟨i, _, rfl⟩ := List.mem_map.1 hx
        exact B_lt _ _)
      refine ⟨fun hok => ?_, fun hok => ?_⟩
      · rw [if_pos (hi.2 (by have := hok.2.2; rwa [Int.toNat_natCast] at this))]
      · rw [if_neg (fun h => hok ⟨h0, h1, by rw [Int.toNat_natCast]; exact hi.1 h⟩)]
    · rw [if_neg h1]
      exact ⟨fun h => absurd h.2.1 h1, fun _ => rfl⟩
  · rw [if_neg h0]
    exact ⟨fun h => absurd h.1 h0, fun _ => rfl⟩
theorem l1_step (k : Nat) (s : ByteArray) (p z j : Nat) (x : Int) (hj : j < z) (hp : p + z ≤ s.size) (hs : s.size ≤ 1000000) (hx : -100000000 ≤ x ∧ x ≤ 100000000) :
    dioramaref05_At.l1 (k + 1) s (p : Int) (z : Int) x (j : Int) = dioramaref05_At.l1 k s (p : Int) (z : Int) (64 * x + (B s (p + j) : Int) - 128) ((j + 1 : Nat) : Int) := by
  have hb := B_lt s (p + j)
  rw [dioramaref05_At.l1, if_pos (show (j : Int) < z by omega)]
  have e1 : wrap64 ((p : Int) + j) = ((p + j : Nat) : Int) := by rw [wrap64_in _ (by omega)]; rfl
  have e2 : wrap64 ((j : Int) + 1) = ((j + 1 : Nat) : Int) := by rw [wrap64_in _ (by omega)]; rfl
  rw [e1, e2, if_pos (Int.natCast_nonneg _), if_pos (show ((p + j : Nat) : Int) < (s.size : Int) by omega), bt_B s (p + j) (by omega)]
  clear e1 e2
  generalize B s (p + j) = y at hb
  rw [wrap64_in (64 * x) (by omega), wrap64_in (y : Int) (by omega), wrap64_in (64 * x + y) (by omega), wrap64_in (64 * x + y - 128) (by omega)]
def numZ (s : ByteArray) (p z : Nat) : Int :=
  if z = 1 then B s p else if z = 2 then 64 * ((B s p : Int) - 192) + B s (p + 1) - 128
  else if z = 3 then 64 * (64 * ((B s p : Int) - 224) + B s (p + 1) - 128) + B s (p + 2) - 128
  else 64 * (64 * (64 * ((B s p : Int) - 240) + B s (p + 1) - 128) + B s (p + 2) - 128) + B s (p + 3) - 128
theorem l0_step (k : Nat) (s : ByteArray) (p z : Nat) (hz : 1 ≤ z ∧ z ≤ 4) (hs : s.size ≤ 1000000) (hp : p < s.size) :
    (p + z ≤ s.size → okZ s p z (numZ s p z) → dioramaref05_At.l0 (k + 1 + 5 + z) s (p : Int) (z : Int) = some (numZ s p z, (z : Int)))
    ∧ (p + z ≤ s.size → ¬ okZ s p z (numZ s p z) → dioramaref05_At.l0 (k + 1 + 5 + z) s (p : Int) (z : Int) = dioramaref05_At.l0 (k + 1) s (p : Int) ((z + 1 : Nat) : Int))
    ∧ (¬ p + z ≤ s.size → dioramaref05_At.l0 (k + 1 + 5 + z) s (p : Int) (z : Int) = some (0, 0)) := by
  have hb := B_lt s p
  have hw : wrap64 ((p : Int) + z) = ((p + z : Nat) : Int) := by rw [wrap64_in _ (by omega)]; rfl
  have e0 : dioramaref05_At.l0 (k + 1 + 5 + z) s (p : Int) (z : Int) = dioramaref05_At.j1 (k + 1 + 4 + z) s (p : Int) (z : Int) (decide (p + z ≤ s.size)) := by
    rw [show k + 1 + 5 + z = (k + 1 + 4 + z) + 1 by omega, dioramaref05_At.l0, if_pos (show (z : Int) ≤ 4 by omega), hw]
    congr 1
    exact decide_eq_decide.2 (by omega)
  rw [e0]
  clear e0 hw
  by_cases hpz : p + z ≤ s.size
  · rw [decide_eq_true hpz, show k + 1 + 4 + z = (k + 1 + 3 + z) + 1 by omega, dioramaref05_At.j1, if_pos rfl, if_pos (Int.natCast_nonneg p), if_pos (show (p : Int) < s.size by omega), bt_B s p hp, wrap64_in (B s p : Int) (by generalize B s p = y at hb; omega)]
    have c : ∀ x : Int, dioramaref05_At.j4 (k + 1 + 1 + z) s (p : Int) (z : Int) x = dioramaref05_At.l1 (k + 1 + z) s (p : Int) (z : Int) x 1 := fun x => by
      rw [show k + 1 + 1 + z = (k + 1 + z) + 1 by omega, dioramaref05_At.j4]
    have key : dioramaref05_At.l1 (k + 1 + z) s (p : Int) (z : Int) ((B s p : Int) - (if z = 2 then 192 else if z = 3 then 224 else if z = 4 then 240 else 0)) 1 = dioramaref05_At.l1 (k + 2) s (p : Int) (z : Int) (numZ s p z) (z : Int) := by
      have b1 := B_lt s (p + 1)
      have b2 := B_lt s (p + 2)
      have hz4 : z = 1 ∨ z = 2 ∨ z = 3 ∨ z = 4 := by omega
      rcases hz4 with rfl | rfl | rfl | rfl
      · unfold numZ; simp
      · have h1 := l1_step (k + 2) s p 2 1 ((B s p : Int) - 192) (by omega) hpz hs (by generalize B s p = y at hb; omega)
        exact h1
      · have h1 := l1_step (k + 3) s p 3 1 ((B s p : Int) - 224) (by omega) hpz hs (by generalize B s p = y at hb; omega)
        have h2 := l1_step (k + 2) s p 3 2 (64 * ((B s p : Int) - 224) + B s (p + 1) - 128) (by omega) hpz hs (by generalize B s p = y at hb; generalize B s (p + 1) = y1 at b1; omega)
        exact h1.trans h2
      · have h1 := l1_step (k + 4) s p 4 1 ((B s p : Int) - 240) (by omega) hpz hs (by generalize B s p = y at hb; omega)
        have h2 := l1_step (k + 3) s p 4 2 (64 * ((B s p : Int) - 240) + B s (p + 1) - 128) (by omega) hpz hs (by generalize B s p = y at hb; generalize B s (p + 1) = y1 at b1; omega)
        have h3 := l1_step (k + 2) s p 4 3 (64 * (64 * ((B s p : Int) - 240) + B s (p + 1) - 128) + B s (p + 2) - 128) (by omega) hpz hs (by generalize B s p = y at hb; generalize B s (p + 1) = y1 at b1; generalize B s (p + 2) = y2 at b2; omega)
        exact h1.trans (h2.trans h3)
    have hall : (if (z : Int) = 2 then (dioramaref05_At.j2 (k + 1 + 3 + z) s (p : Int) (z : Int) (wrap64 ((B s p : Int) - 192))) else (dioramaref05_At.j2 (k + 1 + 3 + z) s (p : Int) (z : Int) (B s p : Int))) = dioramaref05_At.l1 (k + 2) s (p : Int) (z : Int) (numZ s p z) (z : Int) := by
      rw [← key, ← c]
      have f2 : ∀ x : Int, dioramaref05_At.j2 (k + 1 + 3 + z) s (p : Int) (z : Int) x = (if (z : Int) = 3 then (dioramaref05_At.j3 (k + 1 + 2 + z) s (p : Int) (z : Int) (wrap64 (x - 224))) else (dioramaref05_At.j3 (k + 1 + 2 + z) s (p : Int) (z : Int) x)) := fun x => by
        rw [show k + 1 + 3 + z = (k + 1 + 2 + z) + 1 by omega, dioramaref05_At.j2]
      have f3 : ∀ x : Int, dioramaref05_At.j3 (k + 1 + 2 + z) s (p : Int) (z : Int) x = (if (z : Int) = 4 then (dioramaref05_At.j4 (k + 1 + 1 + z) s (p : Int) (z : Int) (wrap64 (x - 240))) else (dioramaref05_At.j4 (k + 1 + 1 + z) s (p : Int) (z : Int) x)) := fun x => by
        rw [show k + 1 + 2 + z = (k + 1 + 1 + z) + 1 by omega, dioramaref05_At.j3]
      have w1 : wrap64 ((B s p : Int) - 192) = (B s p : Int) - 192 := wrap64_in _ (by generalize B s p = y at hb; omega)
      have w2 : wrap64 ((B s p : Int) - 224) = (B s p : Int) - 224 := wrap64_in _ (by generalize B s p = y at hb; omega)
      have w3 : wrap64 ((B s p : Int) - 240) = (B s p : Int) - 240 := wrap64_in _ (by generalize B s p = y at hb; omega)
      have hz4 : z = 1 ∨ z = 2 ∨ z = 3 ∨ z = 4 := by omega
      rcases hz4 with rfl | rfl | rfl | rfl
      · rw [if_neg (by decide), f2, if_neg (by decide), f3, if_neg (by decide), if_neg (by decide), if_neg (by decide), if_neg (by decide), Int.sub_zero]
      · rw [if_pos (by decide), w1, f2, if_neg (by decide), f3, if_neg (by decide), if_pos (by decide)]
      · rw [if_neg (by decide), f2, if_pos (by decide), w2, f3, if_neg (by decide), if_neg (by decide), if_pos (by decide)]
      · rw [if_neg (by decide), f2, if_neg (by decide), f3, if_pos (by decide), w3, if_neg (by decide), if_neg (by decide), if_pos (by decide)]
    rw [hall]
    have hf := fin_at k s p z (numZ s p z) hpz hs
    exact ⟨fun _ h => hf.1 h, fun _ h => hf.2 h, fun h => absurd hpz h⟩
  · rw [decide_eq_false hpz, show k + 1 + 4 + z = (k + 1 + 3 + z) + 1 by omega, dioramaref05_At.j1, if_neg (by decide)]
    exact ⟨fun h => absurd h hpz, fun h => absurd h hpz, fun _ => rfl⟩
end Go.Proofs.YtggldnbhmebcpaaGreatDoor.L
end
section
namespace Go.Proofs.YtggldnbhmebcpaaGreatDoor.L
open Go.RowKit Go.ChangeShapes Go.WideShapes Go.Proofs.YtggldnbhmebcpaaGreatDoorW.PrintWords Go.Proofs.YtggldnbhmebcpaaGreatDoorW.PrintLast Go.Proofs.YtggldnbhmebcpaaGreatDoorW.PrintMore
attribute [local go_sem] max2_int min2_int max_two min_two max_three min_three max_four min_four
open Go.Proofs.YtggldnbhmebcpaaGreatDoor.PDeltaMakes
theorem range4 {α : Type} (f : Nat → α) : (List.range 1).map f = [f 0] ∧ (List.range 2).map f = [f 0, f 1] ∧ (List.range 3).map f = [f 0, f 1, f 2] ∧ (List.range 4).map f = [f 0, f 1, f 2, f 3] := ⟨rfl, rfl, rfl, rfl⟩
def okN (b0 b1 b2 b3 z : Nat) (x : Int) : Prop := 0 ≤ x ∧ x ≤ 1114111 ∧ charN x.toNat = (if z = 1 then [b0] else if z = 2 then [b0, b1] else if z = 3 then [b0, b1, b2] else [b0, b1, b2, b3])
def nuN (b0 b1 b2 b3 z : Nat) : Int :=
  if z = 1 then b0 else if z = 2 then 64 * ((b0 : Int) - 192) + b1 - 128
  else if z = 3 then 64 * (64 * ((b0 : Int) - 224) + b1 - 128) + b2 - 128
  else 64 * (64 * (64 * ((b0 : Int) - 240) + b1 - 128) + b2 - 128) + b3 - 128
theorem okZ_N (s : ByteArray) (p z : Nat) (hz : 1 ≤ z ∧ z ≤ 4) (x : Int) : okZ s p z x ↔ okN (B s p) (B s (p + 1)) (B s (p + 2)) (B s (p + 3)) z x := by
  unfold okZ okN
  have h4 : z = 1 ∨ z = 2 ∨ z = 3 ∨ z = 4 := by omega
  have r := range4 (fun i => B s (p + i))
  rcases h4 with rfl | rfl | rfl | rfl
  · rw [r.1]; rfl
  · rw [r.2.1]; rfl
  · rw [r.2.2.1]; rfl
  · rw [r.2.2.2]; rfl
theorem charN_cases (n : Nat) (hn : n ≤ 1114111) : (charN n = [] ∧ 55296 ≤ n ∧ n ≤ 57343) ∨ (charN n = [n] ∧ n < 128) ∨ (charN n = [192 + n / 64, 128 + n % 64] ∧ 128 ≤ n ∧ n < 2048) ∨ (charN n = [224 + n / 4096, 128 + n / 64 % 64, 128 + n % 64] ∧ 2048 ≤ n ∧ n < 65536 ∧ ¬ (55296 ≤ n ∧ n ≤ 57343)) ∨ (charN n = [240 + n / 262144, 128 + n / 4096 % 64, 128 + n / 64 % 64, 128 + n % 64] ∧ 65536 ≤ n) := by
  unfold charN
  by_cases h0 : 55296 ≤ n ∧ n ≤ 57343
  · rw [if_pos (.inr h0)]; exact .inl ⟨rfl, h0⟩
  · rw [if_neg (by omega)]
    by_cases h1 : n < 128
    · rw [if_pos h1]; exact .inr (.inl ⟨rfl, h1⟩)
    · rw [if_neg h1]
      by_cases h2 : n < 2048
      · rw [if_pos h2]; exact .inr (.inr (.inl ⟨rfl, by omega, h2⟩))
      · rw [if_neg h2]
        by_cases h3 : n < 65536
        · rw [if_pos h3]; exact .inr (.inr (.inr (.inl ⟨rfl, by omega, h3, h0⟩)))
        · rw [if_neg h3]; exact .inr (.inr (.inr (.inr ⟨rfl, by omega⟩)))
theorem ok_dec (r b0 b1 b2 b3 z : Nat) (hz : 1 ≤ z ∧ z ≤ 4) (hr : z ≤ r) (h : okN b0 b1 b2 b3 z (nuN b0 b1 b2 b3 z)) :
    Lib.decodeN r b0 b1 b2 b3 = ((nuN b0 b1 b2 b3 z).toNat, z) ∧ ¬ ((nuN b0 b1 b2 b3 z).toNat = 65533 ∧ z = 1) := by
  obtain ⟨h0, h1, h2⟩ := h
  have hc := charN_cases (nuN b0 b1 b2 b3 z).toNat (by omega)
  have hmx : (nuN b0 b1 b2 b3 z).toNat ≤ 1114111 := by omega
  generalize (nuN b0 b1 b2 b3 z).toNat = n at *
  clear h0 h1
  have h4 : z = 1 ∨ z = 2 ∨ z = 3 ∨ z = 4 := by omega
  rcases h4 with rfl | rfl | rfl | rfl
  · rw [if_pos rfl] at h2
    rcases hc with ⟨hc, ha⟩ | ⟨hc, ha⟩ | ⟨hc, ha⟩ | ⟨hc, ha⟩ | ⟨hc, ha⟩ <;> rw [hc] at h2 <;> simp only [List.cons.injEq, reduceCtorEq, and_true, and_false, false_and] at h2
    subst h2
    unfold Lib.decodeN
    rw [if_pos ha]
    exact ⟨rfl, by omega⟩
  · rw [if_neg (by decide), if_pos rfl] at h2
    rcases hc with ⟨hc, ha⟩ | ⟨hc, ha⟩ | ⟨hc, ha⟩ | ⟨hc, ha⟩ | ⟨hc, ha⟩ <;> rw [hc] at h2 <;> simp only [List.cons.injEq, reduceCtorEq, and_true, and_false, false_and] at h2
    obtain ⟨e0, e1⟩ := h2
    unfold Lib.decodeN
    rw [if_neg (by omega), if_pos (by omega), if_pos (by omega)]
    exact ⟨Prod.ext (by show _ = n; omega) rfl, by omega⟩
  · rw [if_neg (by decide), if_neg (by decide), if_pos rfl] at h2
    rcases hc with ⟨hc, ha⟩ | ⟨hc, ha⟩ | ⟨hc, ha⟩ | ⟨hc, ha⟩ | ⟨hc, ha⟩ <;> rw [hc] at h2 <;> simp only [List.cons.injEq, reduceCtorEq, and_true, and_false, false_and] at h2
    obtain ⟨e0, e1, e2⟩ := h2
    unfold Lib.decodeN
    rw [if_neg (by omega), if_neg (by omega), if_pos (by omega), if_pos (by omega)]
    exact ⟨Prod.ext (by show _ = n; omega) rfl, by omega⟩
  · rw [if_neg (by decide), if_neg (by decide), if_neg (by decide)] at h2
    rcases hc with ⟨hc, ha⟩ | ⟨hc, ha⟩ | ⟨hc, ha⟩ | ⟨hc, ha⟩ | ⟨hc, ha⟩ <;> rw [hc] at h2 <;> simp only [List.cons.injEq, reduceCtorEq, and_true, and_false, false_and] at h2
    obtain ⟨e0, e1, e2, e3⟩ := h2
    unfold Lib.decodeN
    rw [if_neg (by omega), if_neg (by omega), if_neg (by omega), if_pos (by omega), if_pos (by omega)]
    exact ⟨Prod.ext (by show _ = n; omega) rfl, by omega⟩
theorem dec_ok (r b0 b1 b2 b3 : Nat) (k0 : b0 < 256) (k1 : b1 < 256) (k2 : b2 < 256) (k3 : b3 < 256) :
    Lib.decodeN r b0 b1 b2 b3 = (65533, 1) ∨ ∃ z, 1 ≤ z ∧ z ≤ 4 ∧ (z = 1 ∨ z ≤ r) ∧ okN b0 b1 b2 b3 z (nuN b0 b1 b2 b3 z) := by
  rcases Lib.decodeN_shape r b0 b1 b2 b3 with ⟨c, e⟩ | ⟨c1, c2, c3, cv, e⟩ | ⟨c1, c2, c3, c4, cv, cs, e⟩ | ⟨c1, c2, c3, c4, c5, cv, cw, e⟩ | e
  · refine .inr ⟨1, by omega, by omega, .inl rfl, ?_⟩
    have hn : nuN b0 b1 b2 b3 1 = ((b0 : Nat) : Int) := rfl
    rw [hn]
    refine ⟨by omega, by omega, ?_⟩
    rw [Int.toNat_natCast, if_pos rfl]
    unfold charN
    rw [if_neg (by omega), if_pos c]
  · refine .inr ⟨2, by omega, by omega, .inr (by omega), ?_⟩
    have hn : nuN b0 b1 b2 b3 2 = ((b0 % 32 * 64 + b1 % 64 : Nat) : Int) := by
      show 64 * ((b0 : Int) - 192) + b1 - 128 = _
      omega
    rw [hn]
    clear hn e
    refine ⟨by omega, by omega, ?_⟩
    rw [Int.toNat_natCast, if_neg (by decide), if_pos rfl]
    unfold charN
    rw [if_neg (by omega), if_neg (by omega), if_pos (by omega)]
    rw [show 192 + (b0 % 32 * 64 + b1 % 64) / 64 = b0 by omega, show 128 + (b0 % 32 * 64 + b1 % 64) % 64 = b1 by omega]
  · refine .inr ⟨3, by omega, by omega, .inr (by omega), ?_⟩
    have hn : nuN b0 b1 b2 b3 3 = ((b0 % 16 * 4096 + b1 % 64 * 64 + b2 % 64 : Nat) : Int) := by
      show 64 * (64 * ((b0 : Int) - 224) + b1 - 128) + b2 - 128 = _
      omega
    rw [hn]
    clear hn e
    refine ⟨by omega, by omega, ?_⟩
    rw [Int.toNat_natCast, if_neg (by decide), if_neg (by decide), if_pos rfl]
    unfold charN
    rw [if_neg (by omega), if_neg (by omega), if_neg (by omega), if_pos (by omega)]
    rw [show 224 + (b0 % 16 * 4096 + b1 % 64 * 64 + b2 % 64) / 4096 = b0 by omega, show 128 + (b0 % 16 * 4096 + b1 % 64 * 64 + b2 % 64) / 64 % 64 = b1 by omega, show 128 + (b0 % 16 * 4096 + b1 % 64 * 64 + b2 % 64) % 64 = b2 by omega]
  · refine .inr ⟨4, by omega, by omega, .inr (by omega), ?_⟩
    have hn : nuN b0 b1 b2 b3 4 = ((b0 % 8 * 262144 + b1 % 64 * 4096 + b2 % 64 * 64 + b3 % 64 : Nat) : Int) := by
      show 64 * (64 * (64 * ((b0 : Int) - 240) + b1 - 128) + b2 - 128) + b3 - 128 = _
      omega
    rw [hn]
    clear hn e
    refine ⟨by omega, by omega, ?_⟩
    rw [Int.toNat_natCast, if_neg (by decide), if_neg (by decide), if_neg (by decide)]
    unfold charN
    rw [if_neg (by omega), if_neg (by omega), if_neg (by omega), if_neg (by omega)]
    rw [show 240 + (b0 % 8 * 262144 + b1 % 64 * 4096 + b2 % 64 * 64 + b3 % 64) / 262144 = b0 by omega, show 128 + (b0 % 8 * 262144 + b1 % 64 * 4096 + b2 % 64 * 64 + b3 % 64) / 4096 % 64 = b1 by omega, show 128 + (b0 % 8 * 262144 + b1 % 64 * 4096 + b2 % 64 * 64 + b3 % 64) / 64 % 64 = b2 by omega, show 128 + (b0 % 8 * 262144 + b1 % 64 * 4096 + b2 % 64 * 64 + b3 % 64) % 64 = b3 by omega]
  · exact .inl e
theorem decode_B (s : ByteArray) (p : Nat) : Utf8.decode s p = Lib.decodeN (s.size - p) (B s p) (B s (p + 1)) (B s (p + 2)) (B s (p + 3)) := Lib.decode_at s p
theorem nuN_B (s : ByteArray) (p z : Nat) : numZ s p z = nuN (B s p) (B s (p + 1)) (B s (p + 2)) (B s (p + 3)) z := rfl
theorem found (s : ByteArray) (p z : Nat) (hz : 1 ≤ z ∧ z ≤ 4) (hp : p + z ≤ s.size) (h : okZ s p z (numZ s p z)) : ¬ Utf8.decode s p = (65533, 1) ∧ (z : Int) = ((Utf8.decode s p).2 : Int) := by
  have h1 := ok_dec (s.size - p) _ _ _ _ z hz (by omega) (by rw [← nuN_B]; exact (okZ_N s p z hz _).1 h)
  rw [decode_B, h1.1]
  exact ⟨fun e => h1.2 ⟨(Prod.mk.inj e).1, (Prod.mk.inj e).2⟩, rfl⟩
theorem none_bad (s : ByteArray) (p : Nat) (hp : p < s.size) (h : ∀ z, 1 ≤ z → z ≤ 4 → ¬ (p + z ≤ s.size ∧ okZ s p z (numZ s p z))) : Utf8.decode s p = (65533, 1) := by
  rw [decode_B]
  refine (dec_ok (s.size - p) _ _ _ _ (B_lt _ _) (B_lt _ _) (B_lt _ _) (B_lt _ _)).resolve_right ?_
  rintro ⟨z, h1, h4, hr, hok⟩
  exact h z h1 h4 ⟨by omega, by rw [okZ_N s p z ⟨h1, h4⟩, nuN_B]; exact hok⟩
def AtPost (s : ByteArray) (p : Nat) (r : Option (Int × Int)) : Prop := ∃ c n : Int, r = some (c, n) ∧ (Utf8.decode s p = (65533, 1) → n = 0) ∧ (¬ Utf8.decode s p = (65533, 1) → n = ((Utf8.decode s p).2 : Int))
theorem at_step (s : ByteArray) (p z k : Nat) (hs : s.size ≤ 1000000) (hp : p < s.size) (hz : 1 ≤ z ∧ z ≤ 4) (hprev : ∀ y, 1 ≤ y → y < z → ¬ (p + y ≤ s.size ∧ okZ s p y (numZ s p y)))
    (hnext : (∀ y, 1 ≤ y → y < z + 1 → ¬ (p + y ≤ s.size ∧ okZ s p y (numZ s p y))) → AtPost s p (dioramaref05_At.l0 (k + 1) s (p : Int) ((z + 1 : Nat) : Int))) : AtPost s p (dioramaref05_At.l0 (k + 1 + 5 + z) s (p : Int) (z : Int)) := by
  have hst := l0_step k s p z hz hs hp
  by_cases h1 : p + z ≤ s.size
  · by_cases h2 : okZ s p z (numZ s p z)
    · rw [hst.1 h1 h2]
      have hf := found s p z hz h1 h2
      exact ⟨_, _, rfl, fun h => absurd h hf.1, fun _ => hf.2⟩
    · rw [hst.2.1 h1 h2]
      refine hnext (fun y hy1 hy2 => ?_)
      by_cases he : y = z
      · subst he; exact fun h => h2 h.2
      · exact hprev y hy1 (by omega)
  · rw [hst.2.2 h1]
    have hb := none_bad s p hp (fun y hy1 hy2 => by
      by_cases he : y < z
      · exact hprev y hy1 he
      · exact fun h => h1 (by have := h.1; omega))
    exact ⟨_, _, rfl, fun _ => rfl, fun h => absurd hb h⟩
theorem at_f (s : ByteArray) (p K : Nat) (hs : s.size ≤ 1000000) (hp : p < s.size) : AtPost s p (dioramaref05_At.f (K + 32) s (p : Int)) := by
  unfold dioramaref05_At.f
  refine at_step s p 1 (K + 25) hs hp (by omega) (fun y h1 h2 => by omega) (fun h1 => ?_)
  refine at_step s p 2 (K + 18) hs hp (by omega) h1 (fun h2 => ?_)
  refine at_step s p 3 (K + 10) hs hp (by omega) h2 (fun h3 => ?_)
  refine at_step s p 4 (K + 1) hs hp (by omega) h3 (fun h4 => ?_)
  rw [dioramaref05_At.l0, if_neg (by decide), dioramaref05_At.j1, if_neg (by decide)]
  have hb := none_bad s p hp (fun y hy1 hy2 => h4 y hy1 (by omega))
  exact ⟨_, _, rfl, fun _ => rfl, fun h => absurd hb h⟩
theorem read_l0 (s : ByteArray) (hs : s.size ≤ 1000000) : ∀ (m p K : Nat) (acc : List Int), s.size ≤ p + m → p ≤ s.size → acc.length ≤ p →
    ∃ l, ∃ q : Nat, dioramaref05_Read.l0 (K + 33 + m) s acc (p : Int) = some (l, (q : Int)) ∧ (q = s.size ↔ utfFrom s m p = -1)
  | 0, p, K, acc, h1, h2, h3 => by
    rw [show K + 33 + 0 = (K + 32) + 1 by omega, dioramaref05_Read.l0, if_neg (by omega)]
    exact ⟨_, p, rfl, fun _ => rfl, fun _ => by omega⟩
  | m + 1, p, K, acc, h1, h2, h3 => by
    rw [show K + 33 + (m + 1) = (K + 33 + m) + 1 by omega, dioramaref05_Read.l0]
    by_cases hp : p < s.size
    · rw [if_pos (show (p : Int) < s.size by omega)]
      obtain ⟨c, n, he, hb, hg⟩ := at_f s p (K + 1 + m) hs hp
      rw [show K + 33 + m = K + 1 + m + 32 by omega, he, Option.bind_some]
      unfold utfFrom
      rw [if_pos hp]
      by_cases hd : Utf8.decode s p = (65533, 1)
      · rw [if_pos (hb hd), if_pos hd]
        exact ⟨_, p, rfl, fun h => by omega, fun h => by omega⟩
      · have hn := hg hd
        have hbd := decode_bound s p
        have hbd3 := hbd.2.2 hp
        rw [if_neg (by show ¬ n = 0; omega), if_neg hd]
        dsimp only
        rw [if_pos (by omega), hn, wrap64_in ((p : Int) + _) (by omega), show K + 1 + m + 32 = K + 33 + m by omega]
        exact read_l0 s hs m (p + (Utf8.decode s p).2) K _ (by omega) (by omega) (by rw [List.length_append]; simp; omega)
    · rw [if_neg (show ¬ (p : Int) < s.size by omega), utfFrom_end hp]
      exact ⟨_, p, rfl, fun _ => rfl, fun _ => by omega⟩
theorem utf_ok_iff (s : ByteArray) : utfOk s = true ↔ utfFrom s s.size 0 ≠ -1 → False := by
  unfold utfOk utfFirst
  rw [decide_eq_true_iff]
  refine ⟨fun h hn => ?_, fun h => ?_⟩
  · have hge : ∀ (f p : Nat), utfFrom s f p = -1 ∨ 0 ≤ utfFrom s f p := fun f => by
      induction f with
      | zero => intro p; exact .inl rfl
      | succ f ih =>
        intro p
        unfold utfFrom
        split
        · split
          · exact .inr (by omega)
          · exact ih _
        · exact .inl rfl
    rcases hge s.size 0 with h0 | h0
    · exact hn h0
    · omega
  · have : utfFrom s s.size 0 = -1 := Classical.byContradiction h
    rw [this]; decide
theorem right_f (s : ByteArray) (hs : s.size ≤ 1000000) (k : Nat) (hk : s.size + 33 ≤ k) : dioramaref05_Right.f k s = some (utfOk s) := by
  obtain ⟨K, rfl⟩ : ∃ K, k = K + 33 + s.size := ⟨k - 33 - s.size, by omega⟩
  obtain ⟨l, q, he, hq⟩ := read_l0 s hs s.size 0 K [] (by omega) (by omega) (by simp)
  unfold dioramaref05_Right.f dioramaref05_Read.f
  rw [show ((0 : Int)) = ((0 : Nat) : Int) from rfl, he, Option.bind_some]
  congr 1
  show ((q : Int) == (s.size : Int)) = utfOk s
  have h1 := utf_ok_iff s
  by_cases h : utfFrom s s.size 0 = -1
  · have e1 := hq.2 h
    have e2 : utfOk s = true := h1.2 (fun hn => hn h)
    rw [e1, e2]; simp
  · have e1 : ¬ q = s.size := fun e => h (hq.1 e)
    have e2 : utfOk s = false := Bool.eq_false_iff.2 (fun e => h1.1 e h)
    rw [e2]
    exact beq_eq_false_iff_ne.2 (by omega)
end Go.Proofs.YtggldnbhmebcpaaGreatDoor.L
end
section
namespace Go.Proofs.YtggldnbhmebcpaaGreatDoor.L
open Go.RowKit Go.ChangeShapes Go.WideShapes Go.Proofs.YtggldnbhmebcpaaGreatDoorW.PrintWords Go.Proofs.YtggldnbhmebcpaaGreatDoorW.PrintLast Go.Proofs.YtggldnbhmebcpaaGreatDoorW.PrintMore
attribute [local go_sem] max2_int min2_int max_two min_two max_three min_three max_four min_four
open Go.Proofs.YtggldnbhmebcpaaGreatDoor.PDeltaMakes
theorem in_f (c n : Int) : dioramaref07_In.f c n = some (inC c n) := by
  unfold dioramaref07_In.f
  by_cases c1 : c = 1
  · subst c1; rfl
  · rw [if_neg c1]
    by_cases c2 : c = 2
    · subst c2
      rw [if_pos rfl, inC_2]
      by_cases h0 : n ≥ 0
      · rw [if_pos h0]
        by_cases h1 : n ≤ 140737488355328
        · rw [if_pos h1, decide_eq_true (by omega), decide_eq_true h1]; rfl
        · rw [if_neg h1, if_neg (by omega), decide_eq_false h1, Bool.and_false]
      · rw [if_neg h0, if_pos (by omega), decide_eq_true (show n ≤ 140737488355328 by omega), Bool.and_true]
    · rw [if_neg c2]
      by_cases c3 : c = 3
      · subst c3
        rw [if_pos rfl, inC_3]
        by_cases h0 : n ≥ 0
        · rw [if_pos h0, decide_eq_true h0]; rfl
        · rw [if_neg h0, decide_eq_false h0]; rfl
      · rw [if_neg c3]
        by_cases c4 : c = 4
        · subst c4
          rw [if_pos rfl, inC_4]
          by_cases h0 : n ≥ 0
          · rw [if_pos h0, decide_eq_true h0, Bool.true_and]; congr 1; exact decide_eq_decide.2 (by omega)
          · rw [if_neg h0, decide_eq_false h0]; rfl
        · rw [if_neg c4]
          by_cases c5 : c = 5
          · subst c5
            rw [if_pos rfl, inC_5]
            by_cases h0 : n = 0
            · subst h0; rw [if_pos (show wrap64 (0 * 0) = 0 from wrap64_in _ (by decide)), if_pos (by decide)]; rfl
            · by_cases h1 : n = 1
              · subst h1; rw [if_pos (show wrap64 (1 * 1) = 1 from wrap64_in _ (by decide)), if_pos (by decide)]; rfl
              · have hr : ((n == 0) || (n == 1)) = false := by simp [h0, h1]
                rw [hr]
                split
                · split
                  · rw [decide_eq_false (by omega)]
                  · rfl
                · rfl
          · rw [if_neg c5, inC_no c1 c2 c3 c4 c5]
def tailErr (n : Node) (s : Spec) : Int := if (n.kids.length : Int) < s.least ∨ 0 ≤ s.most ∧ s.most < n.kids.length then 12 else 0
theorem check_l1 (n : Node) (s : Spec) (hs : TextsSmall n) (hl : n.texts.length ≤ 1000000) : ∀ (m i K : Nat), n.texts.length ≤ i + m → i ≤ n.texts.length → (∀ j, j < i → utfOk (str n.texts j) = true) →
    dioramaref08_Check.l1 (K + 1000034 + m) (i : Int) n.kind n.ints n.texts n.kids s.ints s.texts s.least s.most = some (if textsOk n.texts = false then 11 else tailErr n s)
  | 0, i, K, h1, h2, h3 => by
    have hi : i = n.texts.length := by omega
    have ht : textsOk n.texts = true := decide_eq_true (fun j hj => h3 j (by omega))
    rw [show K + 1000034 + 0 = (K + 1000033) + 1 by omega, dioramaref08_Check.l1, if_neg (by omega), ht, if_neg (show ¬ (true = false) by decide)]
    unfold tailErr
    by_cases h : (n.kids.length : Int) < s.least
    · rw [if_pos h, if_pos (.inl h)]
    · rw [if_neg h]
      by_cases h' : s.most ≥ 0
      · rw [if_pos h']
        by_cases h'' : (n.kids.length : Int) > s.most
        · rw [if_pos h'', if_pos (.inr ⟨h', h''⟩)]
        · rw [if_neg h'', if_neg (by omega)]
      · rw [if_neg h', if_neg (by omega)]
  | m + 1, i, K, h1, h2, h3 => by
    by_cases hi : i < n.texts.length
    · rw [show K + 1000034 + (m + 1) = (K + 1000034 + m) + 1 by omega, dioramaref08_Check.l1, if_pos (by omega), if_pos (Int.natCast_nonneg i)]
      have hrd : rdOf ByteArray.empty n.texts (i : Int) = str n.texts i := by unfold rdOf str; rw [Int.toNat_natCast]
      rw [hrd, right_f (str n.texts i) (hs i hi) _ (by have := hs i hi; omega), Option.bind_some]
      by_cases hu : utfOk (str n.texts i) = true
      · rw [if_pos hu, wrap64_in ((i : Int) + 1) (by omega), show (i : Int) + 1 = ((i + 1 : Nat) : Int) from rfl]
        exact check_l1 n s hs hl m (i + 1) K (by omega) (by omega) (ext_lt (P := fun j => utfOk (str n.texts j) = true) h3 hu)
      · rw [if_neg hu, textsOk_bad hi (Bool.eq_false_iff.2 hu), if_pos rfl]
    · have := check_l1 n s hs hl m i (K + 1) (by omega) h2 h3
      rw [show K + 1 + 1000034 + m = K + 1000034 + (m + 1) by omega] at this
      exact this
theorem check_l0 (n : Node) (s : Spec) (hs : TextsSmall n) (hl : n.texts.length ≤ 1000000) (hn : n.ints.length ≤ 1000000) (he : n.ints.length = s.ints.length) : ∀ (m i K : Nat), n.ints.length ≤ i + m → i ≤ n.ints.length → (∀ j, j < i → inC (rd s.ints j) (rd n.ints j) = true) →
    dioramaref08_Check.l0 (K + 2000035 + m) (i : Int) n.kind n.ints n.texts n.kids s.ints s.texts s.least s.most = some (nodeErr n s)
  | 0, i, K, h1, h2, h3 => by
    have hi : i = n.ints.length := by omega
    have ht : numsOk n.ints s.ints = true := decide_eq_true ⟨he, fun j hj => h3 j (by omega)⟩
    rw [show K + 2000035 + 0 = (K + 2000034) + 1 by omega, dioramaref08_Check.l0, if_neg (by omega)]
    unfold nodeErr
    rw [ht, if_neg (show ¬ (true = false) by decide)]
    by_cases h : (n.texts.length : Int) = s.texts
    · rw [if_pos h]
      have h1 := check_l1 n s hs hl n.texts.length 0 (K + 1000000 - n.texts.length) (by omega) (by omega) (fun j hj => by omega)
      rw [show K + 1000000 - n.texts.length + 1000034 + n.texts.length = K + 2000034 by omega] at h1
      refine h1.trans ?_
      congr 1
      by_cases hk : textsOk n.texts = false
      · rw [if_pos hk, if_pos (.inr hk)]
      · rw [if_neg hk, if_neg (fun hh => hh.elim (fun h' => h' h) hk)]; rfl
    · rw [if_neg h, if_pos (.inl h)]
  | m + 1, i, K, h1, h2, h3 => by
    by_cases hi : i < n.ints.length
    · rw [show K + 2000035 + (m + 1) = (K + 2000035 + m) + 1 by omega, dioramaref08_Check.l0, if_pos (by omega), if_pos (Int.natCast_nonneg i), if_pos (by omega), in_f, Option.bind_some]
      by_cases hu : inC (rd s.ints i) (rd n.ints i) = true
      · rw [if_pos hu, wrap64_in ((i : Int) + 1) (by omega), show (i : Int) + 1 = ((i + 1 : Nat) : Int) from rfl]
        exact check_l0 n s hs hl hn he m (i + 1) K (by omega) (by omega) (ext_lt (P := fun j => inC (rd s.ints j) (rd n.ints j) = true) h3 hu)
      · rw [if_neg hu]
        unfold nodeErr
        rw [if_pos (numsOk_bad hi (Bool.eq_false_iff.2 hu))]
    · have := check_l0 n s hs hl hn he m i (K + 1) (by omega) h2 h3
      rw [show K + 1 + 2000035 + m = K + 2000035 + (m + 1) by omega] at this
      exact this
theorem check_f (n : Node) (s : Spec) (hs : TextsSmall n) (hm : Small n) : dioramaref08_Check.f 3000035 n.kind n.ints n.texts n.kids s.ints s.texts s.least s.most = some (nodeErr n s) := by
  unfold dioramaref08_Check.f
  by_cases h : n.ints.length = s.ints.length
  · rw [if_pos (by omega)]
    have h1 := check_l0 n s hs hm.2.1 hm.1 h n.ints.length 0 (1000000 - n.ints.length) (by omega) (by omega) (fun j hj => by omega)
    rw [show 1000000 - n.ints.length + 2000035 + n.ints.length = 3000035 by have := hm.1; omega] at h1
    exact h1
  · rw [if_neg (by omega)]
    unfold nodeErr
    rw [if_pos (numsOk_len h)]
theorem rcheck_any (n : Node) (A1 : Option Addr) (c1 : Nat) (A2 : Option Addr) (c2 : Nat) (A3 : Option Addr) (c3 : Nat) (s : Spec) (A4 : Option Addr) (c4 : Nat) (w : World) (h : NodeC w n A1 c1 A2 c2 A3 c3) (h4 : SpecC w s A4 c4) (hs : TextsSmall n) (hm : Small n) :
    Calls Tryz.prog 33 #[.agg #[.int .i64 n.kind, .slice A1 n.ints.length c1, .slice A2 n.texts.length c2, .slice A3 n.kids.length c3], .agg #[.slice A4 s.ints.length c4, .int .i64 s.texts, .int .i64 s.least, .int .i64 s.most]] w
      fun e w' => e = .returned (.int .i64 (nodeErr n s)) ∧ Below w.heap.size w w' :=
  dioramaref08_Check.calls 3000035 n.kind A1 c1 n.ints A2 c2 n.texts A3 c3 n.kids A4 c4 s.ints s.texts s.least s.most _ w h.i h.l1 h.t h.l2 h.k h.l3 h4.i h4.l (check_f n s hs hm)
end Go.Proofs.YtggldnbhmebcpaaGreatDoor.L
end
section
namespace Go.Proofs.YtggldnbhmebcpaaGreatDoor.L
open Go.RowKit Go.ChangeShapes Go.WideShapes Go.Proofs.YtggldnbhmebcpaaGreatDoorW.PrintWords Go.Proofs.YtggldnbhmebcpaaGreatDoorW.PrintLast Go.Proofs.YtggldnbhmebcpaaGreatDoorW.PrintMore
attribute [local go_sem] max2_int min2_int max_two min_two max_three min_three max_four min_four
theorem findS_no (l : List Spec) (k : Int) (h : ∀ i : Nat, 1 ≤ i → i < l.length → k ≠ (i : Int)) : findS l k = none := by
  unfold findS
  rw [if_pos]
  rcases Int.lt_or_le k 1 with h1 | h1
  · exact .inl h1
  · refine .inr ?_
    rcases Int.lt_or_le k l.length with h2 | h2
    · exact absurd (Int.toNat_of_nonneg (show 0 ≤ k by omega)).symm (h k.toNat (by omega) (by omega))
    · exact h2
set_option maxRecDepth 100000 in
set_option maxHeartbeats 4000000 in
theorem rspec_2 (k : Int) (w : World) : Calls Tryz.prog 32 #[.int .i64 2, .int .i64 k] w (SpecPost (Past w.heap.size) (findS newTab k) w) := by
  have HB := Aside0.mk (Below.refl w.heap.size w)
  have hu := Tryz.underlying66
  by_cases k1 : k = 1
  · subst k1
    have HE : Aside0 (findS newTab 1 = some ⟨[], 1, 0, -1⟩) := ⟨rfl⟩
    go_enter Tryz.func32, Tryz.ntmps32
    go_wp2
    rw [HE.out]
    exact bodyPost_ret (v := .tuple #[.agg #[.slice none 0 0, .int .i64 1, .int .i64 0, .int .i64 (-1)], .bool true]) (by simp [results, Tryz.results32, go_sem]) rfl ⟨none, 0, rfl, ⟨Nat.le_refl _, C_nil _ _⟩, Past.none _, by repeat (first | with_reducible exact HB.out | with_reducible apply below_alloc | with_reducible apply pw_below_drewN | with_reducible apply below_drew1 | (with_reducible refine below_set ?_ (by first | omega | (simp; omega))))⟩
  by_cases k2 : k = 2
  · subst k2
    have HE : Aside0 (findS newTab 2 = some ⟨[2, 2, 2], 0, 1, 1⟩) := ⟨rfl⟩
    go_enter Tryz.func32, Tryz.ntmps32
    go_wp2
    rw [HE.out]
    exact bodyPost_ret (v := .tuple #[.agg #[.slice (some ⟨w.heap.size + 2, 0, none⟩) 3 3, .int .i64 0, .int .i64 1, .int .i64 (1)], .bool true]) (by simp [results, Tryz.results32, go_sem]) rfl ⟨(some ⟨w.heap.size + 2, 0, none⟩), 3, rfl, ⟨Nat.le_refl _, C_ints _ 3 _ (by simp) [2, 2, 2] (by decide) rfl⟩, fun ad h => by cases h; simp, by repeat (first | with_reducible exact HB.out | with_reducible apply below_alloc | with_reducible apply pw_below_drewN | with_reducible apply below_drew1 | (with_reducible refine below_set ?_ (by first | omega | (simp; omega))))⟩
  by_cases k3 : k = 3
  · subst k3
    have HE : Aside0 (findS newTab 3 = some ⟨[3, 3, 3], 1, 0, 0⟩) := ⟨rfl⟩
    go_enter Tryz.func32, Tryz.ntmps32
    go_wp2
    rw [HE.out]
    exact bodyPost_ret (v := .tuple #[.agg #[.slice (some ⟨w.heap.size + 2, 0, none⟩) 3 3, .int .i64 1, .int .i64 0, .int .i64 (0)], .bool true]) (by simp [results, Tryz.results32, go_sem]) rfl ⟨(some ⟨w.heap.size + 2, 0, none⟩), 3, rfl, ⟨Nat.le_refl _, C_ints _ 3 _ (by simp) [3, 3, 3] (by decide) rfl⟩, fun ad h => by cases h; simp, by repeat (first | with_reducible exact HB.out | with_reducible apply below_alloc | with_reducible apply pw_below_drewN | with_reducible apply below_drew1 | (with_reducible refine below_set ?_ (by first | omega | (simp; omega))))⟩
  by_cases k4 : k = 4
  · subst k4
    have HE : Aside0 (findS newTab 4 = some ⟨[3], 1, 0, 0⟩) := ⟨rfl⟩
    go_enter Tryz.func32, Tryz.ntmps32
    go_wp2
    rw [HE.out]
    exact bodyPost_ret (v := .tuple #[.agg #[.slice (some ⟨w.heap.size + 2, 0, none⟩) 1 1, .int .i64 1, .int .i64 0, .int .i64 (0)], .bool true]) (by simp [results, Tryz.results32, go_sem]) rfl ⟨(some ⟨w.heap.size + 2, 0, none⟩), 1, rfl, ⟨Nat.le_refl _, C_ints _ 3 _ (by simp) [3] (by decide) rfl⟩, fun ad h => by cases h; simp, by repeat (first | with_reducible exact HB.out | with_reducible apply below_alloc | with_reducible apply pw_below_drewN | with_reducible apply below_drew1 | (with_reducible refine below_set ?_ (by first | omega | (simp; omega))))⟩
  by_cases k5 : k = 5
  · subst k5
    have HE : Aside0 (findS newTab 5 = some ⟨[3], 2, 0, 0⟩) := ⟨rfl⟩
    go_enter Tryz.func32, Tryz.ntmps32
    go_wp2
    rw [HE.out]
    exact bodyPost_ret (v := .tuple #[.agg #[.slice (some ⟨w.heap.size + 2, 0, none⟩) 1 1, .int .i64 2, .int .i64 0, .int .i64 (0)], .bool true]) (by simp [results, Tryz.results32, go_sem]) rfl ⟨(some ⟨w.heap.size + 2, 0, none⟩), 1, rfl, ⟨Nat.le_refl _, C_ints _ 3 _ (by simp) [3] (by decide) rfl⟩, fun ad h => by cases h; simp, by repeat (first | with_reducible exact HB.out | with_reducible apply below_alloc | with_reducible apply pw_below_drewN | with_reducible apply below_drew1 | (with_reducible refine below_set ?_ (by first | omega | (simp; omega))))⟩
  by_cases k6 : k = 6
  · subst k6
    have HE : Aside0 (findS newTab 6 = some ⟨[1], 0, 0, -1⟩) := ⟨rfl⟩
    go_enter Tryz.func32, Tryz.ntmps32
    go_wp2
    rw [HE.out]
    exact bodyPost_ret (v := .tuple #[.agg #[.slice (some ⟨w.heap.size + 2, 0, none⟩) 1 1, .int .i64 0, .int .i64 0, .int .i64 (-1)], .bool true]) (by simp [results, Tryz.results32, go_sem]) rfl ⟨(some ⟨w.heap.size + 2, 0, none⟩), 1, rfl, ⟨Nat.le_refl _, C_ints _ 3 _ (by simp) [1] (by decide) rfl⟩, fun ad h => by cases h; simp, by repeat (first | with_reducible exact HB.out | with_reducible apply below_alloc | with_reducible apply pw_below_drewN | with_reducible apply below_drew1 | (with_reducible refine below_set ?_ (by first | omega | (simp; omega))))⟩
  by_cases k7 : k = 7
  · subst k7
    have HE : Aside0 (findS newTab 7 = some ⟨[4, 4, 4, 5], 0, 0, 0⟩) := ⟨rfl⟩
    go_enter Tryz.func32, Tryz.ntmps32
    go_wp2
    rw [HE.out]
    exact bodyPost_ret (v := .tuple #[.agg #[.slice (some ⟨w.heap.size + 2, 0, none⟩) 4 4, .int .i64 0, .int .i64 0, .int .i64 (0)], .bool true]) (by simp [results, Tryz.results32, go_sem]) rfl ⟨(some ⟨w.heap.size + 2, 0, none⟩), 4, rfl, ⟨Nat.le_refl _, C_ints _ 3 _ (by simp) [4, 4, 4, 5] (by decide) rfl⟩, fun ad h => by cases h; simp, by repeat (first | with_reducible exact HB.out | with_reducible apply below_alloc | with_reducible apply pw_below_drewN | with_reducible apply below_drew1 | (with_reducible refine below_set ?_ (by first | omega | (simp; omega))))⟩
  by_cases k8 : k = 8
  · subst k8
    have HE : Aside0 (findS newTab 8 = some ⟨[2, 2, 2], 0, 1, 1⟩) := ⟨rfl⟩
    go_enter Tryz.func32, Tryz.ntmps32
    go_wp2
    rw [HE.out]
    exact bodyPost_ret (v := .tuple #[.agg #[.slice (some ⟨w.heap.size + 2, 0, none⟩) 3 3, .int .i64 0, .int .i64 1, .int .i64 (1)], .bool true]) (by simp [results, Tryz.results32, go_sem]) rfl ⟨(some ⟨w.heap.size + 2, 0, none⟩), 3, rfl, ⟨Nat.le_refl _, C_ints _ 3 _ (by simp) [2, 2, 2] (by decide) rfl⟩, fun ad h => by cases h; simp, by repeat (first | with_reducible exact HB.out | with_reducible apply below_alloc | with_reducible apply pw_below_drewN | with_reducible apply below_drew1 | (with_reducible refine below_set ?_ (by first | omega | (simp; omega))))⟩
  have HE : Aside0 (findS newTab k = none) := ⟨findS_no _ _ (fun i h1 h2 => by simp [newTab] at h2; omega)⟩
  go_enter Tryz.func32, Tryz.ntmps32
  go_wp2
  rw [HE.out]
  exact bodyPost_ret (v := .tuple #[.agg #[.slice none 0 0, .int .i64 0, .int .i64 0, .int .i64 0], .bool false]) (by simp [results, Tryz.results32, go_sem]) rfl ⟨none, 0, rfl, ⟨Nat.le_refl _, C_nil _ _⟩, Past.none _, by repeat (first | with_reducible exact HB.out | with_reducible apply below_alloc | with_reducible apply pw_below_drewN | with_reducible apply below_drew1 | (with_reducible refine below_set ?_ (by first | omega | (simp; omega))))⟩
end Go.Proofs.YtggldnbhmebcpaaGreatDoor.L
end
section
namespace Go.Proofs.YtggldnbhmebcpaaGreatDoor.L
open Go.RowKit Go.ChangeShapes Go.WideShapes Go.Proofs.YtggldnbhmebcpaaGreatDoorW.PrintWords Go.Proofs.YtggldnbhmebcpaaGreatDoorW.PrintLast Go.Proofs.YtggldnbhmebcpaaGreatDoorW.PrintMore
attribute [local go_sem] max2_int min2_int max_two min_two max_three min_three max_four min_four
set_option maxRecDepth 100000 in
set_option maxHeartbeats 4000000 in
theorem rtyped_2 (A : Option Addr) (c : Nat) (s : Scene) (w : World) (h : kNode.C w A s.nodes.length s.nodes) (hS : ∀ i : Nat, i < s.nodes.length → Small (nd s.nodes i)) (hTS : ∀ i : Nat, i < s.nodes.length → TextsSmall (nd s.nodes i)) :
    Calls Tryz.prog 13 #[.agg #[.slice A s.nodes.length c, .int .i64 s.root], .int .i64 2] w fun e w' => e = .returned (.tuple #[.int .i64 (typedS newTab s.nodes).1, .int .i64 (typedS newTab s.nodes).2]) ∧ Below w.heap.size w w' := by
  have HR := Aside0.mk h
  have HS := Aside0.mk hS
  have HTS := Aside0.mk hTS
  have b0 := h.2.1
  have HB := Aside0.mk (below_alloc (Below.refl w.heap.size w) (.cells #[.slice A s.nodes.length c, .int .i64 s.root] 24))
  have k0 := box_cell w _ rfl #[.slice A s.nodes.length c, .int .i64 s.root] 24 0 (.slice A s.nodes.length c) rfl
  have HK := Aside0.mk k0
  have hu := Tryz.underlying24
  have hun := Tryz.underlying42
  have hus := Tryz.underlying66
  clear h hS hTS
  go_enter Tryz.func13, Tryz.ntmps13
  go_wp2
  clear k0
  go_loopw [6] (fun v6 W => ∃ i : Nat, i ≤ s.nodes.length ∧ v6 = .int .i64 i ∧ Aside0 (∀ j : Nat, j < i → nodeT newTab (nd s.nodes j) = 0) ∧ Aside0 (Below w.heap.size w W) ∧ Aside0 (W.cell? ⟨w.heap.size, 0, none⟩ = some (.slice A s.nodes.length c))) (fun v6 _ => s.nodes.length - (intOf v6).toNat)
  case atStart => exact ⟨0, by omega, rfl, ⟨fun j h => by omega⟩, HB, HK⟩
  case round =>
    clear HK HB
    obtain ⟨i, hi, rfl, HA, HW, HK⟩ := hrel
    have k0 := HK.out
    by_cases hlt : i < s.nodes.length
    · obtain ⟨adn, A1, c1, A2, c2, A3, c3, rfl, x0, x1, x2, x3, hN⟩ := at_node HR.out i hlt
      replace x0 := pw_cell_below HW.out x0
      replace x1 := pw_cell_below HW.out x1
      replace x2 := pw_cell_below HW.out x2
      replace x3 := pw_cell_below HW.out x3
      have HN := Aside0.mk hN
      clear hN
      go_wp2_with fail
      refine (rspec_2 (nd s.nodes i).kind _).mono ?_
      rintro e w6 ⟨A4, c4, rfl, hS6, -, hB6⟩
      have HB6 := Aside0.mk (below_step HW.out hB6)
      replace k0 := pw_cell_below hB6 k0
      replace x0 := pw_cell_below hB6 x0
      replace x1 := pw_cell_below hB6 x1
      replace x2 := pw_cell_below hB6 x2
      replace x3 := pw_cell_below hB6 x3
      cases hf : findS newTab (nd s.nodes i).kind with
      | none =>
        have HE := Aside0.mk (typedS_bad (tab := newTab) hlt HA.out (by unfold nodeT; rw [hf]; exact (by decide : ¬ (9 : Int) = 0)))
        have HE2 := Aside0.mk (show nodeT newTab (nd s.nodes i) = 9 from by unfold nodeT; rw [hf])
        clear hf hS6 hB6 x0 x1 x2 x3
        go_wp2
        go_ret2
        exact ⟨ret_pair (by rw [HE.out, HE2.out]), below_step HB6.out (below_alloc (Below.refl _ _) _)⟩
      | some sp =>
        have HE2 := Aside0.mk (show nodeT newTab (nd s.nodes i) = nodeErr (nd s.nodes i) sp from by unfold nodeT; rw [hf])
        rw [hf] at hS6
        have hbs := below_alloc (Below.refl w6.heap.size w6) (.cells #[.slice A4 sp.ints.length c4, .int .i64 sp.texts, .int .i64 sp.least, .int .i64 sp.most] 66)
        have q0 := box_cell w6 _ rfl #[.slice A4 sp.ints.length c4, .int .i64 sp.texts, .int .i64 sp.least, .int .i64 sp.most] 66 0 (.slice A4 sp.ints.length c4) rfl
        have q1 := box_cell w6 _ rfl #[.slice A4 sp.ints.length c4, .int .i64 sp.texts, .int .i64 sp.least, .int .i64 sp.most] 66 1 (.int .i64 sp.texts) rfl
        have q2 := box_cell w6 _ rfl #[.slice A4 sp.ints.length c4, .int .i64 sp.texts, .int .i64 sp.least, .int .i64 sp.most] 66 2 (.int .i64 sp.least) rfl
        have q3 := box_cell w6 _ rfl #[.slice A4 sp.ints.length c4, .int .i64 sp.texts, .int .i64 sp.least, .int .i64 sp.most] 66 3 (.int .i64 sp.most) rfl
        have HS6 := Aside0.mk (SpecC.below hS6 hbs)
        have HB7 := Aside0.mk (below_step HB6.out hbs)
        replace k0 := pw_cell_below hbs k0
        replace x0 := pw_cell_below hbs x0
        replace x1 := pw_cell_below hbs x1
        replace x2 := pw_cell_below hbs x2
        replace x3 := pw_cell_below hbs x3
        clear hf hS6 hB6 hbs
        go_wp2
        go_region_held3 (fun W => W.cell? ⟨w.heap.size, 0, none⟩ = some (.slice (some adn) s.nodes.length c) ∧ W.cell? (adn.add (i * 4)) = some (.int .i64 (nd s.nodes i).kind) ∧ W.cell? ⟨(adn.add (i * 4)).block, (adn.add (i * 4)).off + 1, none⟩ = some (.slice A1 (nd s.nodes i).ints.length c1) ∧ W.cell? ⟨(adn.add (i * 4)).block, (adn.add (i * 4)).off + 2, none⟩ = some (.slice A2 (nd s.nodes i).texts.length c2) ∧ W.cell? ⟨(adn.add (i * 4)).block, (adn.add (i * 4)).off + 3, none⟩ = some (.slice A3 (nd s.nodes i).kids.length c3) ∧
            W.cell? ⟨w6.heap.size, 0, none⟩ = some (.slice A4 sp.ints.length c4) ∧ W.cell? ⟨w6.heap.size, 1, none⟩ = some (.int .i64 sp.texts) ∧ W.cell? ⟨w6.heap.size, 2, none⟩ = some (.int .i64 sp.least) ∧ W.cell? ⟨w6.heap.size, 3, none⟩ = some (.int .i64 sp.most))
          (first
            | (go_split_ands
               (repeat' apply And.intro)
               all_goals first
                 | with_reducible assumption
                 | with_reducible exact pw_cell_below hB (by assumption)
                 | (simp [*]; done)))
          (first
            | (go_at_call 33; refine (rcheck_any (nd s.nodes i) A1 c1 A2 c2 A3 c3 sp A4 c4 _ (HN.out.below (below_drew HB7.out)) (SpecC.below HS6.out (below_drew (Below.refl _ _))) (HTS.out i hlt) (HS.out i hlt)).mono ?_; rintro e w8 ⟨rfl, hB8⟩; have hB := hB8))
        have HB8 := Aside0.mk (below_step (below_drew HB7.out) hB)
        have HK8 := Aside0.mk (pw_cell_below hB (show (w6.alloc _).drew.cell? _ = _ from k0))
        clear hB x0 x1 x2 x3 q0 q1 q2 q3 k0
        by_cases hz : nodeErr (nd s.nodes i) sp = 0
        · have HA2 := Aside0.mk (ext_lt HA.out (HE2.out.trans hz))
          rw [hz]
          clear hz
          go_wp2
          go_roundw
          case rel => exact ⟨i + 1, by omega, by go_num, HA2, HB8, HK8⟩
          case measure => simp [intOf]; omega
        · have HE := Aside0.mk (typedS_bad (tab := newTab) hlt HA.out (by rw [HE2.out]; exact hz))
          have dz : (nodeErr (nd s.nodes i) sp != 0) = true := by simpa using hz
          clear hz
          go_wp2
          go_ret2
          exact ⟨ret_pair (by rw [HE.out, HE2.out]), HB8.out⟩
    · obtain rfl : i = s.nodes.length := by omega
      have HE := Aside0.mk (typedS_ok (tab := newTab) HA.out)
      go_wp2
      go_ret2
      exact ⟨ret_pair HE.out, HW.out⟩
end Go.Proofs.YtggldnbhmebcpaaGreatDoor.L
end
section
namespace Go.Proofs.YtggldnbhmebcpaaGreatDoor.L
open Go.RowKit Go.ChangeShapes Go.WideShapes Go.Proofs.YtggldnbhmebcpaaGreatDoorW.PrintWords Go.Proofs.YtggldnbhmebcpaaGreatDoorW.PrintLast Go.Proofs.YtggldnbhmebcpaaGreatDoorW.PrintMore
attribute [local go_sem] max2_int min2_int max_two min_two max_three min_three max_four min_four
noncomputable def rightB (s : Scene) : Bool := (gcheck s).1 == 0
set_option maxRecDepth 100000 in
theorem rright_any (A : Option Addr) (c : Nat) (s : Scene) (w : World) (h : kNode.C w A s.nodes.length s.nodes) (hc : s.nodes.length ≤ c) (hM : rows s.nodes ≤ 1000000) :
    Calls Tryz.prog 34 #[.agg #[.slice A s.nodes.length c, .int .i64 s.root]] w fun e w' => e = .returned (.bool (rightB s)) ∧ Below w.heap.size w w' := by
  have HR := Aside0.mk h
  have HB := Aside0.mk (below_alloc (Below.refl w.heap.size w) (.cells #[.slice A s.nodes.length c, .int .i64 s.root] 24))
  have k0 := box_cell w _ rfl #[.slice A s.nodes.length c, .int .i64 s.root] 24 0 (.slice A s.nodes.length c) rfl
  have k1 := box_cell w _ rfl #[.slice A s.nodes.length c, .int .i64 s.root] 24 1 (.int .i64 s.root) rfl
  have hu := Tryz.underlying24
  have HE := Aside0.mk (show rightB s = ((gcheck s).1 == 0) from rfl)
  clear h
  go_enter Tryz.func34, Tryz.ntmps34
  go_wp2_with fail
  refine (rchk_any A c s _ (Kd.C_below HR.out HB.out) hc hM).mono ?_
  rintro e w1 ⟨rfl, hB1⟩
  have HB1 := Aside0.mk (below_step HB.out hB1)
  clear hB1 k0 k1
  generalize (gcheck s).1 = g at HE ⊢
  generalize (gcheck s).2 = g2
  go_wp2
  go_ret
  exact ⟨ret_bool HE.out.symm, HB1.out⟩
end Go.Proofs.YtggldnbhmebcpaaGreatDoor.L
end
section
namespace Go.Proofs.YtggldnbhmebcpaaGreatDoor.L
open Go.RowKit Go.ChangeShapes Go.WideShapes Go.Proofs.YtggldnbhmebcpaaGreatDoorW.PrintWords Go.Proofs.YtggldnbhmebcpaaGreatDoorW.PrintLast Go.Proofs.YtggldnbhmebcpaaGreatDoorW.PrintMore
attribute [local go_sem] max2_int min2_int max_two min_two max_three min_three max_four min_four
noncomputable def whole2 (s : Scene) : Bool := (typedS newTab s.nodes).1 == 0 && rightB s
set_option maxRecDepth 100000 in
set_option maxHeartbeats 1000000 in
theorem rwhole_2 (A : Option Addr) (c : Nat) (s : Scene) (w : World) (h : kNode.C w A s.nodes.length s.nodes) (hc : s.nodes.length ≤ c) (hS : ∀ i : Nat, i < s.nodes.length → Small (nd s.nodes i)) (hTS : ∀ i : Nat, i < s.nodes.length → TextsSmall (nd s.nodes i)) (hM : rows s.nodes ≤ 1000000) :
    Calls Tryz.prog 38 #[.agg #[.slice A s.nodes.length c, .int .i64 s.root], .int .i64 2] w fun e w' => e = .returned (.bool (whole2 s)) ∧ Below w.heap.size w w' := by
  have HR := Aside0.mk h
  have HB := Aside0.mk (below_alloc (Below.refl w.heap.size w) (.cells #[.slice A s.nodes.length c, .int .i64 s.root] 24))
  have k0 := box_cell w _ rfl #[.slice A s.nodes.length c, .int .i64 s.root] 24 0 (.slice A s.nodes.length c) rfl
  have k1 := box_cell w _ rfl #[.slice A s.nodes.length c, .int .i64 s.root] 24 1 (.int .i64 s.root) rfl
  have hu := Tryz.underlying24
  clear h
  go_enter Tryz.func38, Tryz.ntmps38
  go_wp2_with fail
  refine (rtyped_2 A c s _ (Kd.C_below HR.out HB.out) hS hTS).mono ?_
  rintro e w1 ⟨rfl, hB1⟩
  replace k0 := pw_cell_below hB1 k0
  replace k1 := pw_cell_below hB1 k1
  have HB1 := Aside0.mk (below_step HB.out hB1)
  clear hB1
  by_cases hty : (typedS newTab s.nodes).1 = 0
  · have HE : Aside0 (whole2 s = rightB s) := ⟨by unfold whole2; rw [hty]; rfl⟩
    rw [hty]
    clear hty
    go_wp2_with fail
    refine (rright_any A c s _ (Kd.C_below HR.out HB1.out) hc hM).mono ?_
    rintro e w2 ⟨rfl, hB2⟩
    have HB2 := Aside0.mk (below_step HB1.out hB2)
    clear hB2 k0 k1
    go_wp2
    go_ret
    exact ⟨ret_bool HE.out.symm, HB2.out⟩
  · have HE : Aside0 (whole2 s = false) := ⟨by unfold whole2; rw [beq_eq_false_iff_ne.2 hty]; rfl⟩
    have d1 : ((typedS newTab s.nodes).1 == 0) = false := beq_eq_false_iff_ne.2 hty
    clear hty k0 k1
    go_wp2
    go_ret
    exact ⟨ret_bool HE.out.symm, HB1.out⟩
end Go.Proofs.YtggldnbhmebcpaaGreatDoor.L
end
section
namespace Go.Proofs.YtggldnbhmebcpaaGreatDoor.L
open Go.RowKit Go.ChangeShapes Go.WideShapes Go.Proofs.YtggldnbhmebcpaaGreatDoorW.PrintWords Go.Proofs.YtggldnbhmebcpaaGreatDoorW.PrintLast Go.Proofs.YtggldnbhmebcpaaGreatDoorW.PrintMore
attribute [local go_sem] max2_int min2_int max_two min_two max_three min_three max_four min_four
open Go.Proofs.YtggldnbhmebcpaaGreatDoor.PDeltaMakes
theorem refN_len (ns : List Node) (l : List Int) : (refCanL ns l).length = l.length := by simp [refCanL]
theorem take_succ_map {α β : Type} (f : α → β) (l : List α) (i : Nat) (h : i < l.length) : (l.map f).take (i + 1) = (l.map f).take i ++ [f l[i]] := by
  rw [List.take_succ_eq_append_getElem (by simpa using h)]
  simp
set_option maxRecDepth 100000 in
set_option maxHeartbeats 8000000 in
theorem rcanon_any (A : Option Addr) (c : Nat) (s : Scene) (l : List Int) (k : Nat) (w : World) (h : kNode.C w A s.nodes.length s.nodes) (hc : s.nodes.length ≤ c) (hS : ∀ i : Nat, i < s.nodes.length → Small (nd s.nodes i))
    (ho : dioramaref10_Order.f k (s.nodes.map toS) s.root = some l) (hl : l.length ≤ 1000000) (hp : ∀ x ∈ l, 0 ≤ x ∧ x < (s.nodes.length : Int)) :
    Calls Tryz.prog 35 #[.agg #[.slice A s.nodes.length c, .int .i64 s.root]] w (SceneRPost ⟨refCanL s.nodes l, (l.length : Int) - 1⟩ w) := by
  have HR := Aside0.mk h
  have HSm := Aside0.mk hS
  have HO := Aside0.mk ho
  have HP := Aside0.mk hp
  have HCc := Aside0.mk hc
  have b0 := h.2.1
  have HB := Aside0.mk (below_alloc (below_alloc (Below.refl w.heap.size w) (.cells #[.slice A s.nodes.length c, .int .i64 s.root] 24)) (.cells #[.slice none 0 0, .int .i64 0] 24))
  have k0 := box_cell2 w _ rfl #[.slice A s.nodes.length c, .int .i64 s.root] 24 (.cells #[.slice none 0 0, .int .i64 0] 24) 0 (.slice A s.nodes.length c) rfl
  have k1 := box_cell2 w _ rfl #[.slice A s.nodes.length c, .int .i64 s.root] 24 (.cells #[.slice none 0 0, .int .i64 0] 24) 1 (.int .i64 s.root) rfl
  have HL := Aside0.mk (show ((w.alloc (.cells #[.slice A s.nodes.length c, .int .i64 s.root] 24)).alloc (.cells #[.slice none 0 0, .int .i64 0] 24)).heap[w.heap.size + 1]? = some (.cells #[.slice none 0 0, .int .i64 0] 24 (0, 0)) from by
    have := heap_alloc_new (w.alloc (.cells #[.slice A s.nodes.length c, .int .i64 s.root] 24)) (.cells #[.slice none 0 0, .int .i64 0] 24)
    simpa using this)
  have hu := Tryz.underlying24
  have hun := Tryz.underlying42
  clear h hc hS ho hp
  go_enter Tryz.func35, Tryz.ntmps35
  go_wp2_with fail
  have hml : (s.nodes.map toS).length = s.nodes.length := List.length_map ..
  have hcall := dioramaref10_Order.calls k A c (s.nodes.map toS) s.root l ((w.alloc (.cells #[.slice A s.nodes.length c, .int .i64 s.root] 24)).alloc (.cells #[.slice none 0 0, .int .i64 0] 24)) (by rw [hml]; exact C_to (Kd.C_below HR.out HB.out)) (by rw [hml]; exact HCc.out) HO.out
  rw [hml] at hcall
  refine hcall.mono ?_
  clear hcall hml
  rintro e w1 ⟨v, rfl, hV, hB1⟩
  obtain ⟨A3, c3, rfl⟩ := Kd.V_slice hV
  have HV := Aside0.mk (Kd.V_reads' hV)
  have hlc : l.length ≤ c3 := HV.out.2.1
  have HB1 := Aside0.mk (below_step HB.out hB1)
  have HL1 := Aside0.mk ((hB1.block _ (blk_lt HL.out)).trans HL.out)
  have HK1 := Aside0.mk (pw_cell_below hB1 k0)
  have HI := Aside0.mk (CnRel.start w1 ((l.length : Int) - 1))
  have hw1 : IntKind.i64.wrap ((l.length : Int) - 1) = (l.length : Int) - 1 := wrap_i (by omega) (by omega)
  clear hV hB1 k0 k1 HL HB
  go_wp2
  generalize w1.alloc (.cells #[.slice none 0 0, .int .i64 ((l.length : Int) - 1)] 24) = W5 at HI ⊢
  go_loopw [5] (fun v5 W => ∃ i : Nat, i ≤ l.length ∧ v5 = .int .i64 i ∧ ∃ A4 c4, Aside0 (CnRel w1 ((l.length : Int) - 1) ((refCanL s.nodes l).take i) (.slice A4 i c4) W)) (fun v5 _ => l.length - (intOf v5).toNat)
  case atStart => exact ⟨0, by omega, rfl, none, 0, by rw [List.take_zero]; exact HI⟩
  case round =>
    clear HI
    obtain ⟨i, hi, rfl, A4, c4, HI⟩ := hrel
    by_cases hlt : i < l.length
    · obtain ⟨adl, rfl, z0⟩ := at_nat (Kd.C_below HV.out.2.2 HI.out.below) i hlt
      have hpi := HP.out _ (rd_mem hlt)
      obtain ⟨q, hq⟩ : ∃ q : Nat, rd l (i : Int) = (q : Int) := ⟨(rd l (i : Int)).toNat, by omega⟩
      rw [hq] at z0 hpi
      have hqn : q < s.nodes.length := by omega
      have HRN : Aside0 ((refCanL s.nodes l).take (i + 1) = (refCanL s.nodes l).take i ++ [⟨(nd s.nodes q).kind, (nd s.nodes q).ints, (nd s.nodes q).texts, (nd s.nodes q).kids.map (findI l)⟩]) := ⟨by
        unfold refCanL
        rw [take_succ_map _ _ _ hlt]
        have : l[i] = (q : Int) := by rw [← hq, rd_eq hlt]
        rw [this]; unfold refN; rw [Int.toNat_natCast]⟩
      clear hq hpi
      obtain ⟨adn, A1, c1, A2, c2, A5, c5, rfl, x0, x1, x2, x3, hN⟩ := at_node HR.out q hqn
      have k0 := pw_cell_below HI.out.below HK1.out
      have HW := Aside0.mk (below_step HB1.out HI.out.below)
      replace x0 := pw_cell_below HW.out x0
      replace x1 := pw_cell_below HW.out x1
      replace x2 := pw_cell_below HW.out x2
      replace x3 := pw_cell_below HW.out x3
      have HN := Aside0.mk hN
      clear hN
      have HSq := Aside0.mk (HSm.out q hqn)
      have hbz : (wr.alloc (.cells #[.int .i64 0, .slice none 0 0, .slice none 0 0, .slice none 0 0] 42)).drew.heap[wr.heap.size]? = some (.cells #[.int .i64 0, .slice none 0 0, .slice none 0 0, .slice none 0 0] 42 (0, 0)) := by
        show (wr.alloc _).heap[wr.heap.size]? = _
        simpa using heap_alloc_new wr _
      have HBZ := Aside0.mk hbz
      have hbA := below_drew (below_alloc (Below.refl wr.heap.size wr) (.cells #[.int .i64 0, .slice none 0 0, .slice none 0 0, .slice none 0 0] 42))
      have HBA := Aside0.mk hbA
      have n0 : wr.heap.size ≠ w.heap.size := World.new_ne wr _ k0
      have n1 := World.new_ne wr _ z0
      have n2 := World.new_ne wr _ x0
      clear hbz hbA
      have k0d : wr.drew.cell? ⟨w.heap.size, 0, none⟩ = some (.slice (some adn) s.nodes.length c) := k0
      have k0a : (wr.alloc (.cells #[.int .i64 0, .slice none 0 0, .slice none 0 0, .slice none 0 0] 42)).drew.cell? ⟨w.heap.size, 0, none⟩ = some (.slice (some adn) s.nodes.length c) := pw_cell_below HBA.out k0
      have z0d : wr.drew.cell? (adl.add i) = some (.int .i64 q) := z0
      have z0a : (wr.alloc (.cells #[.int .i64 0, .slice none 0 0, .slice none 0 0, .slice none 0 0] 42)).drew.cell? (adl.add i) = some (.int .i64 q) := pw_cell_below HBA.out z0
      have x0d : wr.drew.cell? (adn.add (q * 4)) = some (.int .i64 (nd s.nodes q).kind) := x0
      have x0a : (wr.alloc (.cells #[.int .i64 0, .slice none 0 0, .slice none 0 0, .slice none 0 0] 42)).drew.cell? (adn.add (q * 4)) = some (.int .i64 (nd s.nodes q).kind) := pw_cell_below HBA.out x0
      have x1d : wr.drew.cell? ⟨(adn.add (q * 4)).block, (adn.add (q * 4)).off + 1, none⟩ = some (.slice A1 (nd s.nodes q).ints.length c1) := x1
      have x1a : (wr.alloc (.cells #[.int .i64 0, .slice none 0 0, .slice none 0 0, .slice none 0 0] 42)).drew.cell? ⟨(adn.add (q * 4)).block, (adn.add (q * 4)).off + 1, none⟩ = some (.slice A1 (nd s.nodes q).ints.length c1) := pw_cell_below HBA.out x1
      have x2d : wr.drew.cell? ⟨(adn.add (q * 4)).block, (adn.add (q * 4)).off + 2, none⟩ = some (.slice A2 (nd s.nodes q).texts.length c2) := x2
      have x2a : (wr.alloc (.cells #[.int .i64 0, .slice none 0 0, .slice none 0 0, .slice none 0 0] 42)).drew.cell? ⟨(adn.add (q * 4)).block, (adn.add (q * 4)).off + 2, none⟩ = some (.slice A2 (nd s.nodes q).texts.length c2) := pw_cell_below HBA.out x2
      have x3d : wr.drew.cell? ⟨(adn.add (q * 4)).block, (adn.add (q * 4)).off + 3, none⟩ = some (.slice A5 (nd s.nodes q).kids.length c5) := x3
      have x3a : (wr.alloc (.cells #[.int .i64 0, .slice none 0 0, .slice none 0 0, .slice none 0 0] 42)).drew.cell? ⟨(adn.add (q * 4)).block, (adn.add (q * 4)).off + 3, none⟩ = some (.slice A5 (nd s.nodes q).kids.length c5) := pw_cell_below HBA.out x3
      go_wp2
      go_region_held3 (fun W => W.cell? ⟨w.heap.size, 0, none⟩ = some (.slice (some adn) s.nodes.length c) ∧ W.cell? (adl.add i) = some (.int .i64 q) ∧ W.cell? (adn.add (q * 4)) = some (.int .i64 (nd s.nodes q).kind) ∧ W.cell? ⟨(adn.add (q * 4)).block, (adn.add (q * 4)).off + 1, none⟩ = some (.slice A1 (nd s.nodes q).ints.length c1) ∧ W.cell? ⟨(adn.add (q * 4)).block, (adn.add (q * 4)).off + 2, none⟩ = some (.slice A2 (nd s.nodes q).texts.length c2) ∧ W.cell? ⟨(adn.add (q * 4)).block, (adn.add (q * 4)).off + 3, none⟩ = some (.slice A5 (nd s.nodes q).kids.length c5))
        (first
          | (go_split_ands
             (repeat' apply And.intro)
             all_goals first
               | with_reducible assumption
               | with_reducible exact pw_cell_below hB (by assumption)
               | with_reducible exact pw_cell_below (below_alloc (Below.refl _ _) _) (pw_cell_below hB k0d)
               | with_reducible exact pw_cell_below (below_alloc (Below.refl _ _) _) (pw_cell_below hB z0d)
               | with_reducible exact pw_cell_below (below_alloc (Below.refl _ _) _) (pw_cell_below hB x0d)
               | with_reducible exact pw_cell_below (below_alloc (Below.refl _ _) _) (pw_cell_below hB x1d)
               | with_reducible exact pw_cell_below (below_alloc (Below.refl _ _) _) (pw_cell_below hB x2d)
               | with_reducible exact pw_cell_below (below_alloc (Below.refl _ _) _) (pw_cell_below hB x3d)
               | with_reducible exact far_set (far_set (far_set (far_set (by assumption) _ _ (by assumption) _) _ _ (by assumption) _) _ _ (by assumption) _) _ _ (by assumption) _
               | (simp [*]; done)))
        (first
          | (go_at_call 31; refine (rcopy_any (nd s.nodes q) A1 c1 A2 c2 A5 c5 wr.drew (HN.out.below (below_drew HW.out)) HSq.out).mono ?_; rintro e w6 ⟨_, rfl, ⟨v1, v2, v3, rfl, hM⟩, hB⟩; obtain ⟨v1', v2', v3', ev, hR1, hR2, hR3⟩ := kNode_openM hM; injection ev with _ ev; injection ev with e1 ev; injection ev with e2 ev; injection ev with e3 _; subst e1 e2 e3; obtain ⟨B1, d1, rfl⟩ := Kd.R_slice hR1; obtain ⟨B2, d2, rfl⟩ := Kd.R_slice hR2; obtain ⟨B3, d3, rfl⟩ := Kd.R_slice hR3)
          | (go_at_call 31; refine (rcopy_any (nd s.nodes q) A1 c1 A2 c2 A5 c5 (wr.alloc (.cells #[.int .i64 0, .slice none 0 0, .slice none 0 0, .slice none 0 0] 42)).drew (HN.out.below (below_step HW.out HBA.out)) HSq.out).mono ?_; rintro e w6 ⟨_, rfl, ⟨v1, v2, v3, rfl, hM⟩, hB⟩; obtain ⟨v1', v2', v3', ev, hR1, hR2, hR3⟩ := kNode_openM hM; injection ev with _ ev; injection ev with e1 ev; injection ev with e2 ev; injection ev with e3 _; subst e1 e2 e3; obtain ⟨B1, d1, rfl⟩ := Kd.R_slice hR1; obtain ⟨B2, d2, rfl⟩ := Kd.R_slice hR2; obtain ⟨B3, d3, rfl⟩ := Kd.R_slice hR3; have hb6 := (hB.block _ (blk_lt HBZ.out)).trans HBZ.out; have f0 := (blk_cell hb6 0).trans rfl; have f0f := blk_frozen hb6 0; have f1 := (blk_cell (blk_set hb6 0 (.int .i64 (nd s.nodes q).kind)) 1).trans rfl; have f1f := blk_frozen (blk_set hb6 0 (.int .i64 (nd s.nodes q).kind)) 1; have f2 := (blk_cell (blk_set (blk_set hb6 0 (.int .i64 (nd s.nodes q).kind)) 1 (.slice B1 (nd s.nodes q).ints.length d1)) 2).trans rfl; have f2f := blk_frozen (blk_set (blk_set hb6 0 (.int .i64 (nd s.nodes q).kind)) 1 (.slice B1 (nd s.nodes q).ints.length d1)) 2; have f3 := (blk_cell (blk_set (blk_set (blk_set hb6 0 (.int .i64 (nd s.nodes q).kind)) 1 (.slice B1 (nd s.nodes q).ints.length d1)) 2 (.slice B2 (nd s.nodes q).texts.length d2)) 3).trans rfl; have f3f := blk_frozen (blk_set (blk_set (blk_set hb6 0 (.int .i64 (nd s.nodes q).kind)) 1 (.slice B1 (nd s.nodes q).ints.length d1)) 2 (.slice B2 (nd s.nodes q).texts.length d2)) 3))
      have HK : Aside0 (KidB (findI l) (nd s.nodes q) (.slice B1 (nd s.nodes q).ints.length d1) (.slice B2 (nd s.nodes q).texts.length d2) (.slice B3 (nd s.nodes q).kids.length d3) 0 w6.heap.size wr (w6.alloc (.cells #[.int .i64 (nd s.nodes q).kind, .slice B1 (nd s.nodes q).ints.length d1, .slice B2 (nd s.nodes q).texts.length d2, .slice B3 (nd s.nodes q).kids.length d3] 42))) := ⟨⟨below_step ((below_drew (Below.refl _ _)).trans hB) (below_alloc (Below.refl _ _) _), hB.size, by simpa using heap_alloc_new w6 _, Kd.R_alloc hR1 _, Kd.R_alloc hR2 _, by rw [mapTake_zero]; exact Kd.R_alloc hR3 _⟩⟩
      clear hM hR1 hR2 hR3 hB k0 z0 x0 x1 x2 x3 k0d z0d x0d x1d x2d x3d k0a z0a x0a x1a x2a x3a n0 n1 n2
      generalize (w6.alloc (.cells #[.int .i64 (nd s.nodes q).kind, .slice B1 (nd s.nodes q).ints.length d1, .slice B2 (nd s.nodes q).texts.length d2, .slice B3 (nd s.nodes q).kids.length d3] 42)) = W7 at HK ⊢
      generalize w6.heap.size = g6 at HK ⊢
      rotate_left
      have HK : Aside0 (KidB (findI l) (nd s.nodes q) (.slice B1 (nd s.nodes q).ints.length d1) (.slice B2 (nd s.nodes q).texts.length d2) (.slice B3 (nd s.nodes q).kids.length d3) 0 wr.heap.size wr ((((w6.setCell ⟨wr.heap.size, 0, none⟩ (.int .i64 (nd s.nodes q).kind)).setCell ⟨wr.heap.size, 1, none⟩ (.slice B1 (nd s.nodes q).ints.length d1)).setCell ⟨wr.heap.size, 2, none⟩ (.slice B2 (nd s.nodes q).texts.length d2)).setCell ⟨wr.heap.size, 3, none⟩ (.slice B3 (nd s.nodes q).kids.length d3))) := ⟨by
        have hlt2 : wr.heap.size < (wr.alloc (.cells #[.int .i64 0, .slice none 0 0, .slice none 0 0, .slice none 0 0] 42)).drew.heap.size := by show _ < (wr.alloc _).heap.size; simp
        exact ⟨below_set4 (below_step HBA.out hB) (Nat.le_refl _), Nat.le_refl _, box4 hb6 _ _ _ _, Kd.R_lower (R_old4 hR1 hlt2 _ _ _ _) (Nat.le_of_lt hlt2), Kd.R_lower (R_old4 hR2 hlt2 _ _ _ _) (Nat.le_of_lt hlt2), by rw [mapTake_zero]; exact Kd.R_lower (R_old4 hR3 hlt2 _ _ _ _) (Nat.le_of_lt hlt2)⟩⟩
      clear hM hR1 hR2 hR3 hB k0 z0 x0 x1 x2 x3 k0d z0d x0d x1d x2d x3d k0a z0a x0a x1a x2a x3a n0 n1 n2 hb6 f0 f0f f1 f1f f2 f2f f3 f3f
      generalize ((((w6.setCell ⟨wr.heap.size, 0, none⟩ (.int .i64 (nd s.nodes q).kind)).setCell ⟨wr.heap.size, 1, none⟩ (.slice B1 (nd s.nodes q).ints.length d1)).setCell ⟨wr.heap.size, 2, none⟩ (.slice B2 (nd s.nodes q).texts.length d2)).setCell ⟨wr.heap.size, 3, none⟩ (.slice B3 (nd s.nodes q).kids.length d3)) = W7 at HK ⊢
      generalize hg6 : wr.heap.size = g6 at HK ⊢
      all_goals
        obtain ⟨W0, hW0⟩ : ∃ W, W = wr := ⟨_, rfl⟩
        have HW0 := Aside0.mk hW0
        rw [← hW0] at HI HK HW
        have hkl : (nd s.nodes q).kids.length ≤ 1000000 := HSq.out.2.2
        clear hW0 HBZ HBA
        go_wp2
        go_loopw [7] (fun v7 W => ∃ j : Nat, j ≤ (nd s.nodes q).kids.length ∧ v7 = .int .i64 j ∧ Aside0 (KidB (findI l) (nd s.nodes q) (.slice B1 (nd s.nodes q).ints.length d1) (.slice B2 (nd s.nodes q).texts.length d2) (.slice B3 (nd s.nodes q).kids.length d3) j g6 W0 W)) (fun v7 _ => (nd s.nodes q).kids.length - (intOf v7).toNat)
        case atStart => exact ⟨0, by omega, rfl, HK⟩
        case round =>
          clear HK
          obtain ⟨j, hj, rfl, HJ⟩ := hrel
          have hq3 : wr.cell? ⟨g6, 3, none⟩ = some (.slice B3 (nd s.nodes q).kids.length d3) := (blk_cell HJ.out.box 3).trans rfl
          by_cases hjl : j < (nd s.nodes q).kids.length
          · obtain ⟨g7, c7', hv, -⟩ := Kd.R_form HJ.out.r3 (by rw [mapTake_len]; omega)
            injection hv with hA hmm hcc
            clear hmm
            subst hA hcc
            obtain ⟨s1, s2, s3, -⟩ := HJ.out.set hjl
            have HLs := Aside0.mk (Kd.C_below HV.out.2.2 (below_step HI.out.below HJ.out.below))
            go_wp2
            go_region_with (first
                | (go_at_call 65; refine (find_C (some adl) c3 l (rd (nd s.nodes q).kids (j : Int)) _ (Kd.C_drew HLs.out) hlc hl).mono ?_; rintro e w8 ⟨rfl, ⟨nn, rfl⟩⟩; obtain ⟨t1, t2, -, t4⟩ := (HJ.out.drewN (1 + nn)).set hjl))
            all_goals
              have HS4 := Aside0.mk t4
              clear t1 t2 t4 s1 s2 hq3
              go_wp2
              go_roundw
              case rel => exact ⟨j + 1, by omega, by go_num, HS4⟩
              case measure => simp [intOf]; omega
          · obtain rfl : j = (nd s.nodes q).kids.length := by omega
            have HI7 := Aside0.mk (HI.out.later HJ.out.below)
            have q0 := (blk_cell HJ.out.box 0).trans rfl
            have q1 := (blk_cell HJ.out.box 1).trans rfl
            have q2 := (blk_cell HJ.out.box 2).trans rfl
            have o0 := (blk_cell HI7.out.out 0).trans rfl
            have hsz1 := HI.out.below.size
            have HMk := Aside0.mk (node_off (n := ⟨(nd s.nodes q).kind, (nd s.nodes q).ints, (nd s.nodes q).texts, (nd s.nodes q).kids.map (findI l)⟩) (Kd.R_lower HJ.out.r1 hsz1) (Kd.R_lower HJ.out.r2 hsz1) (Kd.R_lower (by have h := HJ.out.r3; rw [mapTake_all] at h; exact h) hsz1) HI7.out.row)
            have hlnx : ((refCanL s.nodes l).take i).length ≤ 1000000 := by rw [List.length_take, refN_len]; omega
            have hln : ((refCanL s.nodes l).take (i + 1)).length = i + 1 := by rw [List.length_take, refN_len]; omega
            go_wp2_with (at_builtin; refine Kd.R_append kNode (w0 := w1) w1.heap.size rfl (.tmp 48) (.tmp 50) 22 42 (.agg #[.int .i64 0, .slice none 0 0, .slice none 0 0, .slice none 0 0]) 80 rfl Tryz.underlying22 info_nodez rfl (by decide) (by omega) (.slice A4 i c4) ((refCanL s.nodes l).take i) ⟨(nd s.nodes q).kind, (nd s.nodes q).ints, (nd s.nodes q).texts, (nd s.nodes q).kids.map (findI l)⟩ [.int .i64 (nd s.nodes q).kind, .slice B1 (nd s.nodes q).ints.length d1, .slice B2 (nd s.nodes q).texts.length d2, .slice B3 (nd s.nodes q).kids.length d3] (fun _ => True) (fun k => some k ≠ (Value.slice A4 i c4).ownBlock) rfl (by go_simp) HMk.out (fun k hk => ⟨trivial, hk⟩) (fun _ _ => trivial) HI7.out.row HI7.out.below HI7.out.below.size (by omega) ?_; intro v5 w8 hR8 hB8 hg8 hat8; rw [← HRN.out] at hR8; obtain ⟨A5', c5', rfl⟩ := Kd.R_slice hR8; rw [hln] at hR8 ⊢; obtain ⟨hb8, hN8⟩ := HI7.out.put hR8 hB8 hg8; have HN8 := Aside0.mk hN8; have y0 := (blk_cell hb8 0).trans rfl; have y0f := blk_frozen hb8 0; clear hR8 hB8 hg8 hat8 hN8 q0 q1 q2 o0 hq3)
            go_roundw
            case rel => exact ⟨i + 1, by omega, by go_num, A5', c5', HN8⟩
            case measure => simp [intOf]; omega
    · obtain rfl : i = l.length := by omega
      have hlall : (refCanL s.nodes l).take l.length = refCanL s.nodes l := List.take_of_length_le (Nat.le_of_eq (refN_len _ _))
      have o0 := (blk_cell HI.out.out 0).trans rfl
      have o1 := (blk_cell HI.out.out 1).trans rfl
      have hres := (HI.out.below.block _ (blk_lt HL1.out)).trans HL1.out
      have l0 := (blk_cell hres 0).trans rfl
      have l0f := blk_frozen hres 0
      have l1 := (blk_cell (blk_set hres 0 (.slice A4 l.length c4)) 1).trans rfl
      have l1f := blk_frozen (blk_set hres 0 (.slice A4 l.length c4)) 1
      go_wp2
      have h2 := And.intro ((blk_cell (box2 hres (.slice A4 l.length c4) (.int .i64 ((l.length : Int) - 1))) 0).trans rfl) ((blk_cell (box2 hres (.slice A4 l.length c4) (.int .i64 ((l.length : Int) - 1))) 1).trans rfl)
      have hRR := Kd.R_lower (R_type (R_type HI.out.row hres (by decide) (.slice A4 l.length c4) 0) (blk_set hres 0 _) (by decide) (.int .i64 ((l.length : Int) - 1)) 1) HB1.out.size
      rw [hlall] at hRR
      exact bodyPost_ret (v := .agg #[.slice A4 l.length c4, .int .i64 ((l.length : Int) - 1)]) (by simp [results, Tryz.results35, go_sem, h2]) rfl
        ⟨A4, c4, by rw [refN_len], by rw [refN_len]; exact hRR, below_set2 (below_step HB1.out HI.out.below) (by omega)⟩
end Go.Proofs.YtggldnbhmebcpaaGreatDoor.L
end
section
namespace Go.Proofs.YtggldnbhmebcpaaGreatDoor.L
open Go.RowKit Go.ChangeShapes Go.WideShapes Go.Proofs.YtggldnbhmebcpaaGreatDoorW.PrintWords Go.Proofs.YtggldnbhmebcpaaGreatDoorW.PrintLast Go.Proofs.YtggldnbhmebcpaaGreatDoorW.PrintMore
attribute [local go_sem] max2_int min2_int max_two min_two max_three min_three max_four min_four
theorem nd_mem' (l : List Node) (k : Nat) (hk : k < l.length) : nd l k ∈ l := by
  unfold nd
  rw [List.getD_eq_getElem?_getD, List.getElem?_eq_getElem hk]
  exact List.getElem_mem hk
theorem isC_not {s : Scene} (h : rightB s = false) : isC s = false := by
  refine Bool.eq_false_iff.2 fun hc => ?_
  have h1 := gcheck_right.2 (isC_right hc)
  unfold rightB at h
  rw [h1] at h
  simp at h
set_option maxRecDepth 100000 in
set_option maxHeartbeats 4000000 in
theorem ris_any (A : Option Addr) (c : Nat) (s : Scene) (w : World) (h : kNode.C w A s.nodes.length s.nodes) (hc : s.nodes.length ≤ c) (hM : rows s.nodes ≤ 400000) (hS : ∀ i : Nat, i < s.nodes.length → Small (nd s.nodes i)) :
    Calls Tryz.prog 14 #[.agg #[.slice A s.nodes.length c, .int .i64 s.root]] w fun e w' => e = .returned (.bool (isC s)) ∧ Below w.heap.size w w' := by
  have HR := Aside0.mk h
  have HSm := Aside0.mk hS
  have HM := Aside0.mk hM
  have HCc := Aside0.mk hc
  have HB := Aside0.mk (below_alloc (Below.refl w.heap.size w) (.cells #[.slice A s.nodes.length c, .int .i64 s.root] 24))
  have k0 := box_cell w _ rfl #[.slice A s.nodes.length c, .int .i64 s.root] 24 0 (.slice A s.nodes.length c) rfl
  have k1 := box_cell w _ rfl #[.slice A s.nodes.length c, .int .i64 s.root] 24 1 (.int .i64 s.root) rfl
  have hu := Tryz.underlying24
  clear h hS hM hc
  cases hr : rightB s with
  | false =>
    have HI := Aside0.mk (isC_not hr)
    have HRb := Aside0.mk hr
    clear hr
    go_enter Tryz.func14, Tryz.ntmps14
    go_wp2
    go_region_with (first
        | (go_at_call 34; refine (rright_any A c s _ (Kd.C_drew (Kd.C_below HR.out HB.out)) HCc.out (by have := HM.out; omega)).mono ?_; rw [HRb.out]; rintro e w7 ⟨rfl, hB⟩; have HB7 := Aside0.mk (below_step (below_drew HB.out) hB); clear hB))
    all_goals
      clear k0 k1
      go_wp2
      go_ret
      exact ⟨ret_bool HI.out.symm, HB7.out⟩
  | true =>
    have hR : Right s := gcheck_right.1 (by unfold rightB at hr; simpa using hr)
    have HRt := Aside0.mk hR
    have HRb := Aside0.mk hr
    have HI := Aside0.mk (show sameS ⟨canonL s, (s.nodes.length : Int) - 1⟩ s = isC s from by
      cases hic : isC s with
      | true => exact sameS_yes ((isC_iff hR).1 hic)
      | false => exact sameS_no (fun e => by rw [(isC_iff hR).2 e] at hic; cases hic))
    have HCn := Aside0.mk (show (⟨refCanL s.nodes (ord s), ((ord s).length : Int) - 1⟩ : Scene) = ⟨canonL s, (s.nodes.length : Int) - 1⟩ from by rw [refCan_eq hR.dag ⟨hR.r0, hR.r1⟩, ord_len hR])
    have HOl := Aside0.mk (ord_len hR)
    have HSc := Aside0.mk (show ∀ i : Nat, i < (canonL s).length → Small (nd (canonL s) i) from fun i hi => by
      have hm := nd_mem' (canonL s) i hi
      generalize nd (canonL s) i = x at hm
      obtain ⟨q, hq, rfl⟩ := List.mem_map.1 hm
      have hpl := ord_pl hR q hq
      have h1 := HSm.out q.toNat (by have := hpl.1; have := hpl.2; omega)
      exact ⟨h1.1, h1.2.1, by show (List.map _ _).length ≤ _; rw [List.length_map]; exact h1.2.2⟩)
    have hnl := Aside0.mk (len_rows s.nodes)
    clear hr hR
    go_enter Tryz.func14, Tryz.ntmps14
    go_wp2
    go_region_with (first
        | (go_at_call 34; refine (rright_any A c s _ (Kd.C_drew (Kd.C_below HR.out HB.out)) HCc.out (by have := HM.out; omega)).mono ?_; rw [HRb.out]; rintro e w7 ⟨rfl, hB⟩; have k07 := pw_cell_below hB (show World.cell? (World.drew _) _ = _ from k0); have k17 := pw_cell_below hB (show World.cell? (World.drew _) _ = _ from k1); have HB7 := Aside0.mk (below_step (below_drew HB.out) hB); clear hB)
        | (go_at_call 35; refine (rcanon_any A c s (ord s) _ w7 (Kd.C_below HR.out HB7.out) HCc.out HSm.out (order_f HRt.out.dag ⟨HRt.out.r0, HRt.out.r1⟩ (by have := HM.out; omega)) (by have := HM.out; have := hnl.out; have := HOl.out; omega) (ord_met' HRt.out.dag ⟨HRt.out.r0, HRt.out.r1⟩).shut.pl).mono ?_; rw [HCn.out]; rintro e w8 ⟨B2, d2, rfl, hR2, hB⟩; have k08 := pw_cell_below hB k07; have k18 := pw_cell_below hB k17; have HC8 := Aside0.mk (Kd.R_reads' hR2).2.2; have HB8 := Aside0.mk (below_step HB7.out hB); clear hB hR2)
        | (go_at_call 24; refine (sameS_any B2 d2 ⟨canonL s, (s.nodes.length : Int) - 1⟩ A c s w8 HC8.out (Kd.C_below HR.out HB8.out) HSc.out).mono ?_; rw [HI.out]; rintro e w9 ⟨rfl, hB⟩; have HB9 := Aside0.mk (below_step HB8.out hB); clear hB))
    all_goals
      clear k0 k1 k07 k17 k08 k18
      go_wp2
      go_ret
      exact ⟨rfl, HB9.out⟩
end Go.Proofs.YtggldnbhmebcpaaGreatDoor.L
end
section
namespace Go.Proofs.YtggldnbhmebcpaaGreatDoor.L
open Go.RowKit Go.ChangeShapes Go.WideShapes Go.Proofs.YtggldnbhmebcpaaGreatDoorW.PrintWords Go.Proofs.YtggldnbhmebcpaaGreatDoorW.PrintLast Go.Proofs.YtggldnbhmebcpaaGreatDoorW.PrintMore
attribute [local go_sem] max2_int min2_int max_two min_two max_three min_three max_four min_four
def wholeC (s : Scene) : Prop := (typedS newTab s.nodes).1 = 0 ∧ isC s = true
noncomputable def wholeB (s : Scene) : Bool := whole2 s && isC s
theorem wholeB_c {s : Scene} (h : wholeB s = true) : wholeC s := by
  unfold wholeB whole2 at h
  rw [Bool.and_eq_true, Bool.and_eq_true] at h
  exact ⟨by simpa using h.1.1, h.2⟩
set_option maxRecDepth 100000 in
set_option maxHeartbeats 4000000 in
theorem dwhole_any (A : Option Addr) (c : Nat) (s : Scene) (w : World) (h : kNode.C w A s.nodes.length s.nodes) (hc : s.nodes.length ≤ c) (hF : Fit s.nodes) :
    Calls Tryz.prog 16 #[.agg #[.slice A s.nodes.length c, .int .i64 s.root]] w fun e w' => e = .returned (.bool (wholeB s)) ∧ Below w.heap.size w w' := by
  have HR := Aside0.mk h
  have HF := Aside0.mk hF
  have HB := Aside0.mk (below_alloc (Below.refl w.heap.size w) (.cells #[.slice A s.nodes.length c, .int .i64 s.root] 24))
  have k0 := box_cell w _ rfl #[.slice A s.nodes.length c, .int .i64 s.root] 24 0 (.slice A s.nodes.length c) rfl
  have k1 := box_cell w _ rfl #[.slice A s.nodes.length c, .int .i64 s.root] 24 1 (.int .i64 s.root) rfl
  have hu := Tryz.underlying24
  have HE := Aside0.mk (show wholeB s = (whole2 s && isC s) from rfl)
  clear h hF
  go_enter Tryz.func16, Tryz.ntmps16
  go_wp2_with fail
  generalize w.alloc (.cells #[.slice A s.nodes.length c, .int .i64 s.root] 24) = w0 at HB k0 k1 ⊢
  refine (rwhole_2 A c s _ (Kd.C_below HR.out HB.out) hc HF.out.small (fun i hi => HF.out.txs i hi) (Nat.le_trans HF.out.rows (by omega))).mono ?_
  rintro e w1 ⟨rfl, hB1⟩
  replace k0 := pw_cell_below hB1 k0
  replace k1 := pw_cell_below hB1 k1
  have HB1 := Aside0.mk (below_step HB.out hB1)
  clear hB1 HB
  cases hw : whole2 s with
  | false =>
    rw [hw] at HE
    clear hw
    go_wp2
    go_ret
    exact ⟨by rw [HE.out]; rfl, HB1.out⟩
  | true =>
    rw [hw] at HE
    clear hw
    go_wp2_with fail
    refine (ris_any A c s _ (Kd.C_below HR.out HB1.out) hc (Nat.le_trans HF.out.rows (by omega)) HF.out.small).mono ?_
    rintro e w2 ⟨rfl, hB2⟩
    have HB2 := Aside0.mk (below_step HB1.out hB2)
    clear hB2
    go_wp2
    go_ret
    exact ⟨by rw [HE.out, Bool.true_and]; rfl, HB2.out⟩
theorem dErr_ok {a t : Scene} (ha : wholeC a) (ht : wholeC t) : dErr a t = 0 := by
  unfold dErr
  rw [if_neg (fun h => h ha.1), if_neg (fun h => h ht.1), ha.2, ht.2]; rfl
theorem dmake_ok (T : Lib.PrintTabs) (A : Option Addr) (c : Nat) (a : Scene) (B : Option Addr) (d : Nat) (t : Scene) (w : World) (h : kNode.C w A a.nodes.length a.nodes) (hc : a.nodes.length ≤ c) (h' : kNode.C w B t.nodes.length t.nodes) (hd : t.nodes.length ≤ d)
    (hFa : Fit a.nodes) (hFt : Fit t.nodes) (hT : QTabs T w) (ha : wholeC a) (ht : wholeC t) :
    Calls Tryz.prog 11 #[.agg #[.slice A a.nodes.length c, .int .i64 a.root], .agg #[.slice B t.nodes.length d, .int .i64 t.root]] w fun e w' => ∃ (l : List Opn) (A : Option Addr) (c : Nat), e = .returned (.tuple #[.slice A t.nodes.length c, .int .i64 0]) ∧ l.length = t.nodes.length ∧ kOpn.C w' A t.nodes.length l ∧ t.nodes.length ≤ c ∧
      (∀ p : Nat, p < t.nodes.length → OpM a.nodes t.nodes (matS a.nodes t.nodes) p (op l p)) ∧ Below w.heap.size w w' := by
  refine (dmake_any T A c a B d t w h hc h' hd hFa hFt hT).mono ?_
  rintro e w' (⟨hb, -⟩ | ⟨-, l, Al, cl, rfl, hl, hR, hO, hB⟩)
  · exact absurd (dErr_ok ha ht) hb
  · have h1 := Kd.R_reads' hR
    exact ⟨l, Al, cl, rfl, hl, h1.1 ▸ h1.2.2, h1.2.1, hO, hB⟩
end Go.Proofs.YtggldnbhmebcpaaGreatDoor.L
end
section
namespace Go.Proofs.YtggldnbhmebcpaaGreatDoor.L
open Go.RowKit Go.ChangeShapes Go.WideShapes Go.Proofs.YtggldnbhmebcpaaGreatDoorW.PrintWords Go.Proofs.YtggldnbhmebcpaaGreatDoorW.PrintLast Go.Proofs.YtggldnbhmebcpaaGreatDoorW.PrintMore
attribute [local go_sem] max2_int min2_int max_two min_two max_three min_three max_four min_four
theorem visF_iff {tk : List Int} {k : Int} {b : Bool} (h : decide (k ∈ tk) = b) : (visF tk (.int .i64 k)).getD (.bool false) = .bool b := by
  rw [visF_at, h]
def TkN (M : List Int) (w5 : World) (mb i : Nat) (W : World) : Prop := ∃ tk cnt, cnt ≤ i ∧ (∀ x, x ∈ tk ↔ 0 ≤ x ∧ x ∈ M.take i) ∧ MapF Tryz.prog 3 W mb cnt (visF tk) ∧ Below w5.heap.size w5 W ∧ w5.heap.size ≤ mb
theorem once_fresh {n : Nat} {M : List Int} (h : Once n M) {i : Nat} (hi : i < M.length) (h0 : 0 ≤ rd M (i : Int)) : ¬ rd M (i : Int) ∈ M.take i := fun hm => by
  obtain ⟨j, hj, e⟩ := List.getElem_of_mem hm
  rw [List.length_take] at hj
  have hji : j < i := by omega
  refine h.ne i j hi (by omega) (by omega) h0 ?_
  rw [← e, List.getElem_take, rd_eq (by omega)]
end Go.Proofs.YtggldnbhmebcpaaGreatDoor.L
end
section
namespace Go.Proofs.YtggldnbhmebcpaaGreatDoor.L
open Go.RowKit Go.ChangeShapes Go.WideShapes Go.Proofs.YtggldnbhmebcpaaGreatDoorW.PrintWords Go.Proofs.YtggldnbhmebcpaaGreatDoorW.PrintLast Go.Proofs.YtggldnbhmebcpaaGreatDoorW.PrintMore
attribute [local go_sem] max2_int min2_int max_two min_two max_three min_three max_four min_four
set_option maxRecDepth 100000 in
set_option maxHeartbeats 8000000 in
theorem deltaOps_any (T : Lib.PrintTabs) (A : Option Addr) (c : Nat) (a : Scene) (B : Option Addr) (d : Nat) (t : Scene) (w : World) (h : kNode.C w A a.nodes.length a.nodes) (hc : a.nodes.length ≤ c) (h' : kNode.C w B t.nodes.length t.nodes) (hd : t.nodes.length ≤ d)
  (hNa : ∀ i : Nat, i < a.nodes.length → NBd (nd a.nodes i)) (hNt : ∀ i : Nat, i < t.nodes.length → NBd (nd t.nodes i)) (hT : QTabs T w) :
  Calls Tryz.prog 5 #[.agg #[.slice A a.nodes.length c, .int .i64 a.root], .agg #[.slice B t.nodes.length d, .int .i64 t.root]] w fun e w' => e = .returned (.bool true) ∧ Below w.heap.size w w' := by
 have HR := Aside0.mk h
 have HR' := Aside0.mk h'
 have HT := Aside0.mk hT
 have HNa := Aside0.mk hNa
 have HNt := Aside0.mk hNt
 have hA0 := below_alloc (Below.refl w.heap.size w) (.cells #[.slice A a.nodes.length c, .int .i64 a.root] 24)
 have hA1 := below_alloc (Below.refl (w.alloc (.cells #[.slice A a.nodes.length c, .int .i64 a.root] 24)).heap.size (w.alloc (.cells #[.slice A a.nodes.length c, .int .i64 a.root] 24))) (.cells #[.slice B t.nodes.length d, .int .i64 t.root] 24)
 have HB := Aside0.mk (below_step hA0 hA1)
 have k0 := pw_cell_below hA1 (box_cell w _ rfl #[.slice A a.nodes.length c, .int .i64 a.root] 24 0 (.slice A a.nodes.length c) rfl)
 have k1 := pw_cell_below hA1 (box_cell w _ rfl #[.slice A a.nodes.length c, .int .i64 a.root] 24 1 (.int .i64 a.root) rfl)
 have q0 := box_cell (w.alloc (.cells #[.slice A a.nodes.length c, .int .i64 a.root] 24)) (w.heap.size + 1) (by simp) #[.slice B t.nodes.length d, .int .i64 t.root] 24 0 (.slice B t.nodes.length d) rfl
 have q1 := box_cell (w.alloc (.cells #[.slice A a.nodes.length c, .int .i64 a.root] 24)) (w.heap.size + 1) (by simp) #[.slice B t.nodes.length d, .int .i64 t.root] 24 1 (.int .i64 t.root) rfl
 have hu := Tryz.underlying24
 have hun := Tryz.underlying42
 have hmm := @run_makeMap Tryz.prog
 have HZ := Aside0.mk (show ((w.alloc (.cells #[.slice A a.nodes.length c, .int .i64 a.root] 24)).alloc (.cells #[.slice B t.nodes.length d, .int .i64 t.root] 24)).heap.size = w.heap.size + 1 + 1 from by simp)
 clear h h' hT hNa hNt hA0 hA1
 go_enter Tryz.func5, Tryz.ntmps5
 go_wp2_with fail
 generalize (w.alloc (.cells #[.slice A a.nodes.length c, .int .i64 a.root] 24)).alloc (.cells #[.slice B t.nodes.length d, .int .i64 t.root] 24) = w0 at HB HZ k0 k1 q0 q1 ⊢
 refine (dawake_any T _ (HT.out.below HB.out)).mono ?_
 rintro e w1 ⟨rfl, hB1⟩
 replace k0 := pw_cell_below hB1 k0
 replace k1 := pw_cell_below hB1 k1
 replace q0 := pw_cell_below hB1 q0
 replace q1 := pw_cell_below hB1 q1
 have HB1 := Aside0.mk (below_step HB.out hB1)
 have HZ1 := Aside0.mk (show w.heap.size + 1 < w1.heap.size from by have := hB1.size; have := HZ.out; omega)
 clear hB1 HB HZ
 go_wp2_with fail
 refine (great22_any A c a B d t _ (Kd.C_below HR.out HB1.out) (Kd.C_below HR'.out HB1.out)).mono ?_
 rintro e w2 ⟨rfl, hB2⟩
 replace k0 := pw_cell_below hB2 k0
 replace k1 := pw_cell_below hB2 k1
 replace q0 := pw_cell_below hB2 q0
 replace q1 := pw_cell_below hB2 q1
 have HB2 := Aside0.mk (below_step HB1.out hB2)
 have HZ2 := Aside0.mk (show w.heap.size + 1 < w2.heap.size from Nat.lt_of_lt_of_le HZ1.out hB2.size)
 clear hB2 HB1 HZ1
 cases hg : great22 a t with
 | true =>
  clear hg
  go_wp2_with fail
  refine (dawake_any T _ (HT.out.below HB2.out)).mono ?_
  rintro e w9 ⟨rfl, hB9⟩
  have HB9 := Aside0.mk (below_step HB2.out hB9)
  clear hB9 k0 k1 q0 q1
  go_wp2
  go_ret
  exact ⟨rfl, HB9.out⟩
 | false =>
  obtain ⟨g1, g2, g3, g4⟩ := great22_no hg
  have HFa := Aside0.mk (fit_of_great g1 HNa.out)
  have HFt := Aside0.mk (fit_of_great g2 HNt.out)
  have HLn := Aside0.mk (And.intro g3 g4)
  clear hg g1 g2 g3 g4
  go_wp2_with fail
  refine (dwhole_any A c a _ (Kd.C_below HR.out HB2.out) hc HFa.out).mono ?_
  rintro e w3 ⟨rfl, hB3⟩
  replace k0 := pw_cell_below hB3 k0
  replace k1 := pw_cell_below hB3 k1
  replace q0 := pw_cell_below hB3 q0
  replace q1 := pw_cell_below hB3 q1
  have HB3 := Aside0.mk (below_step HB2.out hB3)
  have HZ3 := Aside0.mk (show w.heap.size + 1 < w3.heap.size from Nat.lt_of_lt_of_le HZ2.out hB3.size)
  clear hB3 HB2 HZ2
  cases hia : wholeB a with
  | false =>
   clear hia
   go_wp2_with fail
   refine (dawake_any T _ (HT.out.below HB3.out)).mono ?_
   rintro e w9 ⟨rfl, hB9⟩
   have HB9 := Aside0.mk (below_step HB3.out hB9)
   clear hB9 k0 k1 q0 q1
   go_wp2
   go_ret
   exact ⟨rfl, HB9.out⟩
  | true =>
   go_wp2_with fail
   refine (dwhole_any B d t _ (Kd.C_below HR'.out HB3.out) hd HFt.out).mono ?_
   rintro e w4 ⟨rfl, hB4⟩
   replace k0 := pw_cell_below hB4 k0
   replace k1 := pw_cell_below hB4 k1
   replace q0 := pw_cell_below hB4 q0
   replace q1 := pw_cell_below hB4 q1
   have HB4 := Aside0.mk (below_step HB3.out hB4)
   have HZ4 := Aside0.mk (show w.heap.size + 1 < w4.heap.size from Nat.lt_of_lt_of_le HZ3.out hB4.size)
   clear hB4 HB3 HZ3
   cases hit : wholeB t with
   | false =>
    clear hit hia
    go_wp2_with fail
    refine (dawake_any T _ (HT.out.below HB4.out)).mono ?_
    rintro e w9 ⟨rfl, hB9⟩
    have HB9 := Aside0.mk (below_step HB4.out hB9)
    clear hB9 k0 k1 q0 q1
    go_wp2
    go_ret
    exact ⟨rfl, HB9.out⟩
   | true =>
    have HIs := Aside0.mk (And.intro (wholeB_c hia) (wholeB_c hit))
    clear hia hit
    go_wp2_with fail
    refine (dmake_ok T A c a B d t _ (Kd.C_below HR.out HB4.out) hc (Kd.C_below HR'.out HB4.out) hd HFa.out HFt.out (HT.out.below HB4.out) HIs.out.1 HIs.out.2).mono ?_
    rintro e w5 ⟨l, Am, cm, rfl, hll, hLm, hcm, hOm, hB5⟩
    have HL5 := Aside0.mk hLm
    have HOm := Aside0.mk hOm
    have HLl := Aside0.mk hll
    replace k0 := pw_cell_below hB5 k0
    replace k1 := pw_cell_below hB5 k1
    replace q0 := pw_cell_below hB5 q0
    replace q1 := pw_cell_below hB5 q1
    have HB5 := Aside0.mk (below_step HB4.out hB5)
    have HZ5 := Aside0.mk (show w.heap.size + 1 < w5.heap.size from Nat.lt_of_lt_of_le HZ4.out hB5.size)
    clear hLm hOm hll hB5 HB4 HZ4
    have hnA := HLn.out.1
    have hnT := HLn.out.2
    have HAt := Aside0.mk (show AheadN t.nodes from fun p hp k hk => isC_ahead (isC_right HIs.out.2.2) HIs.out.2.2 hp hk)
    have HMl := Aside0.mk (show (matS a.nodes t.nodes).length = t.nodes.length from mat_len)
    have HMo := Aside0.mk (show Once a.nodes.length (matS a.nodes t.nodes) from mat_once)
    generalize matS a.nodes t.nodes = M at HOm HMl HMo
    have hmm := @run_makeMap Tryz.prog
    have HT0 : Aside0 (TkN M w5 w5.heap.size 0 (w5.alloc (.map #[] 0))) := ⟨[], 0, Nat.le_refl _, fun x => by rw [List.take_zero]; simp, by rw [visF_nil]; exact MapF.made _ _ _, below_alloc (Below.refl _ _) _, Nat.le_refl _⟩
    have HK := Aside0.mk (And.intro k0 k1)
    go_wp2
    clear k0 k1 q0 q1 hmm
    generalize w5.alloc (.map #[] 0) = w8 at HT0 ⊢
    generalize hmb : w5.heap.size = mb at HT0 ⊢
    go_loopw [39] (fun v39 W => ∃ i : Nat, i ≤ t.nodes.length ∧ v39 = .int .i64 i ∧ Aside0 (TkN M w5 mb i W)) (fun v39 _ => t.nodes.length - (intOf v39).toNat)
    case atStart => exact ⟨0, by omega, rfl, HT0⟩
    case round =>
     clear HT0
     obtain ⟨i, hi, rfl, HO⟩ := hrel
     obtain ⟨tk, cnt, hcn, htk, hm, hbw, hge⟩ := HO.out
     have HM := Aside0.mk hm
     have HTk := Aside0.mk htk
     have HBw := Aside0.mk hbw
     have HGe := Aside0.mk hge
     have hz1 := HZ5.out
     have hzw := hbw.size
     have hb0 : w.heap.size < wr.heap.size := by omega
     clear htk hm hbw hge HO hz1 hzw
     by_cases hlt : i < t.nodes.length
     ·obtain ⟨ad, B1, d1, B2, d2, A1, c1, A2, c2, A3, c3, rfl, p0, p1, p2, p3, p4, p5, p6, p7, hO⟩ := at_op HL5.out i hlt
      replace p0 := pw_cell_below HBw.out p0
      replace p1 := pw_cell_below HBw.out p1
      replace p2 := pw_cell_below HBw.out p2
      replace p3 := pw_cell_below HBw.out p3
      replace p4 := pw_cell_below HBw.out p4
      replace p5 := pw_cell_below HBw.out p5
      replace p6 := pw_cell_below HBw.out p6
      replace p7 := pw_cell_below HBw.out p7
      have HO := Aside0.mk (hO.below HBw.out)
      have HOi := Aside0.mk (HOm.out i hlt)
      have HTs := Aside0.mk (show M.take (i + 1) = M.take i ++ [rd M (i : Int)] from take_succ_rd (by rw [HMl.out]; exact hlt))
      have k0 := pw_cell_below HBw.out HK.out.1
      have k1 := pw_cell_below HBw.out HK.out.2
      clear hO
      generalize op l i = o at p0 p1 p2 p3 p4 p5 p6 p7 HO HOi
      have hA := below_alloc (Below.refl wr.heap.size wr) (.cells #[.int .i64 o.kind, .int .i64 o.base, .slice B1 o.sets.length d1, .slice B2 o.script.length d2, .int .i64 o.node.kind, .slice A1 o.node.ints.length c1, .slice A2 o.node.texts.length c2, .slice A3 o.node.kids.length c3] 44)
      rcases HOi.out with ⟨hneg, ho⟩ | ⟨b, hb, hbe, hOf⟩
      ·have HKd := Aside0.mk (show ∀ k ∈ o.node.kids, 0 ≤ k ∧ k < (i : Int) from by rw [ho]; exact fun k hk => HAt.out i hlt k hk)
       have hk3 : o.kind = 3 := by rw [ho]
       have HT7 := Aside0.mk (show TkN M w5 mb (i + 1) (wr.alloc (.cells #[.int .i64 o.kind, .int .i64 o.base, .slice B1 o.sets.length d1, .slice B2 o.script.length d2, .int .i64 o.node.kind, .slice A1 o.node.ints.length c1, .slice A2 o.node.texts.length c2, .slice A3 o.node.kids.length c3] 44)) from ⟨tk, cnt, by omega, fun x => by
        rw [HTs.out, List.mem_append, List.mem_singleton, HTk.out x]
        exact ⟨fun h => ⟨h.1, .inl h.2⟩, fun h => ⟨h.1, h.2.elim id (fun e => absurd h.1 (by omega))⟩⟩, HM.out.below hA, below_step HBw.out hA, HGe.out⟩)
       have HO2 := Aside0.mk (HO.out.below hA)
       have hkl : o.node.kids.length ≤ 300 := by rw [ho]; exact (HFt.out.2 i hlt).kids
       have e3 : (o.kind == 3) = true := by rw [hk3]; rfl
       clear ho hneg hk3 HOi hA HO k0 k1
       go_wp2
       clear p0 p1 p2 p3 p4 p5 p6 p7 e3
       obtain ⟨w9, hw9⟩ : ∃ w9 : World, w9 = wr.alloc (.cells #[.int .i64 o.kind, .int .i64 o.base, .slice B1 o.sets.length d1, .slice B2 o.script.length d2, .int .i64 o.node.kind, .slice A1 o.node.ints.length c1, .slice A2 o.node.texts.length c2, .slice A3 o.node.kids.length c3] 44) := ⟨_, rfl⟩
       rw [← hw9] at HT7 HO2 ⊢
       clear hw9
       go_loopw [51] (fun v51 W => ∃ j : Nat, j ≤ o.node.kids.length ∧ v51 = .int .i64 j ∧ W = w9) (fun v51 _ => o.node.kids.length - (intOf v51).toNat)
       case atStart => exact ⟨0, by omega, rfl, rfl⟩
       case round =>
        obtain ⟨j, hj, rfl, rfl⟩ := hrel
        by_cases hjl : j < o.node.kids.length
        ·obtain ⟨kd, rfl, z0⟩ := at_nat HO2.out.n.k j hjl
         have hkk := HKd.out (rd o.node.kids (j : Int)) (rd_mem hjl)
         generalize rd o.node.kids (j : Int) = z at z0 hkk
         have d1' : decide (z < 0) = false := decide_eq_false (by omega)
         have d2' : decide ((i : Int) ≤ z) = false := decide_eq_false (by omega)
         clear hkk
         go_wp2
         go_roundw
         case rel => exact ⟨j + 1, by omega, by go_num, trivial⟩
         case measure => simp [intOf]; omega
        ·obtain rfl : j = o.node.kids.length := by omega
         go_wp2
         go_roundw
         case rel => exact ⟨i + 1, by omega, by go_num, HT7⟩
         case measure => simp [intOf]; omega
      ·have hob : (o.kind == 3) = false ∧ o.base = (b : Int) := by
        rcases hOf with ⟨rfl, -⟩ | ⟨-, l', -, rfl⟩
        ·exact ⟨rfl, rfl⟩
        ·exact ⟨rfl, rfl⟩
       obtain ⟨e3, hbs⟩ := hob
       rw [hbs] at p1 hA
       have hfr := once_fresh HMo.out (i := i) (by rw [HMl.out]; exact hlt) (by omega)
       rw [hbe] at hfr HTs
       have HKI := Aside0.mk (keyI_of (x := (b : Int)) (by omega) (by omega))
       have HPl := Aside0.mk (show isPl a.nodes.length (b : Int) = true from decide_eq_true ⟨by omega, by omega⟩)
       have HVi := Aside0.mk (visF_iff (tk := tk) (k := (b : Int)) (b := false) (decide_eq_false (fun h => hfr ((HTk.out _).1 h).2)))
       have hcM : cnt < maxLen := by unfold maxLen; omega
       have HTk2 := Aside0.mk (show ∀ x, x ∈ (b : Int) :: tk ↔ 0 ≤ x ∧ x ∈ M.take (i + 1) from fun x => by
        rw [HTs.out, List.mem_cons, List.mem_append, List.mem_singleton, HTk.out x]
        constructor
        ·rintro (h | h)
         ·exact ⟨by omega, .inr h⟩
         ·exact ⟨h.1, .inl h.2⟩
        ·rintro ⟨h1, h | h⟩
         ·exact .inr ⟨h1, h⟩
         ·exact .inl h)
       have HM1 := Aside0.mk (HM.out.below hA)
       have HB1 := Aside0.mk (below_step HBw.out hA)
       have HA1 := Aside0.mk hA
       clear hOf hbe hfr HOi HO hA hbs
       go_wp2_with (at_lookup; refine wpList_lookup_F _ rfl (.tmp 63) (.tmp 65) 45 rfl 3 4 keyI Tryz.underlying45 (zeroB _) mb cnt (visF tk) rfl HM1.out (.int .i64 (b : Int)) (.int .i64 (b : Int)) rfl HKI.out (.bool false) HVi.out ?_)
       have v1 := box_cell wr _ rfl #[.int .i64 o.kind, .int .i64 (b : Int), .slice B1 o.sets.length d1, .slice B2 o.script.length d2, .int .i64 o.node.kind, .slice A1 o.node.ints.length c1, .slice A2 o.node.texts.length c2, .slice A3 o.node.kids.length c3] 44 1 (.int .i64 (b : Int)) rfl
       refine (place_any A c a.nodes.length a.root (b : Int) _).mono ?_
       rintro e w10 ⟨rfl, hB10⟩
       rw [HPl.out]
       have HM10 := Aside0.mk (HM1.out.below hB10)
       have HB10 := Aside0.mk (below_step HB1.out hB10)
       replace v1 := pw_cell_below hB10 v1
       clear hB10 p0 p1 p2 p3 p4 p5 p6 p7 e3 k0 k1 HM1 HB1 HA1
       go_wp2_with (at_mapUpdate; refine wpList_update_F _ rfl (.tmp 74) (.tmp 76) _ 45 rfl 3 4 keyI Tryz.underlying45 mb cnt (visF tk) rfl HM10.out hcM (.int .i64 (b : Int)) (.bool true) (.int .i64 (b : Int)) rfl rfl HKI.out ?_; intro w11 hM11 hg11; have HT7 := Aside0.mk (show TkN M w5 mb (i + 1) w11 from ⟨(b : Int) :: tk, cnt + 1, by omega, HTk2.out, by rw [← visF_put]; exact hM11, below_map HB10.out HB10.out.size hg11 HGe.out, HGe.out⟩); clear hM11 hg11)
       go_roundw
       case rel => exact ⟨i + 1, by omega, by go_num, HT7⟩
       case measure => simp [intOf]; omega
     ·obtain rfl : i = t.nodes.length := by omega
      go_wp2
      go_ret
      exact ⟨rfl, below_step HB5.out HBw.out⟩
end Go.Proofs.YtggldnbhmebcpaaGreatDoor.L
end
section
namespace Go.Proofs.YtggldnbhmebcpaaGreatDoor.L
open Go.RowKit Go.ChangeShapes Go.WideShapes Go.Proofs.YtggldnbhmebcpaaGreatDoorW.PrintWords Go.Proofs.YtggldnbhmebcpaaGreatDoorW.PrintLast Go.Proofs.YtggldnbhmebcpaaGreatDoorW.PrintMore
attribute [local go_sem] max2_int min2_int max_two min_two max_three min_three max_four min_four
section
variable {P : Program} {α β : Type}
def Opens (P : Program) (k : Kd α) (t : TypeId) (good : α → Prop) : Prop :=
  ∀ (H : Type) (enc : TypeId × Value → H) (w : World) (base : Nat) (spare : Nat → Bool) (held : Bool) (fuel : Nat) (cs : List Value) (x : DataW H × List MemPlace), DataW.trod enc P w base spare held fuel t cs = some x → ∃ v, k.K w v cs ∧ good v
theorem opens_int {t : TypeId} {k : IntKind} (ht : P.underlying t = some (.int k)) : Opens P (Kd.int k) t (fun n => (Lit.int k n).wf = true) := by
  intro H enc w base spare held fuel cs x h
  obtain ⟨n, rfl, _, hw⟩ := DataW.trod_int ht h
  exact ⟨n, rfl, hw⟩
theorem opens_string {t : TypeId} (ht : P.underlying t = some .string) : Opens P Kd.string t (fun s => s.size ≤ maxLen) := by
  intro H enc w base spare held fuel cs x h
  obtain ⟨s, rfl, _, hs⟩ := DataW.trod_string ht h
  exact ⟨s, rfl, hs⟩
theorem list_of {R : Nat → α → Prop} : ∀ n, (∀ i, i < n → ∃ p, R i p) → ∃ xs : List α, xs.length = n ∧ ∀ j p, xs[j]? = some p → R j p := by
  intro n
  induction n with
  | zero => intro _; exact ⟨[], rfl, fun j p h => by simp at h⟩
  | succ n ih =>
    intro h
    obtain ⟨xs, hl, hx⟩ := ih (fun i hi => h i (by omega))
    obtain ⟨p, hp⟩ := h n (by omega)
    refine ⟨xs ++ [p], by simp [hl], fun j q hq => ?_⟩
    rw [List.getElem?_append] at hq
    split at hq
    · exact hx j q hq
    · have hj : j = n := by
        have := (List.getElem?_eq_some_iff.1 hq).1
        simp at this
        omega
      subst hj
      rw [hl, Nat.sub_self] at hq
      simp at hq
      subst hq
      exact hp
theorem opens_slice {d : Kd α} {t e e' : TypeId} {good : α → Prop} (ht : P.underlying t = some (.slice e)) (hc : P.cellsOf e = d.sz) (hd : Opens P d e good) : Opens P (Kd.slice e' d) t (fun xs => xs.length ≤ maxLen ∧ ∀ x ∈ xs, good x) := by
  intro H enc w base spare held fuel cs x h
  rcases Deep.open_slice ht h with ⟨rfl, _⟩ | ⟨a, len, cap, m, n, D, Pl, rfl, _, hl, hm, hmm, _, hx⟩
  · exact ⟨[], ⟨none, 0, rfl, Nat.le_refl _, rfl, by simp, fun h => by simp at h⟩, by simp, by simp⟩
  · have hlm : len ≤ m := by rw [hmm]; split <;> omega
    rw [hc] at hx
    obtain ⟨xs, hxl, hxs⟩ := list_of (R := fun i p => (∃ c, c.length = d.sz ∧ d.K w p c ∧ ∀ j u, c[j]? = some u → w.cell? (a.add (i * d.sz + j)) = some u) ∧ good p) len (fun i hi => by
      obtain ⟨cs', h1, h2⟩ := hx i (by omega)
      obtain ⟨_, hcl, hat⟩ := World.cells?_some h1
      obtain ⟨p, hK, hg⟩ := hd H enc w base spare held n cs' _ h2
      refine ⟨p, ⟨cs', hcl, hK, fun j u hu => ?_⟩, hg⟩
      have hj : j < d.sz := by rw [← hcl]; exact (List.getElem?_eq_some_iff.1 hu).1
      rw [← Deep.add_add, hat j hj, hu])
    subst hxl
    refine ⟨xs, ⟨some a, cap, rfl, hl, rfl, by unfold maxLen at hm; omega, fun _ => ⟨a, rfl, fun j p hp => (hxs j p hp).1⟩⟩, by omega, fun x hx => ?_⟩
    obtain ⟨j, hj⟩ := List.getElem?_of_mem hx
    exact (hxs j x hj).2
def OpensL (P : Program) (k : Kd α) (fs : List Field) (off : Nat) (good : α → Prop) : Prop :=
  ∀ (H : Type) (enc : TypeId × Value → H) (w : World) (base : Nat) (spare : Nat → Bool) (held : Bool) (n : Nat) (cs : List Value), cs.length = k.sz → (∀ f ∈ fs, ∃ x, DataW.trod enc P w base spare held n f.type ((cs.drop (f.offset - off)).take (P.cellsOf f.type)) = some x) → ∃ v, k.K w v cs ∧ good v
theorem opensL_one {k : Kd α} {f : Field} {off : Nat} {good : α → Prop} (ho : f.offset = off) (hc : P.cellsOf f.type = k.sz) (h : Opens P k f.type good) : OpensL P k [f] off good := by
  intro H enc w base spare held n cs hl hf
  obtain ⟨x, hx⟩ := hf f (by simp)
  rw [ho, Nat.sub_self, List.drop_zero, hc, ← hl, List.take_length] at hx
  exact h H enc w base spare held n cs x hx
theorem opensL_cons {a : Kd α} {b : Kd β} {f : Field} {fs : List Field} {off : Nat} {ga : α → Prop} {gb : β → Prop} (ho : f.offset = off) (hc : P.cellsOf f.type = a.sz) (h : Opens P a f.type ga) (hoff : ∀ g ∈ fs, off + a.sz ≤ g.offset) (hs : OpensL P b fs (off + a.sz) gb) :
    OpensL P (Kd.pair a b) (f :: fs) off (fun x => ga x.1 ∧ gb x.2) := by
  intro H enc w base spare held n cs hl hf
  have hl' : cs.length = a.sz + b.sz := hl
  obtain ⟨x, hx⟩ := hf f (by simp)
  rw [ho, Nat.sub_self, List.drop_zero, hc] at hx
  obtain ⟨v, hv, hg⟩ := h H enc w base spare held n _ x hx
  obtain ⟨u, hu, hg'⟩ := hs H enc w base spare held n (cs.drop a.sz) (by rw [List.length_drop]; omega) (fun g hg => by
    obtain ⟨y, hy⟩ := hf g (by simp [hg])
    have := hoff g hg
    refine ⟨y, ?_⟩
    rw [List.drop_drop, show a.sz + (g.offset - (off + a.sz)) = g.offset - off from by omega]
    exact hy)
  exact ⟨(v, u), ⟨_, _, (List.take_append_drop a.sz cs).symm, hv, hu⟩, hg, hg'⟩
theorem opens_struct {k : Kd α} {t : TypeId} {fs : Array Field} {good : α → Prop} (ht : P.underlying t = some (.struct fs)) (hc : P.cellsOf t = k.sz) (h : OpensL P k fs.toList 0 good) : Opens P k t good := by
  intro H enc w base spare held fuel cs x hx
  obtain ⟨xs, n, _, _, hl, hxl, hf⟩ := DataW.trod_struct ht hx
  refine h H enc w base spare held n cs (hl.trans hc) (fun f hfm => ?_)
  obtain ⟨i, hi⟩ := List.getElem?_of_mem hfm
  have hi' : fs[i]? = some f := by simpa using hi
  have hil : i < xs.length := by rw [hxl]; exact (Array.getElem?_eq_some_iff.1 hi').1
  exact ⟨xs[i]'hil, by rw [Nat.sub_zero, hf i f hi', List.getElem?_eq_getElem hil]⟩
theorem opens_iso {d : Kd α} {f : β → α} {t : TypeId} {good : α → Prop} (hf : ∀ v, ∃ x, f x = v) (h : Opens P d t good) : Opens P (Kd.iso d f) t (fun x => good (f x)) := by
  intro H enc w base spare held fuel cs x hx
  obtain ⟨v, hv, hg⟩ := h H enc w base spare held fuel cs x hx
  obtain ⟨y, rfl⟩ := hf v
  exact ⟨y, hv, hg⟩
theorem Opens.arg_struct {k : Kd α} {H : Type} {enc : TypeId × Value → H} {W : World} {b0 base : Nat} {r : Reach} {spare : Nat → Bool} {held : Bool} {t : TypeId} {fs : Array Field} {good : α → Prop} {v : Value} {q : DataW H} {p : List MemPlace} (hs : P.underlying t = some (.struct fs)) (ho : Opens P k t good)
    (hv : Value.okWide P W r b0 t v) (h : DataW.Trod enc P W base spare held t v q p) : ∃ x cs, v = .agg cs ∧ k.K W x cs.toList ∧ good x := by
  obtain ⟨cs, rfl, _⟩ := okWide_struct hs hv
  obtain ⟨fuel, hf⟩ := h
  obtain ⟨x, hK, hg⟩ := ho H enc W base spare held fuel _ _ hf
  exact ⟨x, cs, rfl, by simpa [Value.cells] using hK, hg⟩
end
end Go.Proofs.YtggldnbhmebcpaaGreatDoor.L
end
section
namespace Go.Proofs.YtggldnbhmebcpaaGreatDoor.L
open Go.RowKit Go.ChangeShapes Go.WideShapes Go.Proofs.YtggldnbhmebcpaaGreatDoorW.PrintWords Go.Proofs.YtggldnbhmebcpaaGreatDoorW.PrintLast Go.Proofs.YtggldnbhmebcpaaGreatDoorW.PrintMore
attribute [local go_sem] max2_int min2_int max_two min_two max_three min_three max_four min_four
open Go.ChangeShapes Go.WideShapes Go.ChangeAt Go.RowKit
theorem own : ownKnob Tryz.prog.godebug = none := by kernel_rfl
theorem laidOut : laidOutB Tryz.prog = true := by kernel_rfl
def rowLaid : List (String × DataW Unit) := [("math/bits.deBruijn32tab", Rows.laid_math_bits_deBruijn32tab), ("math/bits.deBruijn64tab", Rows.laid_math_bits_deBruijn64tab), ("internal/strconv.uint64pow10", Rows.laid_internal_strconv_uint64pow10), ("unicode/utf8.acceptRanges", Rows.laid_unicode_utf8_acceptRanges), ("strconv.isGraphic", Rows.laid_strconv_isGraphic), ("strconv.isNotPrint16", Rows.laid_strconv_isNotPrint16), ("strconv.isNotPrint32", Rows.laid_strconv_isNotPrint32), ("strconv.isPrint16", Rows.laid_strconv_isPrint16), ("strconv.isPrint32", Rows.laid_strconv_isPrint32), ("unicode/utf8.first", Rows.laid_unicode_utf8_first)]
theorem firstD : Go.Pinned.utf8First = Lib.firstData := by kernel_rfl
theorem acceptD : (Rows.laid_unicode_utf8_acceptRanges : DataW Unit) = Lib.acceptData := by kernel_rfl
theorem p16D : Go.Pinned.isPrint16 = Lib.sliceData .u16 Lib.goPrintTabs.p16 := by kernel_rfl
theorem n16D : Go.Pinned.isNotPrint16 = Lib.sliceData .u16 Lib.goPrintTabs.n16 := by kernel_rfl
theorem p32D : Go.Pinned.isPrint32 = Lib.sliceData .u32 Lib.goPrintTabs.p32 := by kernel_rfl
theorem n32D : Go.Pinned.isNotPrint32 = Lib.sliceData .u16 Lib.goPrintTabs.n32 := by kernel_rfl
theorem utf_of_laid {W : World} (h : laidMet Tryz.prog rowLaid W) : Tabs W :=
  utf8Tabs_of_reads Tryz.lays260 ⟨by kernel_rfl, by kernel_rfl, by kernel_rfl, by kernel_rfl, by kernel_rfl, by kernel_rfl, by kernel_rfl⟩
    (firstD ▸ (Lib.laidMet.reads h (show ("unicode/utf8.first", Go.Pinned.utf8First) ∈ rowLaid from (.tail _ (.tail _ (.tail _ (.tail _ (.tail _ (.tail _ (.tail _ (.tail _ (.tail _ (.head _))))))))))))) (acceptD ▸ (Lib.laidMet.reads h (show ("unicode/utf8.acceptRanges", Rows.laid_unicode_utf8_acceptRanges) ∈ rowLaid from (.tail _ (.tail _ (.tail _ (.head _)))))))
theorem prt_of_laid {W : World} (h : laidMet Tryz.prog rowLaid W) : Lib.PrintTabsAt 5 6 7 8 Lib.goPrintTabs W :=
  printTabs_of_reads Tryz.lays339 ⟨by kernel_rfl, by kernel_rfl, by kernel_rfl, by kernel_rfl, by kernel_rfl, by kernel_rfl, by kernel_rfl, by kernel_rfl, by kernel_rfl, by kernel_rfl⟩
    (p16D ▸ (Lib.laidMet.reads h (show ("strconv.isPrint16", Go.Pinned.isPrint16) ∈ rowLaid from (.tail _ (.tail _ (.tail _ (.tail _ (.tail _ (.tail _ (.tail _ (.head _))))))))))) (n16D ▸ (Lib.laidMet.reads h (show ("strconv.isNotPrint16", Go.Pinned.isNotPrint16) ∈ rowLaid from (.tail _ (.tail _ (.tail _ (.tail _ (.tail _ (.head _))))))))) (p32D ▸ (Lib.laidMet.reads h (show ("strconv.isPrint32", Go.Pinned.isPrint32) ∈ rowLaid from (.tail _ (.tail _ (.tail _ (.tail _ (.tail _ (.tail _ (.tail _ (.tail _ (.head _)))))))))))) (n32D ▸ (Lib.laidMet.reads h (show ("strconv.isNotPrint32", Go.Pinned.isNotPrint32) ∈ rowLaid from (.tail _ (.tail _ (.tail _ (.tail _ (.tail _ (.tail _ (.head _))))))))))
theorem powD : (Rows.laid_internal_strconv_uint64pow10 : DataW Unit) = Lib.tabData .u64 Lib.pow10Tab := by kernel_rfl
theorem tabIs_reads {P : Program} {W : World} {name : String} {k : IntKind} {zs : List Int} {g : Nat} {t e : TypeId} {n : Nat}
    (hg : P.globalNamed name = some g) (hty : (P.globals[g]?).map (·.type) = some t) (ht : P.underlying t = some (.array n e)) (he : P.underlying e = some (.int k)) (hce : P.cellsOf e = 1) (hct : P.cellsOf t = n)
    (h : Lib.VarReads P W name (Lib.tabData k zs)) : Lib.TabIs P W name k zs := by
  obtain ⟨g', t', cs, fuel, p, hg', ht', hvar, hd⟩ := h
  obtain rfl := Option.some.inj (hg.symm.trans hg')
  obtain rfl := Option.some.inj (hty.symm.trans ht')
  unfold Lib.TabIs
  rw [hvar, ← Lib.cells_of_tab ht he hce hct hd]
theorem pow_of_laid {W : World} (h : laidMet Tryz.prog rowLaid W) : Lib.TabIs Tryz.prog W "internal/strconv.uint64pow10" .u64 Lib.pow10Tab :=
  tabIs_reads (g := 2) (t := (((Tryz.prog.globals[2]?).map (·.type)).getD 0)) (e := 139) (n := 20) (by kernel_rfl) (by kernel_rfl) (by kernel_rfl) (by kernel_rfl) (by kernel_rfl) (by kernel_rfl) (powD ▸ (Lib.laidMet.reads h (show ("internal/strconv.uint64pow10", Rows.laid_internal_strconv_uint64pow10) ∈ rowLaid from .tail _ (.tail _ (.head _)))))
theorem qtabs_of_laid {W : World} (h : laidMetH Tryz.prog rowLaid W) : QTabs Lib.goPrintTabs W := by
  rw [MakeChecks.laidMetH_plain _ _ _ (by kernel_rfl)] at h
  exact ⟨utf_of_laid h, prt_of_laid h, pow_of_laid h⟩
theorem laid_met (os : Os) (args : Array Value) : laidMetH Tryz.prog rowLaid ((World.laidAll Tryz.prog os rowLaid).forCall (fun _ _ => 0) ⟨#[], args, []⟩).memory := by
  rw [MakeChecks.laidMetH_plain _ _ _ (by kernel_rfl)]
  exact laidMet_laidAll _ (by kernel_rfl) (by kernel_rfl)
theorem opensL_imp {P : Program} {α : Type} {k : Kd α} {fs : List Field} {off : Nat} {good good' : α → Prop} (h : OpensL P k fs off good) (hi : ∀ v, good v → good' v) : OpensL P k fs off good' := by
  intro H enc w base spare held n cs hl hf
  obtain ⟨v, hv, hg⟩ := h H enc w base spare held n cs hl hf
  exact ⟨v, hv, hi v hg⟩
theorem opens_nodeB : Opens Tryz.prog kNode 42 NBd := by
  unfold kNode
  refine opens_iso (good := fun x : Int × List Int × List ByteArray × List Int => NBd ⟨x.1, x.2.1, x.2.2.1, x.2.2.2⟩) (fun v => ⟨⟨v.1, v.2.1, v.2.2.1, v.2.2.2⟩, rfl⟩) (opens_struct Tryz.underlying42 (by kernel_rfl) ?_)
  refine opensL_imp (opensL_cons rfl (by kernel_rfl) (opens_int Tryz.underlying3) (by decide)
    (opensL_cons rfl (by kernel_rfl) (opens_slice Tryz.underlying38 (by kernel_rfl) (opens_int Tryz.underlying2)) (by decide)
    (opensL_cons rfl (by kernel_rfl) (opens_slice Tryz.underlying39 (by kernel_rfl) (opens_string Tryz.underlying9)) (by decide)
    (opensL_one rfl (by kernel_rfl) (opens_slice Tryz.underlying40 (by kernel_rfl) (opens_int Tryz.underlying3)))))) ?_
  rintro ⟨k, i, t, q⟩ ⟨h1, h2, _⟩
  exact ⟨wf_i64 h1, fun x hx => wf_i64 (h2.2 x hx)⟩
theorem opens_sceneB : Opens Tryz.prog kScene 24 (fun s => ∀ i : Nat, i < s.nodes.length → NBd (nd s.nodes i)) := by
  unfold kScene
  refine opens_iso (good := fun x : List Node × Int => ∀ i : Nat, i < x.1.length → NBd (nd x.1 i)) (fun v => ⟨⟨v.1, v.2⟩, rfl⟩) (opens_struct Tryz.underlying24 (by kernel_rfl) ?_)
  refine opensL_imp (opensL_cons rfl (by kernel_rfl) (opens_slice Tryz.underlying22 (by kernel_rfl) opens_nodeB) (by decide)
    (opensL_one rfl (by kernel_rfl) (opens_int Tryz.underlying3))) ?_
  rintro ⟨ns, r⟩ ⟨h1, _⟩ i hi
  refine h1.2 _ ?_
  show nd ns i ∈ ns
  unfold nd
  rw [getD_eq _ hi]
  exact List.getElem_mem hi
end Go.Proofs.YtggldnbhmebcpaaGreatDoor.L
end
