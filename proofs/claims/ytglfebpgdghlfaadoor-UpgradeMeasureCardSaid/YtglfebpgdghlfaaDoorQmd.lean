/- Part 4 of the texts that YtglfebpgdghlfaaDoorRowUM rests on, joined by a program: what its functions come to. Conditions: those that each theorem states. -/
import Derived.Test.YtglfebpgdghlfaaDoorQmc
import Derived.Test.YtglfebpgdghlfaaDoorProg
import Derived.Below
import Derived.Deep.Draws
import Derived.Deep.AppendLies
import Derived.Maps.AppendAt
import Derived.OwnWalk
import Derived.Laws.BytesArg
import Derived.Laws.MakeOwn
import Derived.Laws.OwnMore
import Derived.Deep.OwnRows
import Derived.Tactics
import Derived.Lib.ConvBytes
import Derived.Laws.Slices
import Derived.WalkKit
import Derived.KernelRfl
import Derived.RowKit3
import Derived.Deep.LoopGhost
import Derived.Deep.QuietTactic
import Derived.BigQuiet
import Derived.WideLaws
import Derived.Deep.DeepCutAuto
import Derived.Deep.CutBlock
import Derived.Deep.RegionHeld3
import Derived.Laws.Rows
import Derived.Lib.AppendStr
import Derived.ArgAppend
import Derived.Laws.IdiomCopy
import Derived.OrdersHeld
import Derived.Laws.BitsLemmas
import Derived.RowKit
import Derived.Lib.Bytes
import Derived.Lib.MapLaws
import Derived.Laws.CopyOwn
import Derived.Deep.RegionLaw
set_option linter.unusedVariables false
set_option linter.unusedSimpArgs false
section
-- PRINTED BY print.sh 35421559b90ae4d0a3588c463048766b98c2df88dd9212a6774a882060cdf62d: not written by this session
namespace Go.Proofs.YtglfebpgdghlfaaDoor.PUpgradeUps
open Go.RowKit Go.Proofs.YtglfebpgdghlfaaDoorW.PrintWords Go.Proofs.YtglfebpgdghlfaaDoorW.PrintLast Go.Proofs.YtglfebpgdghlfaaDoorW.PrintMore
attribute [local go_sem] max2_int min2_int max_two min_two max_three min_three max_four min_four   -- for this text's walks alone
set_option linter.unusedVariables false
set_option linter.unusedSimpArgs false
def errW : Option Int → Value
 | none => .nilIface
 | some c => .iface 0 (.int .i64 c)
theorem errW_none : errW none = .nilIface := rfl
theorem errW_some (c : Int) : errW (some c) = .iface 0 (.int .i64 c) := rfl

theorem info3 : (Tryd.prog.info? 3).map (fun i => (i.zero, i.size, i.bytes)) = some (some (.int .i64 0), 1, 8) := by kernel_rfl
theorem info4 : (Tryd.prog.info? 4).map (fun i => (i.zero, i.size, i.bytes)) = some (some (.bool false), 1, 1) := by kernel_rfl
theorem info21 : (Tryd.prog.info? 21).map (fun i => (i.zero, i.size, i.bytes)) = some (some (.int .i32 0), 1, 4) := by kernel_rfl
structure S26 where
 f0 : Int
 f1 : (List Int)
 f2 : (List ByteArray)
 f3 : (List Int)
def z26 : S26 := ⟨(0 : Int), ([] : List Int), ([] : List ByteArray), ([] : List Int)⟩
def k26 : Kd S26 := Kd.iso (Kd.pair (Kd.int .i64) (Kd.pair (Kd.slice 2 (Kd.int .i64)) (Kd.pair (Kd.slice 9 Kd.string) (Kd.slice 3 (Kd.int .i64))))) (fun x : S26 => (x.f0, x.f1, x.f2, x.f3))
theorem k26_open {w : World} {x : S26} {cs : List Value} (h : k26.K w x cs) : ∃ A1 c1 A2 c2 A3 c3, cs = [.int .i64 x.f0, .slice A1 x.f1.length c1, .slice A2 x.f2.length c2, .slice A3 x.f3.length c3] ∧ x.f1.length ≤ c1 ∧ (Kd.int .i64).C w A1 x.f1.length x.f1 ∧ x.f2.length ≤ c2 ∧ Kd.string.C w A2 x.f2.length x.f2 ∧ x.f3.length ≤ c3 ∧ (Kd.int .i64).C w A3 x.f3.length x.f3 := by
 obtain ⟨_, _, rfl, rfl, ⟨_, _, rfl, ⟨A1, c1, rfl, l1, g1⟩, ⟨_, _, rfl, ⟨A2, c2, rfl, l2, g2⟩, ⟨A3, c3, rfl, l3, g3⟩⟩⟩⟩ := h
 exact ⟨A1, c1, A2, c2, A3, c3, rfl, l1, g1, l2, g2, l3, g3⟩
def rd_T26 (xs : List S26) (i : Int) : S26 := xs.getD i.toNat z26
theorem at_T26 {w : World} {A : Option Addr} {n : Nat} {xs : List S26} (h : Kd.C k26 w A n xs) (i : Int) (h0 : 0 ≤ i) (h1 : i < n) : ∃ ad A1 c1 A2 c2 A3 c3, A = some ad ∧ w.cell? (ad.add (i.toNat * 4)) = some (.int .i64 (rd_T26 xs i).f0) ∧ w.cell? ⟨(ad.add (i.toNat * 4)).block, (ad.add (i.toNat * 4)).off + 1, none⟩ = some (.slice A1 (rd_T26 xs i).f1.length c1) ∧ w.cell? ⟨(ad.add (i.toNat * 4)).block, (ad.add (i.toNat * 4)).off + 2, none⟩ = some (.slice A2 (rd_T26 xs i).f2.length c2) ∧ w.cell? ⟨(ad.add (i.toNat * 4)).block, (ad.add (i.toNat * 4)).off + 3, none⟩ = some (.slice A3 (rd_T26 xs i).f3.length c3) ∧ (rd_T26 xs i).f1.length ≤ c1 ∧ (Kd.int .i64).C w A1 (rd_T26 xs i).f1.length (rd_T26 xs i).f1 ∧ (rd_T26 xs i).f2.length ≤ c2 ∧ Kd.string.C w A2 (rd_T26 xs i).f2.length (rd_T26 xs i).f2 ∧ (rd_T26 xs i).f3.length ≤ c3 ∧ (Kd.int .i64).C w A3 (rd_T26 xs i).f3.length (rd_T26 xs i).f3 := by
 obtain ⟨ad, c, e, _, hK, hc0⟩ := Kd.C_get h z26 i h0 h1
 have hc : ∀ j u, c[j]? = some u → w.cell? (ad.add (i.toNat * 4 + j)) = some u := hc0
 obtain ⟨A1, c1, A2, c2, A3, c3, rfl, l1, g1, l2, g2, l3, g3⟩ := k26_open hK
 exact ⟨ad, A1, c1, A2, c2, A3, c3, e, hc 0 _ rfl, by rw [← add_field _ _ 1 (by omega)]; exact hc 1 _ rfl, by rw [← add_field _ _ 2 (by omega)]; exact hc 2 _ rfl, by rw [← add_field _ _ 3 (by omega)]; exact hc 3 _ rfl, l1, g1, l2, g2, l3, g3⟩

end Go.Proofs.YtglfebpgdghlfaaDoor.PUpgradeUps
end
section
-- PRINTED BY print.sh 35421559b90ae4d0a3588c463048766b98c2df88dd9212a6774a882060cdf62d: not written by this session
namespace Go.Proofs.YtglfebpgdghlfaaDoor.PUpgradeUps
open Go.RowKit Go.Proofs.YtglfebpgdghlfaaDoorW.PrintWords Go.Proofs.YtglfebpgdghlfaaDoorW.PrintLast Go.Proofs.YtglfebpgdghlfaaDoorW.PrintMore
attribute [local go_sem] max2_int min2_int max_two min_two max_three min_three max_four min_four   -- for this text's walks alone
set_option linter.unusedVariables false
set_option linter.unusedSimpArgs false
def dioramaref07_In.f (a0 : Int) (a1 : Int) : Option (Bool) := if a0 = 1 then (some true) else (if a0 = 2 then (if a1 ≥ 0 then (if a1 ≤ 140737488355328 then (some true) else (if a1 < 0 then (some (decide (a1 ≥ (-140737488355328)))) else (some false))) else (if a1 < 0 then (some (decide (a1 ≥ (-140737488355328)))) else (some false))) else (if a0 = 3 then (if a1 ≥ 0 then (some (decide (a1 ≤ 140737488355328))) else (some false)) else (if a0 = 4 then (if a1 ≥ 0 then (some (decide (a1 < 256))) else (some false)) else (if a0 = 5 then (if (wrap64 (a1 * a1)) = a1 then (if a1 ≥ 0 then (some (decide (a1 ≤ 1))) else (some false)) else (some false)) else (some false)))))
set_option maxHeartbeats 8000000 in
set_option maxRecDepth 100000 in
theorem dioramaref07_In.calls (a0 : Int) (a1 : Int) (r : Bool) (w : World) (h : dioramaref07_In.f a0 a1 = some r) :
  Calls Tryd.prog 81 #[.int .i64 a0, .int .i64 a1] w fun e w' => e = .returned (.bool r) ∧ Drawn0 w w' := by
 have H : (if a0 = 1 then (some true) else (if a0 = 2 then (if a1 ≥ 0 then (if a1 ≤ 140737488355328 then (some true) else (if a1 < 0 then (some (decide (a1 ≥ (-140737488355328)))) else (some false))) else (if a1 < 0 then (some (decide (a1 ≥ (-140737488355328)))) else (some false))) else (if a0 = 3 then (if a1 ≥ 0 then (some (decide (a1 ≤ 140737488355328))) else (some false)) else (if a0 = 4 then (if a1 ≥ 0 then (some (decide (a1 < 256))) else (some false)) else (if a0 = 5 then (if (wrap64 (a1 * a1)) = a1 then (if a1 ≥ 0 then (some (decide (a1 ≤ 1))) else (some false)) else (some false)) else (some false)))))) = some r := h
 clear h
 by_cases c3 : a0 = 1
 ·rw [if_pos c3] at H
  have c3b0 : (a0 == 1) = true := beq_iff_eq.mpr c3
  have c3b1 : (a0 != 1) = false := bne_eq_false_iff_eq.mpr c3
  clear c3
  obtain rfl := Option.some.inj H
  go_enter Tryd.func81, Tryd.ntmps81
  go_wp2
  go_ret
  exact ⟨by first | rfl | (simp; done) | (simp [*]; done), by repeat (first | exact Drawn0.refl _ | apply Drawn0.step)⟩
 ·rw [if_neg c3] at H
  have c3b0 : (a0 == 1) = false := beq_eq_false_iff_ne.mpr c3
  have c3b1 : (a0 != 1) = true := bne_iff_ne.mpr c3
  by_cases c4 : a0 = 2
  ·rw [if_pos c4] at H
   have c4b0 : (a0 == 2) = true := beq_iff_eq.mpr c4
   have c4b1 : (a0 != 2) = false := bne_eq_false_iff_eq.mpr c4
   clear c4
   by_cases c5 : a1 ≥ 0
   ·rw [if_pos c5] at H
    have c5b0 : decide (0 ≤ a1) = true := decide_eq_true c5
    clear c5
    by_cases c6 : a1 ≤ 140737488355328
    ·rw [if_pos c6] at H
     have c6b0 : decide (a1 ≤ 140737488355328) = true := decide_eq_true c6
     clear c6
     obtain rfl := Option.some.inj H
     go_enter Tryd.func81, Tryd.ntmps81
     go_wp2
     go_ret
     exact ⟨by first | rfl | (simp; done) | (simp [*]; done), by repeat (first | exact Drawn0.refl _ | apply Drawn0.step)⟩
    ·rw [if_neg c6] at H
     have c6b0 : decide (a1 ≤ 140737488355328) = false := decide_eq_false c6
     clear c6
     by_cases c7 : a1 < 0
     ·rw [if_pos c7] at H
      have c7b0 : decide (a1 < 0) = true := decide_eq_true c7
      clear c7
      obtain rfl := Option.some.inj H
      go_enter Tryd.func81, Tryd.ntmps81
      go_wp2
      go_ret
      exact ⟨by first | rfl | (simp; done) | (simp [*]; done), by repeat (first | exact Drawn0.refl _ | apply Drawn0.step)⟩
     ·rw [if_neg c7] at H
      have c7b0 : decide (a1 < 0) = false := decide_eq_false c7
      clear c7
      obtain rfl := Option.some.inj H
      go_enter Tryd.func81, Tryd.ntmps81
      go_wp2
      go_ret
      exact ⟨by first | rfl | (simp; done) | (simp [*]; done), by repeat (first | exact Drawn0.refl _ | apply Drawn0.step)⟩
   ·rw [if_neg c5] at H
    have c5b0 : decide (0 ≤ a1) = false := decide_eq_false c5
    clear c5
    by_cases c8 : a1 < 0
    ·rw [if_pos c8] at H
     have c8b0 : decide (a1 < 0) = true := decide_eq_true c8
     clear c8
     obtain rfl := Option.some.inj H
     go_enter Tryd.func81, Tryd.ntmps81
     go_wp2
     go_ret
     exact ⟨by first | rfl | (simp; done) | (simp [*]; done), by repeat (first | exact Drawn0.refl _ | apply Drawn0.step)⟩
    ·rw [if_neg c8] at H
     have c8b0 : decide (a1 < 0) = false := decide_eq_false c8
     clear c8
     obtain rfl := Option.some.inj H
     go_enter Tryd.func81, Tryd.ntmps81
     go_wp2
     go_ret
     exact ⟨by first | rfl | (simp; done) | (simp [*]; done), by repeat (first | exact Drawn0.refl _ | apply Drawn0.step)⟩
  ·rw [if_neg c4] at H
   have c4b0 : (a0 == 2) = false := beq_eq_false_iff_ne.mpr c4
   have c4b1 : (a0 != 2) = true := bne_iff_ne.mpr c4
   by_cases c9 : a0 = 3
   ·rw [if_pos c9] at H
    have c9b0 : (a0 == 3) = true := beq_iff_eq.mpr c9
    have c9b1 : (a0 != 3) = false := bne_eq_false_iff_eq.mpr c9
    clear c9
    by_cases c10 : a1 ≥ 0
    ·rw [if_pos c10] at H
     have c10b0 : decide (0 ≤ a1) = true := decide_eq_true c10
     clear c10
     obtain rfl := Option.some.inj H
     go_enter Tryd.func81, Tryd.ntmps81
     go_wp2
     go_ret
     exact ⟨by first | rfl | (simp; done) | (simp [*]; done), by repeat (first | exact Drawn0.refl _ | apply Drawn0.step)⟩
    ·rw [if_neg c10] at H
     have c10b0 : decide (0 ≤ a1) = false := decide_eq_false c10
     clear c10
     obtain rfl := Option.some.inj H
     go_enter Tryd.func81, Tryd.ntmps81
     go_wp2
     go_ret
     exact ⟨by first | rfl | (simp; done) | (simp [*]; done), by repeat (first | exact Drawn0.refl _ | apply Drawn0.step)⟩
   ·rw [if_neg c9] at H
    have c9b0 : (a0 == 3) = false := beq_eq_false_iff_ne.mpr c9
    have c9b1 : (a0 != 3) = true := bne_iff_ne.mpr c9
    by_cases c11 : a0 = 4
    ·rw [if_pos c11] at H
     have c11b0 : (a0 == 4) = true := beq_iff_eq.mpr c11
     have c11b1 : (a0 != 4) = false := bne_eq_false_iff_eq.mpr c11
     clear c11
     by_cases c12 : a1 ≥ 0
     ·rw [if_pos c12] at H
      have c12b0 : decide (0 ≤ a1) = true := decide_eq_true c12
      clear c12
      obtain rfl := Option.some.inj H
      go_enter Tryd.func81, Tryd.ntmps81
      go_wp2
      go_ret
      exact ⟨by first | rfl | (simp; done) | (simp [*]; done), by repeat (first | exact Drawn0.refl _ | apply Drawn0.step)⟩
     ·rw [if_neg c12] at H
      have c12b0 : decide (0 ≤ a1) = false := decide_eq_false c12
      clear c12
      obtain rfl := Option.some.inj H
      go_enter Tryd.func81, Tryd.ntmps81
      go_wp2
      go_ret
      exact ⟨by first | rfl | (simp; done) | (simp [*]; done), by repeat (first | exact Drawn0.refl _ | apply Drawn0.step)⟩
    ·rw [if_neg c11] at H
     have c11b0 : (a0 == 4) = false := beq_eq_false_iff_ne.mpr c11
     have c11b1 : (a0 != 4) = true := bne_iff_ne.mpr c11
     by_cases c13 : a0 = 5
     ·rw [if_pos c13] at H
      have c13b0 : (a0 == 5) = true := beq_iff_eq.mpr c13
      have c13b1 : (a0 != 5) = false := bne_eq_false_iff_eq.mpr c13
      clear c13
      by_cases c14 : (wrap64 (a1 * a1)) = a1
      ·rw [if_pos c14] at H
       have c14b0 : ((wrap64 (a1 * a1)) == a1) = true := beq_iff_eq.mpr c14
       have c14b1 : ((wrap64 (a1 * a1)) != a1) = false := bne_eq_false_iff_eq.mpr c14
       clear c14
       by_cases c15 : a1 ≥ 0
       ·rw [if_pos c15] at H
        have c15b0 : decide (0 ≤ a1) = true := decide_eq_true c15
        clear c15
        obtain rfl := Option.some.inj H
        go_enter Tryd.func81, Tryd.ntmps81
        go_wp2
        go_ret
        exact ⟨by first | rfl | (simp; done) | (simp [*]; done), by repeat (first | exact Drawn0.refl _ | apply Drawn0.step)⟩
       ·rw [if_neg c15] at H
        have c15b0 : decide (0 ≤ a1) = false := decide_eq_false c15
        clear c15
        obtain rfl := Option.some.inj H
        go_enter Tryd.func81, Tryd.ntmps81
        go_wp2
        go_ret
        exact ⟨by first | rfl | (simp; done) | (simp [*]; done), by repeat (first | exact Drawn0.refl _ | apply Drawn0.step)⟩
      ·rw [if_neg c14] at H
       have c14b0 : ((wrap64 (a1 * a1)) == a1) = false := beq_eq_false_iff_ne.mpr c14
       have c14b1 : ((wrap64 (a1 * a1)) != a1) = true := bne_iff_ne.mpr c14
       obtain rfl := Option.some.inj H
       go_enter Tryd.func81, Tryd.ntmps81
       go_wp2
       go_ret
       exact ⟨by first | rfl | (simp; done) | (simp [*]; done), by repeat (first | exact Drawn0.refl _ | apply Drawn0.step)⟩
     ·rw [if_neg c13] at H
      have c13b0 : (a0 == 5) = false := beq_eq_false_iff_ne.mpr c13
      have c13b1 : (a0 != 5) = true := bne_iff_ne.mpr c13
      obtain rfl := Option.some.inj H
      go_enter Tryd.func81, Tryd.ntmps81
      go_wp2
      go_ret
      exact ⟨by first | rfl | (simp; done) | (simp [*]; done), by repeat (first | exact Drawn0.refl _ | apply Drawn0.step)⟩

end Go.Proofs.YtglfebpgdghlfaaDoor.PUpgradeUps
end
section
-- PRINTED BY print.sh 35421559b90ae4d0a3588c463048766b98c2df88dd9212a6774a882060cdf62d: not written by this session
namespace Go.Proofs.YtglfebpgdghlfaaDoor.PUpgradeUps
open Go.RowKit Go.Proofs.YtglfebpgdghlfaaDoorW.PrintWords Go.Proofs.YtglfebpgdghlfaaDoorW.PrintLast Go.Proofs.YtglfebpgdghlfaaDoorW.PrintMore
attribute [local go_sem] max2_int min2_int max_two min_two max_three min_three max_four min_four   -- for this text's walks alone
set_option linter.unusedVariables false
set_option linter.unusedSimpArgs false
def dioramaref05_Char.j0 : Nat → Int → Bool → Option (ByteArray)
 | 0, _, _ => none
 | k + 1, x0, x17 => if x17 = true then (some (⟨#[]⟩ : ByteArray)) else (if (wrap64 (x0)) < 128 then (some (strOfNums (([(wrap64 (x0)) % 256] : List Int)))) else (if (wrap64 (x0)) < 2048 then (some (strOfNums (([(wrap64 (192 + (wrap64 (Int.tdiv (wrap64 (x0)) 64)))) % 256, (wrap64 (128 + (Int.tmod (wrap64 (x0)) 64))) % 256] : List Int)))) else (if (wrap64 (x0)) < 65536 then (some (strOfNums (([(wrap64 (224 + (wrap64 (Int.tdiv (wrap64 (x0)) 4096)))) % 256, (wrap64 (128 + (Int.tmod (wrap64 (Int.tdiv (wrap64 (x0)) 64)) 64))) % 256, (wrap64 (128 + (Int.tmod (wrap64 (x0)) 64))) % 256] : List Int)))) else (some (strOfNums (([(wrap64 (240 + (wrap64 (Int.tdiv (wrap64 (x0)) 262144)))) % 256, (wrap64 (128 + (Int.tmod (wrap64 (Int.tdiv (wrap64 (x0)) 4096)) 64))) % 256, (wrap64 (128 + (Int.tmod (wrap64 (Int.tdiv (wrap64 (x0)) 64)) 64))) % 256, (wrap64 (128 + (Int.tmod (wrap64 (x0)) 64))) % 256] : List Int)))))))
def dioramaref05_Char.f (k : Nat) (a0 : Int) : Option (ByteArray) := if a0 < 0 then (dioramaref05_Char.j0 k a0 true) else (if a0 > 1114111 then (dioramaref05_Char.j0 k a0 true) else (if a0 ≥ 55296 then (dioramaref05_Char.j0 k a0 (decide (a0 ≤ 57343))) else (dioramaref05_Char.j0 k a0 false)))
set_option maxHeartbeats 8000000 in
set_option maxRecDepth 100000 in
theorem dioramaref05_Char.calls (k : Nat) (a0 : Int) (r : ByteArray) (w : World) (h : dioramaref05_Char.f k a0 = some r) :
  Calls Tryd.prog 122 #[.int .i32 a0] w fun e w' => e = .returned (.string r) ∧ Below w.heap.size w w' := by
 have HB := Aside0.mk (Below.refl w.heap.size w)
 have H : (if a0 < 0 then (dioramaref05_Char.j0 k a0 true) else (if a0 > 1114111 then (dioramaref05_Char.j0 k a0 true) else (if a0 ≥ 55296 then (dioramaref05_Char.j0 k a0 (decide (a0 ≤ 57343))) else (dioramaref05_Char.j0 k a0 false)))) = some r := h
 clear h
 have HC2 := Aside0.mk H
 clear H
 go_enter Tryd.func122, Tryd.ntmps122
 go_upto_region 1 with (fail)
 go_cut [17] (fun v17 wc => ∃ (kq : Nat) (x17_1 : Bool), v17 = .bool x17_1 ∧ Aside0 (dioramaref05_Char.j0 kq a0 x17_1 = some r) ∧ Aside0 (kq ≤ k) ∧ Aside0 (Below w.heap.size w wc))
 case first =>
  have H := HC2.out
  clear HC2
  by_cases c3 : a0 < 0
  ·rw [if_pos c3] at H
   have c3b0 : decide (a0 < 0) = true := decide_eq_true c3
   clear c3
   (first | rw [c3b0] | (simp only [i64_w, i32_w]; rw [c3b0]) | skip)
   have H' := Aside0.mk H
   clear H
   go_wp2
   go_meet
   case rel => exact ⟨_, (true), (by first | rfl | (simp; done) | (simp [*]; done)), H', ⟨by first | omega | exact Nat.le_refl _⟩, ⟨by repeat (first | (with_reducible first | exact HB.out | apply below_alloc | apply pw_below_drewN | apply below_drew1) | exact HB.out)⟩⟩
  ·rw [if_neg c3] at H
   have c3b0 : decide (a0 < 0) = false := decide_eq_false c3
   clear c3
   (first | rw [c3b0] | (simp only [i64_w, i32_w]; rw [c3b0]) | skip)
   by_cases c4 : a0 > 1114111
   ·rw [if_pos c4] at H
    have c4b0 : decide (1114111 < a0) = true := decide_eq_true c4
    clear c4
    have H' := Aside0.mk H
    clear H
    go_wp2
    go_meet
    case rel => exact ⟨_, (true), (by first | rfl | (simp; done) | (simp [*]; done)), H', ⟨by first | omega | exact Nat.le_refl _⟩, ⟨by repeat (first | (with_reducible first | exact HB.out | apply below_alloc | apply pw_below_drewN | apply below_drew1) | exact HB.out)⟩⟩
   ·rw [if_neg c4] at H
    have c4b0 : decide (1114111 < a0) = false := decide_eq_false c4
    clear c4
    by_cases c5 : a0 ≥ 55296
    ·rw [if_pos c5] at H
     have c5b0 : decide (55296 ≤ a0) = true := decide_eq_true c5
     clear c5
     have H' := Aside0.mk H
     clear H
     go_wp2
     go_meet
     case rel => exact ⟨_, (decide (a0 ≤ 57343)), (by first | rfl | (simp; done) | (simp [*]; done)), H', ⟨by first | omega | exact Nat.le_refl _⟩, ⟨by repeat (first | (with_reducible first | exact HB.out | apply below_alloc | apply pw_below_drewN | apply below_drew1) | exact HB.out)⟩⟩
    ·rw [if_neg c5] at H
     have c5b0 : decide (55296 ≤ a0) = false := decide_eq_false c5
     clear c5
     have H' := Aside0.mk H
     clear H
     go_wp2
     go_meet
     case rel => exact ⟨_, (false), (by first | rfl | (simp; done) | (simp [*]; done)), H', ⟨by first | omega | exact Nat.le_refl _⟩, ⟨by repeat (first | (with_reducible first | exact HB.out | apply below_alloc | apply pw_below_drewN | apply below_drew1) | exact HB.out)⟩⟩
 case rest =>
  clear HC2
  try clear c1
  try clear p2
  try clear c3
  try clear c3b0
  try clear c4
  try clear c4b0
  try clear c5
  try clear c5b0
  obtain ⟨kq, x17_1, rfl, HA, HJ1, HB⟩ := hcut
  cases kq with
  | zero => exact absurd HA.out (by simp [dioramaref05_Char.j0])
  | succ kj1 =>
   have H := HA.out
   clear HA
   simp only [dioramaref05_Char.j0] at H
   by_cases c6 : x17_1 = true
   ·subst c6
    have H1 : (some (⟨#[]⟩ : ByteArray)) = some r := by rw [if_pos rfl] at H; exact H
    clear H
    have H := H1
    clear H1
    obtain rfl := Option.some.inj H
    go_wp2
    go_ret
    exact ⟨by first | rfl | (simp [errW_none, errW_some] <;> rfl) | (simp [*, errW_none, errW_some] <;> rfl), by repeat (first | (with_reducible first | exact HB.out | apply below_alloc | apply pw_below_drewN | apply below_drew1) | exact HB.out)⟩
   ·replace c6 := Bool.eq_false_iff.mpr c6
    subst c6
    have H1 : (if (wrap64 (a0)) < 128 then (some (strOfNums (([(wrap64 (a0)) % 256] : List Int)))) else (if (wrap64 (a0)) < 2048 then (some (strOfNums (([(wrap64 (192 + (wrap64 (Int.tdiv (wrap64 (a0)) 64)))) % 256, (wrap64 (128 + (Int.tmod (wrap64 (a0)) 64))) % 256] : List Int)))) else (if (wrap64 (a0)) < 65536 then (some (strOfNums (([(wrap64 (224 + (wrap64 (Int.tdiv (wrap64 (a0)) 4096)))) % 256, (wrap64 (128 + (Int.tmod (wrap64 (Int.tdiv (wrap64 (a0)) 64)) 64))) % 256, (wrap64 (128 + (Int.tmod (wrap64 (a0)) 64))) % 256] : List Int)))) else (some (strOfNums (([(wrap64 (240 + (wrap64 (Int.tdiv (wrap64 (a0)) 262144)))) % 256, (wrap64 (128 + (Int.tmod (wrap64 (Int.tdiv (wrap64 (a0)) 4096)) 64))) % 256, (wrap64 (128 + (Int.tmod (wrap64 (Int.tdiv (wrap64 (a0)) 64)) 64))) % 256, (wrap64 (128 + (Int.tmod (wrap64 (a0)) 64))) % 256] : List Int))))))) = some r := by rw [if_neg (show ¬ (false = true) by decide)] at H; exact H
    clear H
    have H := H1
    clear H1
    by_cases c7 : (wrap64 (a0)) < 128
    ·rw [if_pos c7] at H
     have c7b0 : decide ((wrap64 (a0)) < 128) = true := decide_eq_true c7
     clear c7
     obtain ⟨y276, hy276⟩ : ∃ y_ : List Int, y_ = (([(wrap64 (a0)) % 256] : List Int)) := ⟨_, rfl⟩
     replace H : (some (strOfNums y276)) = some r := by first | (rw [hy276]; with_reducible exact H) | (have H2_ := (Option.bind_some _ _).symm.trans H; rw [hy276]; with_reducible exact H2_) | (have H2_ := (Option.bind_some _ _).symm.trans H; with_reducible exact H2_) | with_reducible exact H | (rw [hy276]; exact H) | exact H
     have Ny276 := Aside0.mk hy276
     clear hy276
     obtain rfl := Option.some.inj H
     go_wp2_with (first | ((with_reducible refine gate_dst (N := 24) rfl ?_); refine Kd.R_lit (Kd.int .u8) _ 5 ?hg (N := 24) ?hd (xs := ([(wrap64 (a0)) % 256] : List Int)) (inner := [.int .u8 ((wrap64 (a0)) % 256)]) (ok := fun _ => True) (okp := fun _ => True) ?hr ?hp (fun _ hk => hk) trivial (Below.refl _ _) (Nat.le_refl _) (by simp) ?_; (case hd => rfl); (case hg => rfl); (case hr => first | (go_simp; done) | (go_simp; rfl)); (case hp => exact (Reps.one (show Kd.M (Kd.int .u8) _ _ _ ((wrap64 (a0)) % 256) [.int .u8 ((wrap64 (a0)) % 256)] from rfl) (Reps.none _ _))); intro v277 w8 ho9 hb hg_ hnew_; clear hg_ hnew_; (first | rw [← Ny276.out] at ho9 | (simp only [Int.reduceToNat] at ho9; rw [← Ny276.out] at ho9)); have n0_ := Aside0.mk (Kd.R_lower ho9 (below_size (by repeat (first | (with_reducible first | exact HB.out | apply below_alloc | apply pw_below_drewN | apply below_drew1) | exact HB.out)))); have n1_ := Aside0.mk (below_step (by repeat (first | (with_reducible first | exact HB.out | apply below_alloc | apply pw_below_drewN | apply below_drew1) | exact HB.out)) hb); clear HB; have HO278 := n0_; have HB := n1_; clear n0_ n1_; clear hb ho9; have hcv10 := own_string (P := Tryd.prog) Tryd.underlying169 Tryd.underlying5 Tryd.underlying9 (Kd.own_of_R HO278.out)))
     go_ret
     exact ⟨by first | rfl | (simp [errW_none, errW_some] <;> rfl) | (simp [*, errW_none, errW_some] <;> rfl), by repeat (first | (with_reducible first | exact HB.out | apply below_alloc | apply pw_below_drewN | apply below_drew1) | exact HB.out)⟩
    ·rw [if_neg c7] at H
     have c7b0 : decide ((wrap64 (a0)) < 128) = false := decide_eq_false c7
     clear c7
     by_cases c11 : (wrap64 (a0)) < 2048
     ·rw [if_pos c11] at H
      have c11b0 : decide ((wrap64 (a0)) < 2048) = true := decide_eq_true c11
      clear c11
      obtain ⟨y279, hy279⟩ : ∃ y_ : List Int, y_ = (([(wrap64 (192 + (wrap64 (Int.tdiv (wrap64 (a0)) 64)))) % 256, (wrap64 (128 + (Int.tmod (wrap64 (a0)) 64))) % 256] : List Int)) := ⟨_, rfl⟩
      replace H : (some (strOfNums y279)) = some r := by first | (rw [hy279]; with_reducible exact H) | (have H2_ := (Option.bind_some _ _).symm.trans H; rw [hy279]; with_reducible exact H2_) | (have H2_ := (Option.bind_some _ _).symm.trans H; with_reducible exact H2_) | with_reducible exact H | (rw [hy279]; exact H) | exact H
      have Ny279 := Aside0.mk hy279
      clear hy279
      obtain rfl := Option.some.inj H
      go_wp2_with (first | ((with_reducible refine gate_dst (N := 36) rfl ?_); refine Kd.R_lit (Kd.int .u8) _ 5 ?hg (N := 36) ?hd (xs := ([(wrap64 (192 + (wrap64 (Int.tdiv (wrap64 (a0)) 64)))) % 256, (wrap64 (128 + (Int.tmod (wrap64 (a0)) 64))) % 256] : List Int)) (inner := [.int .u8 ((wrap64 (192 + (wrap64 (Int.tdiv (wrap64 (a0)) 64)))) % 256), .int .u8 ((wrap64 (128 + (Int.tmod (wrap64 (a0)) 64))) % 256)]) (ok := fun _ => True) (okp := fun _ => True) ?hr ?hp (fun _ hk => hk) trivial (Below.refl _ _) (Nat.le_refl _) (by simp) ?_; (case hd => rfl); (case hg => rfl); (case hr => first | (go_simp; done) | (go_simp; rfl)); (case hp => exact (Reps.one (show Kd.M (Kd.int .u8) _ _ _ ((wrap64 (192 + (wrap64 (Int.tdiv (wrap64 (a0)) 64)))) % 256) [.int .u8 ((wrap64 (192 + (wrap64 (Int.tdiv (wrap64 (a0)) 64)))) % 256)] from rfl) (Reps.one (show Kd.M (Kd.int .u8) _ _ _ ((wrap64 (128 + (Int.tmod (wrap64 (a0)) 64))) % 256) [.int .u8 ((wrap64 (128 + (Int.tmod (wrap64 (a0)) 64))) % 256)] from rfl) (Reps.none _ _)))); intro v280 w12 ho13 hb hg_ hnew_; clear hg_ hnew_; (first | rw [← Ny279.out] at ho13 | (simp only [Int.reduceToNat] at ho13; rw [← Ny279.out] at ho13)); have n0_ := Aside0.mk (Kd.R_lower ho13 (below_size (by repeat (first | (with_reducible first | exact HB.out | apply below_alloc | apply pw_below_drewN | apply below_drew1) | exact HB.out)))); have n1_ := Aside0.mk (below_step (by repeat (first | (with_reducible first | exact HB.out | apply below_alloc | apply pw_below_drewN | apply below_drew1) | exact HB.out)) hb); clear HB; have HO281 := n0_; have HB := n1_; clear n0_ n1_; clear hb ho13; have hcv14 := own_string (P := Tryd.prog) Tryd.underlying169 Tryd.underlying5 Tryd.underlying9 (Kd.own_of_R HO281.out)))
      go_ret
      exact ⟨by first | rfl | (simp [errW_none, errW_some] <;> rfl) | (simp [*, errW_none, errW_some] <;> rfl), by repeat (first | (with_reducible first | exact HB.out | apply below_alloc | apply pw_below_drewN | apply below_drew1) | exact HB.out)⟩
     ·rw [if_neg c11] at H
      have c11b0 : decide ((wrap64 (a0)) < 2048) = false := decide_eq_false c11
      clear c11
      by_cases c15 : (wrap64 (a0)) < 65536
      ·rw [if_pos c15] at H
       have c15b0 : decide ((wrap64 (a0)) < 65536) = true := decide_eq_true c15
       clear c15
       obtain ⟨y282, hy282⟩ : ∃ y_ : List Int, y_ = (([(wrap64 (224 + (wrap64 (Int.tdiv (wrap64 (a0)) 4096)))) % 256, (wrap64 (128 + (Int.tmod (wrap64 (Int.tdiv (wrap64 (a0)) 64)) 64))) % 256, (wrap64 (128 + (Int.tmod (wrap64 (a0)) 64))) % 256] : List Int)) := ⟨_, rfl⟩
       replace H : (some (strOfNums y282)) = some r := by first | (rw [hy282]; with_reducible exact H) | (have H2_ := (Option.bind_some _ _).symm.trans H; rw [hy282]; with_reducible exact H2_) | (have H2_ := (Option.bind_some _ _).symm.trans H; with_reducible exact H2_) | with_reducible exact H | (rw [hy282]; exact H) | exact H
       have Ny282 := Aside0.mk hy282
       clear hy282
       obtain rfl := Option.some.inj H
       go_wp2_with (first | ((with_reducible refine gate_dst (N := 53) rfl ?_); refine Kd.R_lit (Kd.int .u8) _ 5 ?hg (N := 53) ?hd (xs := ([(wrap64 (224 + (wrap64 (Int.tdiv (wrap64 (a0)) 4096)))) % 256, (wrap64 (128 + (Int.tmod (wrap64 (Int.tdiv (wrap64 (a0)) 64)) 64))) % 256, (wrap64 (128 + (Int.tmod (wrap64 (a0)) 64))) % 256] : List Int)) (inner := [.int .u8 ((wrap64 (224 + (wrap64 (Int.tdiv (wrap64 (a0)) 4096)))) % 256), .int .u8 ((wrap64 (128 + (Int.tmod (wrap64 (Int.tdiv (wrap64 (a0)) 64)) 64))) % 256), .int .u8 ((wrap64 (128 + (Int.tmod (wrap64 (a0)) 64))) % 256)]) (ok := fun _ => True) (okp := fun _ => True) ?hr ?hp (fun _ hk => hk) trivial (Below.refl _ _) (Nat.le_refl _) (by simp) ?_; (case hd => rfl); (case hg => rfl); (case hr => first | (go_simp; done) | (go_simp; rfl)); (case hp => exact (Reps.one (show Kd.M (Kd.int .u8) _ _ _ ((wrap64 (224 + (wrap64 (Int.tdiv (wrap64 (a0)) 4096)))) % 256) [.int .u8 ((wrap64 (224 + (wrap64 (Int.tdiv (wrap64 (a0)) 4096)))) % 256)] from rfl) (Reps.one (show Kd.M (Kd.int .u8) _ _ _ ((wrap64 (128 + (Int.tmod (wrap64 (Int.tdiv (wrap64 (a0)) 64)) 64))) % 256) [.int .u8 ((wrap64 (128 + (Int.tmod (wrap64 (Int.tdiv (wrap64 (a0)) 64)) 64))) % 256)] from rfl) (Reps.one (show Kd.M (Kd.int .u8) _ _ _ ((wrap64 (128 + (Int.tmod (wrap64 (a0)) 64))) % 256) [.int .u8 ((wrap64 (128 + (Int.tmod (wrap64 (a0)) 64))) % 256)] from rfl) (Reps.none _ _))))); intro v283 w16 ho17 hb hg_ hnew_; clear hg_ hnew_; (first | rw [← Ny282.out] at ho17 | (simp only [Int.reduceToNat] at ho17; rw [← Ny282.out] at ho17)); have n0_ := Aside0.mk (Kd.R_lower ho17 (below_size (by repeat (first | (with_reducible first | exact HB.out | apply below_alloc | apply pw_below_drewN | apply below_drew1) | exact HB.out)))); have n1_ := Aside0.mk (below_step (by repeat (first | (with_reducible first | exact HB.out | apply below_alloc | apply pw_below_drewN | apply below_drew1) | exact HB.out)) hb); clear HB; have HO284 := n0_; have HB := n1_; clear n0_ n1_; clear hb ho17; have hcv18 := own_string (P := Tryd.prog) Tryd.underlying169 Tryd.underlying5 Tryd.underlying9 (Kd.own_of_R HO284.out)))
       go_ret
       exact ⟨by first | rfl | (simp [errW_none, errW_some] <;> rfl) | (simp [*, errW_none, errW_some] <;> rfl), by repeat (first | (with_reducible first | exact HB.out | apply below_alloc | apply pw_below_drewN | apply below_drew1) | exact HB.out)⟩
      ·rw [if_neg c15] at H
       have c15b0 : decide ((wrap64 (a0)) < 65536) = false := decide_eq_false c15
       clear c15
       obtain ⟨y285, hy285⟩ : ∃ y_ : List Int, y_ = (([(wrap64 (240 + (wrap64 (Int.tdiv (wrap64 (a0)) 262144)))) % 256, (wrap64 (128 + (Int.tmod (wrap64 (Int.tdiv (wrap64 (a0)) 4096)) 64))) % 256, (wrap64 (128 + (Int.tmod (wrap64 (Int.tdiv (wrap64 (a0)) 64)) 64))) % 256, (wrap64 (128 + (Int.tmod (wrap64 (a0)) 64))) % 256] : List Int)) := ⟨_, rfl⟩
       replace H : (some (strOfNums y285)) = some r := by first | (rw [hy285]; with_reducible exact H) | (have H2_ := (Option.bind_some _ _).symm.trans H; rw [hy285]; with_reducible exact H2_) | (have H2_ := (Option.bind_some _ _).symm.trans H; with_reducible exact H2_) | with_reducible exact H | (rw [hy285]; exact H) | exact H
       have Ny285 := Aside0.mk hy285
       clear hy285
       obtain rfl := Option.some.inj H
       go_wp2_with (first | ((with_reducible refine gate_dst (N := 73) rfl ?_); refine Kd.R_lit (Kd.int .u8) _ 5 ?hg (N := 73) ?hd (xs := ([(wrap64 (240 + (wrap64 (Int.tdiv (wrap64 (a0)) 262144)))) % 256, (wrap64 (128 + (Int.tmod (wrap64 (Int.tdiv (wrap64 (a0)) 4096)) 64))) % 256, (wrap64 (128 + (Int.tmod (wrap64 (Int.tdiv (wrap64 (a0)) 64)) 64))) % 256, (wrap64 (128 + (Int.tmod (wrap64 (a0)) 64))) % 256] : List Int)) (inner := [.int .u8 ((wrap64 (240 + (wrap64 (Int.tdiv (wrap64 (a0)) 262144)))) % 256), .int .u8 ((wrap64 (128 + (Int.tmod (wrap64 (Int.tdiv (wrap64 (a0)) 4096)) 64))) % 256), .int .u8 ((wrap64 (128 + (Int.tmod (wrap64 (Int.tdiv (wrap64 (a0)) 64)) 64))) % 256), .int .u8 ((wrap64 (128 + (Int.tmod (wrap64 (a0)) 64))) % 256)]) (ok := fun _ => True) (okp := fun _ => True) ?hr ?hp (fun _ hk => hk) trivial (Below.refl _ _) (Nat.le_refl _) (by simp) ?_; (case hd => rfl); (case hg => rfl); (case hr => first | (go_simp; done) | (go_simp; rfl)); (case hp => exact (Reps.one (show Kd.M (Kd.int .u8) _ _ _ ((wrap64 (240 + (wrap64 (Int.tdiv (wrap64 (a0)) 262144)))) % 256) [.int .u8 ((wrap64 (240 + (wrap64 (Int.tdiv (wrap64 (a0)) 262144)))) % 256)] from rfl) (Reps.one (show Kd.M (Kd.int .u8) _ _ _ ((wrap64 (128 + (Int.tmod (wrap64 (Int.tdiv (wrap64 (a0)) 4096)) 64))) % 256) [.int .u8 ((wrap64 (128 + (Int.tmod (wrap64 (Int.tdiv (wrap64 (a0)) 4096)) 64))) % 256)] from rfl) (Reps.one (show Kd.M (Kd.int .u8) _ _ _ ((wrap64 (128 + (Int.tmod (wrap64 (Int.tdiv (wrap64 (a0)) 64)) 64))) % 256) [.int .u8 ((wrap64 (128 + (Int.tmod (wrap64 (Int.tdiv (wrap64 (a0)) 64)) 64))) % 256)] from rfl) (Reps.one (show Kd.M (Kd.int .u8) _ _ _ ((wrap64 (128 + (Int.tmod (wrap64 (a0)) 64))) % 256) [.int .u8 ((wrap64 (128 + (Int.tmod (wrap64 (a0)) 64))) % 256)] from rfl) (Reps.none _ _)))))); intro v286 w19 ho20 hb hg_ hnew_; clear hg_ hnew_; (first | rw [← Ny285.out] at ho20 | (simp only [Int.reduceToNat] at ho20; rw [← Ny285.out] at ho20)); have n0_ := Aside0.mk (Kd.R_lower ho20 (below_size (by repeat (first | (with_reducible first | exact HB.out | apply below_alloc | apply pw_below_drewN | apply below_drew1) | exact HB.out)))); have n1_ := Aside0.mk (below_step (by repeat (first | (with_reducible first | exact HB.out | apply below_alloc | apply pw_below_drewN | apply below_drew1) | exact HB.out)) hb); clear HB; have HO287 := n0_; have HB := n1_; clear n0_ n1_; clear hb ho20; have hcv21 := own_string (P := Tryd.prog) Tryd.underlying169 Tryd.underlying5 Tryd.underlying9 (Kd.own_of_R HO287.out)))
       go_ret
       exact ⟨by first | rfl | (simp [errW_none, errW_some] <;> rfl) | (simp [*, errW_none, errW_some] <;> rfl), by repeat (first | (with_reducible first | exact HB.out | apply below_alloc | apply pw_below_drewN | apply below_drew1) | exact HB.out)⟩

end Go.Proofs.YtglfebpgdghlfaaDoor.PUpgradeUps
end
section
-- PRINTED BY print.sh 35421559b90ae4d0a3588c463048766b98c2df88dd9212a6774a882060cdf62d: not written by this session
namespace Go.Proofs.YtglfebpgdghlfaaDoor.PUpgradeUps
open Go.RowKit Go.Proofs.YtglfebpgdghlfaaDoorW.PrintWords Go.Proofs.YtglfebpgdghlfaaDoorW.PrintLast Go.Proofs.YtglfebpgdghlfaaDoorW.PrintMore
attribute [local go_sem] max2_int min2_int max_two min_two max_three min_three max_four min_four   -- for this text's walks alone
set_option linter.unusedVariables false
set_option linter.unusedSimpArgs false
mutual
def dioramaref05_At.l0 : Nat → ByteArray → Int → Int → Option (Int × Int)
 | 0, _, _, _ => none
 | k + 1, x0, x1, x6 => if x6 ≤ 4 then (dioramaref05_At.j1 k x0 x1 x6 (decide ((wrap64 (x1 + x6)) ≤ (x0.size : Int)))) else (dioramaref05_At.j1 k x0 x1 x6 false)
def dioramaref05_At.j1 : Nat → ByteArray → Int → Int → Bool → Option (Int × Int)
 | 0, _, _, _, _ => none
 | k + 1, x0, x1, x6, x18 => if x18 = true then (if 0 ≤ x1 then (if x1 < (x0.size : Int) then (if x6 = 2 then (dioramaref05_At.j2 k x0 x1 x6 (wrap64 ((wrap64 (bt x0 x1)) - 192))) else (dioramaref05_At.j2 k x0 x1 x6 (wrap64 (bt x0 x1)))) else (none)) else (none)) else (some (0, 0))
def dioramaref05_At.j2 : Nat → ByteArray → Int → Int → Int → Option (Int × Int)
 | 0, _, _, _, _ => none
 | k + 1, x0, x1, x6, x7 => if x6 = 3 then (dioramaref05_At.j3 k x0 x1 x6 (wrap64 (x7 - 224))) else (dioramaref05_At.j3 k x0 x1 x6 x7)
def dioramaref05_At.j3 : Nat → ByteArray → Int → Int → Int → Option (Int × Int)
 | 0, _, _, _, _ => none
 | k + 1, x0, x1, x6, x7 => if x6 = 4 then (dioramaref05_At.j4 k x0 x1 x6 (wrap64 (x7 - 240))) else (dioramaref05_At.j4 k x0 x1 x6 x7)
def dioramaref05_At.j4 : Nat → ByteArray → Int → Int → Int → Option (Int × Int)
 | 0, _, _, _, _ => none
 | k + 1, x0, x1, x6, x7 => dioramaref05_At.l1 k x0 x1 x6 x7 1
def dioramaref05_At.l1 : Nat → ByteArray → Int → Int → Int → Int → Option (Int × Int)
 | 0, _, _, _, _, _ => none
 | k + 1, x0, x1, x6, x7, x8 => if x8 < x6 then (if 0 ≤ (wrap64 (x1 + x8)) then (if (wrap64 (x1 + x8)) < (x0.size : Int) then (dioramaref05_At.l1 k x0 x1 x6 (wrap64 ((wrap64 ((wrap64 (64 * x7)) + (wrap64 (bt x0 (wrap64 (x1 + x8)))))) - 128)) (wrap64 (x8 + 1))) else (none)) else (none)) else (if x7 ≥ 0 then (if x7 ≤ 1114111 then ((dioramaref05_Char.f k (wrap32 (x7))).bind fun t288 => (if 0 ≤ x1 then (if x1 ≤ (wrap64 (x1 + x6)) then (if (wrap64 (x1 + x6)) ≤ (x0.size : Int) then (if t288.toList = (x0.extract (x1 : Int).toNat ((wrap64 (x1 + x6)) : Int).toNat).toList then (some (wrap32 (x7), x6)) else (dioramaref05_At.l0 k x0 x1 (wrap64 (x6 + 1)))) else (none)) else (none)) else (none))) else (dioramaref05_At.l0 k x0 x1 (wrap64 (x6 + 1)))) else (dioramaref05_At.l0 k x0 x1 (wrap64 (x6 + 1))))
end
def dioramaref05_At.f (k : Nat) (a0 : ByteArray) (a1 : Int) : Option (Int × Int) := dioramaref05_At.l0 k a0 a1 1
def dioramaref05_At.T15 : Bool × List (List Nat × List Nat) := (true, [([], []), ([0], [0]), ([1], [1]), ([2], [2]), ([3, 2], [2, 3]), ([2, 4], [2, 4]), ([5, 2], [5]), ([6], [6]), ([7, 6], [6, 7]), ([8, 6, 6], [6, 8]), ([6], [6]), ([6], [6]), ([6], [6]), ([6], [6]), ([12, 13, 6], [6, 12, 13]), ([10, 11, 14, 6], [6, 10, 11, 14]), ([9, 15, 6], [6, 9, 15]), ([6, 16], [6, 16])])
def dioramaref05_At.B15 : List Nat := [0, 1, 3, 7, 15, 31, 63, 127, 255, 511, 127, 127, 127, 127, 12415, 31871, 65535, 131071]
theorem dioramaref05_At.tab15 : rtab .any (opsOf Tryd.f119 15) = dioramaref05_At.T15 := by kernel_rfl
theorem dioramaref05_At.bits15 : waitsOk dioramaref05_At.T15.2 dioramaref05_At.B15 = true := by kernel_rfl
set_option maxHeartbeats 8000000 in
set_option maxRecDepth 100000 in
theorem dioramaref05_At.calls (k : Nat) (a0 : ByteArray) (a1 : Int) (r1 : Int) (r2 : Int) (w : World) (h : dioramaref05_At.f k a0 a1 = some (r1, r2)) :
  Calls Tryd.prog 119 #[.string a0, .int .i64 a1] w fun e w' => e = .returned (.tuple #[.int .i32 r1, .int .i64 r2]) ∧ Below w.heap.size w w' := by
 have HB := Aside0.mk (Below.refl w.heap.size w)
 have H : (dioramaref05_At.l0 k a0 a1 1) = some (r1, r2) := h
 clear h
 have H' := Aside0.mk H
 clear H
 go_enter Tryd.func119, Tryd.ntmps119
 go_wp2
 go_loopg [6] k (fun kq v6 w' => ∃ (x6_1 : Int), v6 = .int .i64 x6_1 ∧ Aside0 (dioramaref05_At.l0 kq a0 a1 x6_1 = some (r1, r2)) ∧ Aside0 (kq ≤ k) ∧ Aside0 (Below w.heap.size w w'))
 case atStart => exact ⟨(1), (by first | rfl | (simp; done) | (simp [*]; done)), H', ⟨Nat.le_refl _⟩, ⟨by repeat (first | (with_reducible first | exact HB.out | apply below_alloc | apply pw_below_drewN | apply below_drew1) | exact HB.out)⟩⟩
 case round =>
  clear H'
  try clear c1
  try clear p2
  obtain ⟨x6_1, rfl, HA, HK1, HB⟩ := hrel
  cases gk with
  | zero => exact absurd HA.out (by simp [dioramaref05_At.l0])
  | succ k1 =>
   have H := HA.out
   clear HA
   simp only [dioramaref05_At.l0] at H
   have HC3 := Aside0.mk H
   clear H
   go_upto_region 2 with (fail)
   go_cut [18] (fun v18 wc => ∃ (kq : Nat) (x18_2 : Bool), v18 = .bool x18_2 ∧ Aside0 (dioramaref05_At.j1 kq a0 a1 x6_1 x18_2 = some (r1, r2)) ∧ Aside0 (kq ≤ k1) ∧ Aside0 (Below w.heap.size w wc))
   case first =>
    have H := HC3.out
    clear HC3
    by_cases c4 : x6_1 ≤ 4
    ·rw [if_pos c4] at H
     have c4b0 : decide (x6_1 ≤ 4) = true := decide_eq_true c4
     clear c4
     (first | rw [c4b0] | (simp only [i64_w, i32_w]; rw [c4b0]) | skip)
     have H' := Aside0.mk H
     clear H
     go_wp2
     go_meet
     case rel => exact ⟨_, (decide ((wrap64 (a1 + x6_1)) ≤ (a0.size : Int))), (by first | rfl | (simp; done) | (simp [*]; done)), H', ⟨by have := HK1.out; first | omega | exact Nat.le_refl _⟩, ⟨by repeat (first | (with_reducible first | exact HB.out | apply below_alloc | apply pw_below_drewN | apply below_drew1) | exact HB.out)⟩⟩
    ·rw [if_neg c4] at H
     have c4b0 : decide (x6_1 ≤ 4) = false := decide_eq_false c4
     clear c4
     (first | rw [c4b0] | (simp only [i64_w, i32_w]; rw [c4b0]) | skip)
     have H' := Aside0.mk H
     clear H
     go_wp2
     go_meet
     case rel => exact ⟨_, (false), (by first | rfl | (simp; done) | (simp [*]; done)), H', ⟨by have := HK1.out; first | omega | exact Nat.le_refl _⟩, ⟨by repeat (first | (with_reducible first | exact HB.out | apply below_alloc | apply pw_below_drewN | apply below_drew1) | exact HB.out)⟩⟩
   case rest =>
    clear HC3
    try clear c1
    try clear p2
    try clear c4
    try clear c4b0
    try clear p2
    obtain ⟨kq, x18_2, rfl, HA, HJ2, HB⟩ := hcut
    cases kq with
    | zero => exact absurd HA.out (by simp [dioramaref05_At.j1])
    | succ kj2 =>
     have H := HA.out
     clear HA
     simp only [dioramaref05_At.j1] at H
     by_cases c5 : x18_2 = true
     ·subst c5
      have H1 : (if 0 ≤ a1 then (if a1 < (a0.size : Int) then (if x6_1 = 2 then (dioramaref05_At.j2 kj2 a0 a1 x6_1 (wrap64 ((wrap64 (bt a0 a1)) - 192))) else (dioramaref05_At.j2 kj2 a0 a1 x6_1 (wrap64 (bt a0 a1)))) else (none)) else (none)) = some (r1, r2) := by rw [if_pos rfl] at H; exact H
      clear H
      have H := H1
      clear H1
      by_cases c6 : 0 ≤ a1
      ·rw [if_pos c6] at H
       have c6b0 : decide (0 ≤ a1) = true := decide_eq_true c6
       clear c6
       by_cases c7 : a1 < (a0.size : Int)
       ·rw [if_pos c7] at H
        have c7b0 : decide (a1 < (a0.size : Int)) = true := decide_eq_true c7
        clear c7
        have HC9 := Aside0.mk H
        clear H
        have p8 : 0 ≤ (a1 : Int) := of_decide_eq_true (by first | (with_reducible assumption) | assumption)
        have q8 : a1 < (a0.size : Int) := of_decide_eq_true (by first | (with_reducible assumption) | assumption)
        have hx8 := bt_at a0 a1
        replace p8 := eq_true p8
        replace q8 := eq_true q8
        go_upto_if 26 with (fail)
        go_cut [7] (fun v7 wc => ∃ (kq : Nat) (x7_8 : Int), v7 = .int .i64 x7_8 ∧ Aside0 (dioramaref05_At.j2 kq a0 a1 x6_1 x7_8 = some (r1, r2)) ∧ Aside0 (kq ≤ kj2) ∧ Aside0 (Below w.heap.size w wc))
        case first =>
         have H := HC9.out
         clear HC9
         by_cases c10 : x6_1 = 2
         ·rw [if_pos c10] at H
          have c10b0 : (x6_1 == 2) = true := beq_iff_eq.mpr c10
          have c10b1 : (x6_1 != 2) = false := bne_eq_false_iff_eq.mpr c10
          clear c10
          (first | rw [c10b0] | (simp only [i64_w, i32_w]; rw [c10b0]) | skip)
          have H' := Aside0.mk H
          clear H
          go_wp2
          go_meet
          case rel => exact ⟨_, (wrap64 ((wrap64 (bt a0 a1)) - 192)), (by first | rfl | (simp; done) | (simp [*]; done)), H', ⟨by have := HK1.out; have := HJ2.out; first | omega | exact Nat.le_refl _⟩, ⟨by repeat (first | (with_reducible first | exact HB.out | apply below_alloc | apply pw_below_drewN | apply below_drew1) | exact HB.out)⟩⟩
         ·rw [if_neg c10] at H
          have c10b0 : (x6_1 == 2) = false := beq_eq_false_iff_ne.mpr c10
          have c10b1 : (x6_1 != 2) = true := bne_iff_ne.mpr c10
          (first | rw [c10b0] | (simp only [i64_w, i32_w]; rw [c10b0]) | skip)
          have H' := Aside0.mk H
          clear H
          go_wp2
          go_meet
          case rel => exact ⟨_, (wrap64 (bt a0 a1)), (by first | rfl | (simp; done) | (simp [*]; done)), H', ⟨by have := HK1.out; have := HJ2.out; first | omega | exact Nat.le_refl _⟩, ⟨by repeat (first | (with_reducible first | exact HB.out | apply below_alloc | apply pw_below_drewN | apply below_drew1) | exact HB.out)⟩⟩
        case rest =>
         clear HC9
         try clear c1
         try clear p2
         try clear c4
         try clear c4b0
         try clear c5
         try clear c6
         try clear c6b0
         try clear p6
         try clear c7
         try clear c7b0
         try clear p8
         try clear q8
         try clear hx8
         try clear c10
         try clear c10b0
         try clear c10b1
         try clear p2
         try clear p8
         try clear q8
         obtain ⟨kq, x7_8, rfl, HA, HJ8, HB⟩ := hcut
         cases kq with
         | zero => exact absurd HA.out (by simp [dioramaref05_At.j2])
         | succ kj8 =>
          have H := HA.out
          clear HA
          simp only [dioramaref05_At.j2] at H
          have HC11 := Aside0.mk H
          clear H
          go_upto_if 30 with (fail)
          go_cut [7] (fun v7 wc => ∃ (kq : Nat) (x7_10 : Int), v7 = .int .i64 x7_10 ∧ Aside0 (dioramaref05_At.j3 kq a0 a1 x6_1 x7_10 = some (r1, r2)) ∧ Aside0 (kq ≤ kj8) ∧ Aside0 (Below w.heap.size w wc))
          case first =>
           have H := HC11.out
           clear HC11
           by_cases c12 : x6_1 = 3
           ·rw [if_pos c12] at H
            have c12b0 : (x6_1 == 3) = true := beq_iff_eq.mpr c12
            have c12b1 : (x6_1 != 3) = false := bne_eq_false_iff_eq.mpr c12
            clear c12
            (first | rw [c12b0] | (simp only [i64_w, i32_w]; rw [c12b0]) | skip)
            have H' := Aside0.mk H
            clear H
            go_wp2
            go_meet
            case rel => exact ⟨_, (wrap64 (x7_8 - 224)), (by first | rfl | (simp; done) | (simp [*]; done)), H', ⟨by have := HK1.out; have := HJ2.out; have := HJ8.out; first | omega | exact Nat.le_refl _⟩, ⟨by repeat (first | (with_reducible first | exact HB.out | apply below_alloc | apply pw_below_drewN | apply below_drew1) | exact HB.out)⟩⟩
           ·rw [if_neg c12] at H
            have c12b0 : (x6_1 == 3) = false := beq_eq_false_iff_ne.mpr c12
            have c12b1 : (x6_1 != 3) = true := bne_iff_ne.mpr c12
            (first | rw [c12b0] | (simp only [i64_w, i32_w]; rw [c12b0]) | skip)
            have H' := Aside0.mk H
            clear H
            go_wp2
            go_meet
            case rel => exact ⟨_, (x7_8), (by first | rfl | (simp; done) | (simp [*]; done)), H', ⟨by have := HK1.out; have := HJ2.out; have := HJ8.out; first | omega | exact Nat.le_refl _⟩, ⟨by repeat (first | (with_reducible first | exact HB.out | apply below_alloc | apply pw_below_drewN | apply below_drew1) | exact HB.out)⟩⟩
          case rest =>
           clear HC11
           try clear c1
           try clear p2
           try clear c4
           try clear c4b0
           try clear c5
           try clear c6
           try clear c6b0
           try clear p6
           try clear c7
           try clear c7b0
           try clear p8
           try clear q8
           try clear hx8
           try clear c10
           try clear c10b0
           try clear c10b1
           try clear c11
           try clear c12
           try clear c12b0
           try clear c12b1
           try clear p2
           try clear p6
           try clear p8
           try clear q8
           obtain ⟨kq, x7_10, rfl, HA, HJ10, HB⟩ := hcut
           cases kq with
           | zero => exact absurd HA.out (by simp [dioramaref05_At.j3])
           | succ kj10 =>
            have H := HA.out
            clear HA
            simp only [dioramaref05_At.j3] at H
            have HC13 := Aside0.mk H
            clear H
            go_upto_if 34 with (fail)
            go_cut [7] (fun v7 wc => ∃ (kq : Nat) (x7_12 : Int), v7 = .int .i64 x7_12 ∧ Aside0 (dioramaref05_At.j4 kq a0 a1 x6_1 x7_12 = some (r1, r2)) ∧ Aside0 (kq ≤ kj10) ∧ Aside0 (Below w.heap.size w wc))
            case first =>
             have H := HC13.out
             clear HC13
             by_cases c14 : x6_1 = 4
             ·rw [if_pos c14] at H
              have c14b0 : (x6_1 == 4) = true := beq_iff_eq.mpr c14
              have c14b1 : (x6_1 != 4) = false := bne_eq_false_iff_eq.mpr c14
              clear c14
              (first | rw [c14b0] | (simp only [i64_w, i32_w]; rw [c14b0]) | skip)
              have H' := Aside0.mk H
              clear H
              go_wp2
              go_meet
              case rel => exact ⟨_, (wrap64 (x7_10 - 240)), (by first | rfl | (simp; done) | (simp [*]; done)), H', ⟨by have := HK1.out; have := HJ2.out; have := HJ8.out; have := HJ10.out; first | omega | exact Nat.le_refl _⟩, ⟨by repeat (first | (with_reducible first | exact HB.out | apply below_alloc | apply pw_below_drewN | apply below_drew1) | exact HB.out)⟩⟩
             ·rw [if_neg c14] at H
              have c14b0 : (x6_1 == 4) = false := beq_eq_false_iff_ne.mpr c14
              have c14b1 : (x6_1 != 4) = true := bne_iff_ne.mpr c14
              (first | rw [c14b0] | (simp only [i64_w, i32_w]; rw [c14b0]) | skip)
              have H' := Aside0.mk H
              clear H
              go_wp2
              go_meet
              case rel => exact ⟨_, (x7_10), (by first | rfl | (simp; done) | (simp [*]; done)), H', ⟨by have := HK1.out; have := HJ2.out; have := HJ8.out; have := HJ10.out; first | omega | exact Nat.le_refl _⟩, ⟨by repeat (first | (with_reducible first | exact HB.out | apply below_alloc | apply pw_below_drewN | apply below_drew1) | exact HB.out)⟩⟩
            case rest =>
             clear HC13
             try clear c1
             try clear p2
             try clear c4
             try clear c4b0
             try clear c5
             try clear c6
             try clear c6b0
             try clear p6
             try clear c7
             try clear c7b0
             try clear p8
             try clear q8
             try clear hx8
             try clear c10
             try clear c10b0
             try clear c10b1
             try clear c11
             try clear c12
             try clear c12b0
             try clear c12b1
             try clear c14
             try clear c14b0
             try clear c14b1
             try clear p2
             try clear p6
             try clear p8
             try clear q8
             obtain ⟨kq, x7_12, rfl, HA, HJ12, HB⟩ := hcut
             cases kq with
             | zero => exact absurd HA.out (by simp [dioramaref05_At.j4])
             | succ kj12 =>
              have H := HA.out
              clear HA
              simp only [dioramaref05_At.j4] at H
              have H' := Aside0.mk H
              clear H
              go_wp2
              go_loopg [7, 8] kj12 (fun kq v7 v8 w' => ∃ (x7_6 : Int) (x8_6 : Int), v7 = .int .i64 x7_6 ∧ v8 = .int .i64 x8_6 ∧ Aside0 (dioramaref05_At.l1 kq a0 a1 x6_1 x7_6 x8_6 = some (r1, r2)) ∧ Aside0 (kq ≤ kj12) ∧ Aside0 (Below w.heap.size w w'))
              case atStart => exact ⟨(x7_12), (1), (by first | rfl | (simp; done) | (simp [*]; done)), (by first | rfl | (simp; done) | (simp [*]; done)), H', ⟨Nat.le_refl _⟩, ⟨by repeat (first | (with_reducible first | exact HB.out | apply below_alloc | apply pw_below_drewN | apply below_drew1) | exact HB.out)⟩⟩
              case round =>
               clear H'
               try clear c1
               try clear p2
               try clear c4
               try clear c4b0
               try clear c5
               try clear c6
               try clear c6b0
               try clear p6
               try clear c7
               try clear c7b0
               try clear p8
               try clear q8
               try clear hx8
               try clear c10
               try clear c10b0
               try clear c10b1
               try clear c11
               try clear c12
               try clear c12b0
               try clear c12b1
               try clear c14
               try clear c14b0
               try clear c14b1
               try clear p2
               try clear p6
               try clear p8
               try clear q8
               obtain ⟨x7_6, x8_6, rfl, rfl, HA, HK6, HB⟩ := hrel
               cases gk with
               | zero => exact absurd HA.out (by simp [dioramaref05_At.l1])
               | succ k6 =>
                have H := HA.out
                clear HA
                simp only [dioramaref05_At.l1] at H
                by_cases c15 : x8_6 < x6_1
                ·rw [if_pos c15] at H
                 have c15b0 : decide (x8_6 < x6_1) = true := decide_eq_true c15
                 clear c15
                 obtain ⟨ji16, hji16⟩ : ∃ j_ : Int, (wrap64 (a1 + x8_6)) = j_ := ⟨_, rfl⟩
                 replace H : (if 0 ≤ (ji16) then (if (ji16) < (a0.size : Int) then (dioramaref05_At.l1 k6 a0 a1 x6_1 (wrap64 ((wrap64 ((wrap64 (64 * x7_6)) + (wrap64 (bt a0 (ji16))))) - 128)) (wrap64 (x8_6 + 1))) else (none)) else (none)) = some (r1, r2) := by first | (rw [hji16] at H; exact H) | (simp only [hji16] at H ⊢; exact H)
                 have hji16w : (IntKind.i64.wrap (a1 + x8_6)) = ji16 := (i64_w _).trans hji16
                 by_cases c17 : 0 ≤ (ji16)
                 ·rw [if_pos c17] at H
                  have c17b0 : decide (0 ≤ (ji16)) = true := decide_eq_true c17
                  clear c17
                  by_cases c18 : (ji16) < (a0.size : Int)
                  ·rw [if_pos c18] at H
                   have c18b0 : decide ((ji16) < (a0.size : Int)) = true := decide_eq_true c18
                   clear c18
                   have H' := Aside0.mk H
                   clear H
                   have p19 : 0 ≤ ((ji16) : Int) := of_decide_eq_true (by first | (with_reducible assumption) | assumption)
                   have q19 : (ji16) < (a0.size : Int) := of_decide_eq_true (by first | (with_reducible assumption) | assumption)
                   have hx19 := bt_at a0 (ji16)
                   replace p19 := eq_true p19
                   replace q19 := eq_true q19
                   go_wp2
                   go_roundg k6
                   case measure => have := HK1.out; have := HJ2.out; have := HJ8.out; have := HJ10.out; have := HJ12.out; have := HK6.out; omega
                   case rel => exact ⟨(wrap64 ((wrap64 ((wrap64 (64 * x7_6)) + (wrap64 (bt a0 (ji16))))) - 128)), (wrap64 (x8_6 + 1)), (by first | rfl | (simp; done) | (simp only [← hji16] <;> (first | rfl | simp)) | (simp [*]; done)), (by first | rfl | (simp; done) | (simp [*]; done)), H', ⟨by have := HK1.out; have := HJ2.out; have := HJ8.out; have := HJ10.out; have := HJ12.out; have := HK6.out; omega⟩, ⟨by repeat (first | (with_reducible first | exact HB.out | apply below_alloc | apply pw_below_drewN | apply below_drew1) | exact HB.out)⟩⟩
                  ·rw [if_neg c18] at H
                   exact absurd H (by simp)
                 ·rw [if_neg c17] at H
                  exact absurd H (by simp)
                ·rw [if_neg c15] at H
                 have c15b0 : decide (x8_6 < x6_1) = false := decide_eq_false c15
                 clear c15
                 by_cases c20 : x7_6 ≥ 0
                 ·rw [if_pos c20] at H
                  have c20b0 : decide (0 ≤ x7_6) = true := decide_eq_true c20
                  clear c20
                  by_cases c21 : x7_6 ≤ 1114111
                  ·rw [if_pos c21] at H
                   have c21b0 : decide (x7_6 ≤ 1114111) = true := decide_eq_true c21
                   clear c21
                   replace H := Option.bind_eq_some_iff.mp H
                   obtain ⟨t288, A220, H⟩ := H
                   replace H : (if 0 ≤ a1 then (if a1 ≤ (wrap64 (a1 + x6_1)) then (if (wrap64 (a1 + x6_1)) ≤ (a0.size : Int) then (if t288.toList = (a0.extract (a1 : Int).toNat ((wrap64 (a1 + x6_1)) : Int).toNat).toList then (some (wrap32 (x7_6), x6_1)) else (dioramaref05_At.l0 k6 a0 a1 (wrap64 (x6_1 + 1)))) else (none)) else (none)) else (none)) = some (r1, r2) := H
                   have A22 := Aside0.mk A220
                   clear A220
                   by_cases c23 : 0 ≤ a1
                   ·rw [if_pos c23] at H
                    have c23b0 := eq_true c23
                    have c23b1 : decide (0 ≤ a1) = true := decide_eq_true c23
                    clear c23
                    by_cases c24 : a1 ≤ (wrap64 (a1 + x6_1))
                    ·rw [if_pos c24] at H
                     have c24b0 := eq_true c24
                     have c24b1 : decide (a1 ≤ (wrap64 (a1 + x6_1))) = true := decide_eq_true c24
                     by_cases c25 : (wrap64 (a1 + x6_1)) ≤ (a0.size : Int)
                     ·rw [if_pos c25] at H
                      have c25b0 := eq_true c25
                      have c25b1 : decide ((wrap64 (a1 + x6_1)) ≤ (a0.size : Int)) = true := decide_eq_true c25
                      by_cases c26 : t288.toList = (a0.extract (a1 : Int).toNat ((wrap64 (a1 + x6_1)) : Int).toNat).toList
                      ·rw [if_pos c26] at H
                       have c26b0 : (t288.toList == (a0.extract (a1 : Int).toNat ((wrap64 (a1 + x6_1)) : Int).toNat).toList) = true := beq_iff_eq.mpr c26
                       have c26b1 : (t288.toList != (a0.extract (a1 : Int).toNat ((wrap64 (a1 + x6_1)) : Int).toNat).toList) = false := bne_eq_false_iff_eq.mpr c26
                       clear c26
                       simp only [Option.some.injEq, Prod.mk.injEq] at H
                       obtain ⟨rfl, rfl⟩ := H
                       try go_wp2
                       have n0_ := Aside0.mk (below_drew1 HB.out)
                       clear HB
                       have HB := n0_
                       clear n0_
                       refine start_ (n := 18) (S := fun w' => True) (ds := []) #[false, false, false, false, false, false, false, false, false, false, false, false, false, false, false, false, false, false] (by kernel_rfl) rfl rfl trivial (fun hHeld => ?_); refine with_tabW dioramaref05_At.tab15 dioramaref05_At.bits15 (fun HT_ HW_ => ?_)
                       generalize wr.drew = w27 at HB hHeld ⊢
                       refine pure_ (i := 0) (N := some 52) (v := ?_) (a' := ?_) #[true, false, false, false, false, false, false, false, false, false, false, false, false, false, false, false, false, false] rfl rfl (any_of HT_.out (by kernel_rfl)) (fun _ _ _ h => h) (Or.inl ⟨by rfl, ?_⟩) ?_ ?_
                       rotate_left
                       ·intro w'
                        go_simp
                        with_reducible rfl
                       rotate_left
                       ·simp only [Act.put, List.setIfInBounds_toArray, List.set_cons_zero, List.set_cons_succ, i64_w, i32_w]
                        rfl
                       refine pure_ (i := 1) (N := some 53) (v := ?_) (a' := ?_) #[true, true, false, false, false, false, false, false, false, false, false, false, false, false, false, false, false, false] rfl rfl (any_of HT_.out (by kernel_rfl)) (fun _ _ _ h => h) (Or.inl ⟨by rfl, ?_⟩) ?_ ?_
                       rotate_left
                       ·intro w'
                        go_simp
                        with_reducible rfl
                       rotate_left
                       ·simp only [Act.put, List.setIfInBounds_toArray, List.set_cons_zero, List.set_cons_succ, i64_w, i32_w]
                        rfl
                       refine pure_ (i := 2) (N := some 54) (v := ?_) (a' := ?_) #[true, true, true, false, false, false, false, false, false, false, false, false, false, false, false, false, false, false] rfl rfl (any_of HT_.out (by kernel_rfl)) (fun _ _ _ h => h) (Or.inl ⟨by rfl, ?_⟩) ?_ ?_
                       rotate_left
                       ·intro w'
                        go_simp
                        with_reducible rfl
                       rotate_left
                       ·simp only [Act.put, List.setIfInBounds_toArray, List.set_cons_zero, List.set_cons_succ, i64_w, i32_w]
                        rfl
                       refine pure_ (i := 3) (N := some 55) (v := ?_) (a' := ?_) #[true, true, true, true, false, false, false, false, false, false, false, false, false, false, false, false, false, false] rfl rfl (any_of HT_.out (by kernel_rfl)) (fun _ _ _ h => h) (Or.inl ⟨by rfl, ?_⟩) ?_ ?_
                       rotate_left
                       ·intro w'
                        go_simp
                        with_reducible rfl
                       rotate_left
                       ·simp only [Act.put, List.setIfInBounds_toArray, List.set_cons_zero, List.set_cons_succ, i64_w, i32_w]
                        rfl
                       refine pure_ (i := 4) (N := some 56) (v := ?_) (a' := ?_) #[true, true, true, true, true, false, false, false, false, false, false, false, false, false, false, false, false, false] rfl rfl (any_of HT_.out (by kernel_rfl)) (fun _ _ _ h => h) (Or.inl ⟨by rfl, ?_⟩) ?_ ?_
                       rotate_left
                       ·intro w'
                        go_simp
                        with_reducible rfl
                       rotate_left
                       ·simp only [Act.put, List.setIfInBounds_toArray, List.set_cons_zero, List.set_cons_succ, i64_w, i32_w]
                        rfl
                       refine pure_ (i := 5) (N := some 57) (v := ?_) (a' := ?_) #[true, true, true, true, true, true, false, false, false, false, false, false, false, false, false, false, false, false] rfl rfl (any_of HT_.out (by kernel_rfl)) (fun _ _ _ h => h) (Or.inl ⟨by rfl, ?_⟩) ?_ ?_
                       rotate_left
                       ·intro w'
                        go_simp
                        with_reducible rfl
                       rotate_left
                       ·simp only [Act.put, List.setIfInBounds_toArray, List.set_cons_zero, List.set_cons_succ, i64_w, i32_w]
                        rfl
                       refine pure_ (i := 6) (N := some 58) (v := ?_) (a' := ?_) #[true, true, true, true, true, true, true, false, false, false, false, false, false, false, false, false, false, false] rfl rfl (any_of HT_.out (by kernel_rfl)) (fun _ _ _ h => h) (Or.inl ⟨by rfl, ?_⟩) ?_ ?_
                       rotate_left
                       ·intro w'
                        go_simp
                        with_reducible rfl
                       rotate_left
                       ·simp only [Act.put, List.setIfInBounds_toArray, List.set_cons_zero, List.set_cons_succ, i64_w, i32_w]
                        rfl
                       refine pure_ (i := 7) (N := some 59) (v := ?_) (a' := ?_) #[true, true, true, true, true, true, true, true, false, false, false, false, false, false, false, false, false, false] rfl rfl (any_of HT_.out (by kernel_rfl)) (fun _ _ _ h => h) (Or.inl ⟨by rfl, ?_⟩) ?_ ?_
                       rotate_left
                       ·intro w'
                        go_simp
                        with_reducible rfl
                       rotate_left
                       ·simp only [Act.put, List.setIfInBounds_toArray, List.set_cons_zero, List.set_cons_succ, i64_w, i32_w]
                        rfl
                       refine pure_ (i := 8) (N := some 60) (v := ?_) (a' := ?_) #[true, true, true, true, true, true, true, true, true, false, false, false, false, false, false, false, false, false] rfl rfl (any_of HT_.out (by kernel_rfl)) (fun _ _ _ h => h) (Or.inl ⟨by rfl, ?_⟩) ?_ ?_
                       rotate_left
                       ·intro w'
                        go_simp
                        with_reducible rfl
                       rotate_left
                       ·simp only [Act.put, List.setIfInBounds_toArray, List.set_cons_zero, List.set_cons_succ, i64_w, i32_w]
                        rfl
                       refine pure_ (i := 10) (N := some 62) (v := ?_) (a' := ?_) #[true, true, true, true, true, true, true, true, true, false, true, false, false, false, false, false, false, false] rfl rfl (any_of HT_.out (by kernel_rfl)) (fun _ _ _ h => h) (Or.inl ⟨by rfl, ?_⟩) ?_ ?_
                       rotate_left
                       ·intro w'
                        go_simp
                        with_reducible rfl
                       rotate_left
                       ·simp only [Act.put, List.setIfInBounds_toArray, List.set_cons_zero, List.set_cons_succ, i64_w, i32_w]
                        rfl
                       refine pure_ (i := 11) (N := some 63) (v := ?_) (a' := ?_) #[true, true, true, true, true, true, true, true, true, false, true, true, false, false, false, false, false, false] rfl rfl (any_of HT_.out (by kernel_rfl)) (fun _ _ _ h => h) (Or.inl ⟨by rfl, ?_⟩) ?_ ?_
                       rotate_left
                       ·intro w'
                        go_simp
                        with_reducible rfl
                       rotate_left
                       ·simp only [Act.put, List.setIfInBounds_toArray, List.set_cons_zero, List.set_cons_succ, i64_w, i32_w]
                        rfl
                       refine pure_ (i := 12) (N := some 64) (v := ?_) (a' := ?_) #[true, true, true, true, true, true, true, true, true, false, true, true, true, false, false, false, false, false] rfl rfl (any_of HT_.out (by kernel_rfl)) (fun _ _ _ h => h) (Or.inl ⟨by rfl, ?_⟩) ?_ ?_
                       rotate_left
                       ·intro w'
                        go_simp
                        with_reducible rfl
                       rotate_left
                       ·simp only [Act.put, List.setIfInBounds_toArray, List.set_cons_zero, List.set_cons_succ, i64_w, i32_w]
                        rfl
                       refine pure_ (i := 13) (N := some 65) (v := ?_) (a' := ?_) #[true, true, true, true, true, true, true, true, true, false, true, true, true, true, false, false, false, false] rfl rfl (any_of HT_.out (by kernel_rfl)) (fun _ _ _ h => h) (Or.inl ⟨by rfl, ?_⟩) ?_ ?_
                       rotate_left
                       ·intro w'
                        go_simp
                        with_reducible rfl
                       rotate_left
                       ·simp only [Act.put, List.setIfInBounds_toArray, List.set_cons_zero, List.set_cons_succ, i64_w, i32_w]
                        rfl
                       refine pure_ (i := 14) (N := some 66) (v := ?_) (a' := ?_) #[true, true, true, true, true, true, true, true, true, false, true, true, true, true, true, false, false, false] rfl rfl (any_of HT_.out (by kernel_rfl)) (fun _ _ _ h => h) (Or.inl ⟨by rfl, ?_⟩) ?_ ?_
                       rotate_left
                       ·intro w'
                        go_simp
                        with_reducible rfl
                       rotate_left
                       ·simp only [Act.put, List.setIfInBounds_toArray, List.set_cons_zero, List.set_cons_succ, i64_w, i32_w]
                        rfl
                       refine pure_ (i := 15) (N := some 67) (v := ?_) (a' := ?_) #[true, true, true, true, true, true, true, true, true, false, true, true, true, true, true, true, false, false] rfl rfl (any_of HT_.out (by kernel_rfl)) (fun _ _ _ h => h) (Or.inl ⟨by rfl, ?_⟩) ?_ ?_
                       rotate_left
                       ·intro w'
                        go_simp
                        with_reducible rfl
                       rotate_left
                       ·simp only [Act.put, List.setIfInBounds_toArray, List.set_cons_zero, List.set_cons_succ, i64_w, i32_w]
                        rfl
                       refine one_ (i := 9) (N := some 61) #[true, true, true, true, true, true, true, true, true, true, true, true, true, true, true, true, false, false] rfl rfl (one_of HT_.out (by kernel_rfl)) (by decide) (fun K hK => ?_)
                       refine goes_ Tryd.func122 (by kernel_rfl) rfl #[.int .i32 (wrap32 (x7_6))] (by rfl) rfl rfl (by (try simp only [List.map_toArray, List.map_cons, List.map_nil]); first | done | rfl | (simp only [List.length_drop, List.length_take]; rfl)) ?_
                       with_reducible refine (dioramaref05_Char.calls k6 (wrap32 (x7_6)) t288 _ A22.out).mono ?_
                       rintro e w28 ⟨rfl, hb⟩
                       refine ⟨_, rfl, ?_⟩
                       have n0_ := Aside0.mk (below_step (by repeat (first | (with_reducible first | exact HB.out | apply below_alloc | apply pw_below_drewN | apply below_drew1) | exact HB.out)) hb)
                       clear HB
                       have HB := n0_
                       clear n0_
                       (try clear hb)
                       (try clear hb2)
                       (try clear hk)
                       (try clear hi)
                       refine hK.out _ _ trivial (fun hHeld => ?_)
                       clear hK K
                       refine norm_ (a' := ?_) ?_ ?_
                       rotate_left
                       ·show Act.put _ (some 61) _ = _
                        simp only [Act.put, List.setIfInBounds_toArray, List.set_cons_zero, List.set_cons_succ, i64_w, i32_w]
                        rfl
                       refine pure_ (i := 16) (N := some 68) (v := ?_) (a' := ?_) #[true, true, true, true, true, true, true, true, true, true, true, true, true, true, true, true, true, false] rfl rfl (any_of HT_.out (by kernel_rfl)) (fun _ _ _ h => h) (Or.inl ⟨by rfl, ?_⟩) ?_ ?_
                       rotate_left
                       ·intro w'
                        go_simp
                        with_reducible rfl
                       rotate_left
                       ·simp only [Act.put, List.setIfInBounds_toArray, List.set_cons_zero, List.set_cons_succ, i64_w, i32_w]
                        rfl
                       refine pure_ (i := 17) (N := some 69) (v := ?_) (a' := ?_) #[true, true, true, true, true, true, true, true, true, true, true, true, true, true, true, true, true, true] rfl rfl (any_of HT_.out (by kernel_rfl)) (fun _ _ _ h => h) (Or.inl ⟨by rfl, ?_⟩) ?_ ?_
                       rotate_left
                       ·intro w'
                        go_simp
                        with_reducible rfl
                       rotate_left
                       ·simp only [Act.put, List.setIfInBounds_toArray, List.set_cons_zero, List.set_cons_succ, i64_w, i32_w]
                        rfl
                       refine done_ (done_of HT_.out (by kernel_rfl)) ?_
                       try go_wp2
                       go_ret2
                       exact ⟨by first | rfl | (simp [errW_none, errW_some] <;> rfl) | (simp [*, errW_none, errW_some] <;> rfl), by repeat (first | (with_reducible first | exact HB.out | apply below_alloc | apply pw_below_drewN | apply below_drew1) | exact HB.out)⟩
                      ·rw [if_neg c26] at H
                       have c26b0 : (t288.toList == (a0.extract (a1 : Int).toNat ((wrap64 (a1 + x6_1)) : Int).toNat).toList) = false := beq_eq_false_iff_ne.mpr c26
                       have c26b1 : (t288.toList != (a0.extract (a1 : Int).toNat ((wrap64 (a1 + x6_1)) : Int).toNat).toList) = true := bne_iff_ne.mpr c26
                       have H' := Aside0.mk H
                       clear H
                       try go_wp2
                       have n0_ := Aside0.mk (below_drew1 HB.out)
                       clear HB
                       have HB := n0_
                       clear n0_
                       refine start_ (n := 18) (S := fun w' => True) (ds := []) #[false, false, false, false, false, false, false, false, false, false, false, false, false, false, false, false, false, false] (by kernel_rfl) rfl rfl trivial (fun hHeld => ?_); refine with_tabW dioramaref05_At.tab15 dioramaref05_At.bits15 (fun HT_ HW_ => ?_)
                       generalize wr.drew = w29 at HB hHeld ⊢
                       refine pure_ (i := 0) (N := some 52) (v := ?_) (a' := ?_) #[true, false, false, false, false, false, false, false, false, false, false, false, false, false, false, false, false, false] rfl rfl (any_of HT_.out (by kernel_rfl)) (fun _ _ _ h => h) (Or.inl ⟨by rfl, ?_⟩) ?_ ?_
                       rotate_left
                       ·intro w'
                        go_simp
                        with_reducible rfl
                       rotate_left
                       ·simp only [Act.put, List.setIfInBounds_toArray, List.set_cons_zero, List.set_cons_succ, i64_w, i32_w]
                        rfl
                       refine pure_ (i := 1) (N := some 53) (v := ?_) (a' := ?_) #[true, true, false, false, false, false, false, false, false, false, false, false, false, false, false, false, false, false] rfl rfl (any_of HT_.out (by kernel_rfl)) (fun _ _ _ h => h) (Or.inl ⟨by rfl, ?_⟩) ?_ ?_
                       rotate_left
                       ·intro w'
                        go_simp
                        with_reducible rfl
                       rotate_left
                       ·simp only [Act.put, List.setIfInBounds_toArray, List.set_cons_zero, List.set_cons_succ, i64_w, i32_w]
                        rfl
                       refine pure_ (i := 2) (N := some 54) (v := ?_) (a' := ?_) #[true, true, true, false, false, false, false, false, false, false, false, false, false, false, false, false, false, false] rfl rfl (any_of HT_.out (by kernel_rfl)) (fun _ _ _ h => h) (Or.inl ⟨by rfl, ?_⟩) ?_ ?_
                       rotate_left
                       ·intro w'
                        go_simp
                        with_reducible rfl
                       rotate_left
                       ·simp only [Act.put, List.setIfInBounds_toArray, List.set_cons_zero, List.set_cons_succ, i64_w, i32_w]
                        rfl
                       refine pure_ (i := 3) (N := some 55) (v := ?_) (a' := ?_) #[true, true, true, true, false, false, false, false, false, false, false, false, false, false, false, false, false, false] rfl rfl (any_of HT_.out (by kernel_rfl)) (fun _ _ _ h => h) (Or.inl ⟨by rfl, ?_⟩) ?_ ?_
                       rotate_left
                       ·intro w'
                        go_simp
                        with_reducible rfl
                       rotate_left
                       ·simp only [Act.put, List.setIfInBounds_toArray, List.set_cons_zero, List.set_cons_succ, i64_w, i32_w]
                        rfl
                       refine pure_ (i := 4) (N := some 56) (v := ?_) (a' := ?_) #[true, true, true, true, true, false, false, false, false, false, false, false, false, false, false, false, false, false] rfl rfl (any_of HT_.out (by kernel_rfl)) (fun _ _ _ h => h) (Or.inl ⟨by rfl, ?_⟩) ?_ ?_
                       rotate_left
                       ·intro w'
                        go_simp
                        with_reducible rfl
                       rotate_left
                       ·simp only [Act.put, List.setIfInBounds_toArray, List.set_cons_zero, List.set_cons_succ, i64_w, i32_w]
                        rfl
                       refine pure_ (i := 5) (N := some 57) (v := ?_) (a' := ?_) #[true, true, true, true, true, true, false, false, false, false, false, false, false, false, false, false, false, false] rfl rfl (any_of HT_.out (by kernel_rfl)) (fun _ _ _ h => h) (Or.inl ⟨by rfl, ?_⟩) ?_ ?_
                       rotate_left
                       ·intro w'
                        go_simp
                        with_reducible rfl
                       rotate_left
                       ·simp only [Act.put, List.setIfInBounds_toArray, List.set_cons_zero, List.set_cons_succ, i64_w, i32_w]
                        rfl
                       refine pure_ (i := 6) (N := some 58) (v := ?_) (a' := ?_) #[true, true, true, true, true, true, true, false, false, false, false, false, false, false, false, false, false, false] rfl rfl (any_of HT_.out (by kernel_rfl)) (fun _ _ _ h => h) (Or.inl ⟨by rfl, ?_⟩) ?_ ?_
                       rotate_left
                       ·intro w'
                        go_simp
                        with_reducible rfl
                       rotate_left
                       ·simp only [Act.put, List.setIfInBounds_toArray, List.set_cons_zero, List.set_cons_succ, i64_w, i32_w]
                        rfl
                       refine pure_ (i := 7) (N := some 59) (v := ?_) (a' := ?_) #[true, true, true, true, true, true, true, true, false, false, false, false, false, false, false, false, false, false] rfl rfl (any_of HT_.out (by kernel_rfl)) (fun _ _ _ h => h) (Or.inl ⟨by rfl, ?_⟩) ?_ ?_
                       rotate_left
                       ·intro w'
                        go_simp
                        with_reducible rfl
                       rotate_left
                       ·simp only [Act.put, List.setIfInBounds_toArray, List.set_cons_zero, List.set_cons_succ, i64_w, i32_w]
                        rfl
                       refine pure_ (i := 8) (N := some 60) (v := ?_) (a' := ?_) #[true, true, true, true, true, true, true, true, true, false, false, false, false, false, false, false, false, false] rfl rfl (any_of HT_.out (by kernel_rfl)) (fun _ _ _ h => h) (Or.inl ⟨by rfl, ?_⟩) ?_ ?_
                       rotate_left
                       ·intro w'
                        go_simp
                        with_reducible rfl
                       rotate_left
                       ·simp only [Act.put, List.setIfInBounds_toArray, List.set_cons_zero, List.set_cons_succ, i64_w, i32_w]
                        rfl
                       refine pure_ (i := 10) (N := some 62) (v := ?_) (a' := ?_) #[true, true, true, true, true, true, true, true, true, false, true, false, false, false, false, false, false, false] rfl rfl (any_of HT_.out (by kernel_rfl)) (fun _ _ _ h => h) (Or.inl ⟨by rfl, ?_⟩) ?_ ?_
                       rotate_left
                       ·intro w'
                        go_simp
                        with_reducible rfl
                       rotate_left
                       ·simp only [Act.put, List.setIfInBounds_toArray, List.set_cons_zero, List.set_cons_succ, i64_w, i32_w]
                        rfl
                       refine pure_ (i := 11) (N := some 63) (v := ?_) (a' := ?_) #[true, true, true, true, true, true, true, true, true, false, true, true, false, false, false, false, false, false] rfl rfl (any_of HT_.out (by kernel_rfl)) (fun _ _ _ h => h) (Or.inl ⟨by rfl, ?_⟩) ?_ ?_
                       rotate_left
                       ·intro w'
                        go_simp
                        with_reducible rfl
                       rotate_left
                       ·simp only [Act.put, List.setIfInBounds_toArray, List.set_cons_zero, List.set_cons_succ, i64_w, i32_w]
                        rfl
                       refine pure_ (i := 12) (N := some 64) (v := ?_) (a' := ?_) #[true, true, true, true, true, true, true, true, true, false, true, true, true, false, false, false, false, false] rfl rfl (any_of HT_.out (by kernel_rfl)) (fun _ _ _ h => h) (Or.inl ⟨by rfl, ?_⟩) ?_ ?_
                       rotate_left
                       ·intro w'
                        go_simp
                        with_reducible rfl
                       rotate_left
                       ·simp only [Act.put, List.setIfInBounds_toArray, List.set_cons_zero, List.set_cons_succ, i64_w, i32_w]
                        rfl
                       refine pure_ (i := 13) (N := some 65) (v := ?_) (a' := ?_) #[true, true, true, true, true, true, true, true, true, false, true, true, true, true, false, false, false, false] rfl rfl (any_of HT_.out (by kernel_rfl)) (fun _ _ _ h => h) (Or.inl ⟨by rfl, ?_⟩) ?_ ?_
                       rotate_left
                       ·intro w'
                        go_simp
                        with_reducible rfl
                       rotate_left
                       ·simp only [Act.put, List.setIfInBounds_toArray, List.set_cons_zero, List.set_cons_succ, i64_w, i32_w]
                        rfl
                       refine pure_ (i := 14) (N := some 66) (v := ?_) (a' := ?_) #[true, true, true, true, true, true, true, true, true, false, true, true, true, true, true, false, false, false] rfl rfl (any_of HT_.out (by kernel_rfl)) (fun _ _ _ h => h) (Or.inl ⟨by rfl, ?_⟩) ?_ ?_
                       rotate_left
                       ·intro w'
                        go_simp
                        with_reducible rfl
                       rotate_left
                       ·simp only [Act.put, List.setIfInBounds_toArray, List.set_cons_zero, List.set_cons_succ, i64_w, i32_w]
                        rfl
                       refine pure_ (i := 15) (N := some 67) (v := ?_) (a' := ?_) #[true, true, true, true, true, true, true, true, true, false, true, true, true, true, true, true, false, false] rfl rfl (any_of HT_.out (by kernel_rfl)) (fun _ _ _ h => h) (Or.inl ⟨by rfl, ?_⟩) ?_ ?_
                       rotate_left
                       ·intro w'
                        go_simp
                        with_reducible rfl
                       rotate_left
                       ·simp only [Act.put, List.setIfInBounds_toArray, List.set_cons_zero, List.set_cons_succ, i64_w, i32_w]
                        rfl
                       refine one_ (i := 9) (N := some 61) #[true, true, true, true, true, true, true, true, true, true, true, true, true, true, true, true, false, false] rfl rfl (one_of HT_.out (by kernel_rfl)) (by decide) (fun K hK => ?_)
                       refine goes_ Tryd.func122 (by kernel_rfl) rfl #[.int .i32 (wrap32 (x7_6))] (by rfl) rfl rfl (by (try simp only [List.map_toArray, List.map_cons, List.map_nil]); first | done | rfl | (simp only [List.length_drop, List.length_take]; rfl)) ?_
                       with_reducible refine (dioramaref05_Char.calls k6 (wrap32 (x7_6)) t288 _ A22.out).mono ?_
                       rintro e w30 ⟨rfl, hb⟩
                       refine ⟨_, rfl, ?_⟩
                       have n0_ := Aside0.mk (below_step (by repeat (first | (with_reducible first | exact HB.out | apply below_alloc | apply pw_below_drewN | apply below_drew1) | exact HB.out)) hb)
                       clear HB
                       have HB := n0_
                       clear n0_
                       (try clear hb)
                       (try clear hb2)
                       (try clear hk)
                       (try clear hi)
                       refine hK.out _ _ trivial (fun hHeld => ?_)
                       clear hK K
                       refine norm_ (a' := ?_) ?_ ?_
                       rotate_left
                       ·show Act.put _ (some 61) _ = _
                        simp only [Act.put, List.setIfInBounds_toArray, List.set_cons_zero, List.set_cons_succ, i64_w, i32_w]
                        rfl
                       refine pure_ (i := 16) (N := some 68) (v := ?_) (a' := ?_) #[true, true, true, true, true, true, true, true, true, true, true, true, true, true, true, true, true, false] rfl rfl (any_of HT_.out (by kernel_rfl)) (fun _ _ _ h => h) (Or.inl ⟨by rfl, ?_⟩) ?_ ?_
                       rotate_left
                       ·intro w'
                        go_simp
                        with_reducible rfl
                       rotate_left
                       ·simp only [Act.put, List.setIfInBounds_toArray, List.set_cons_zero, List.set_cons_succ, i64_w, i32_w]
                        rfl
                       refine pure_ (i := 17) (N := some 69) (v := ?_) (a' := ?_) #[true, true, true, true, true, true, true, true, true, true, true, true, true, true, true, true, true, true] rfl rfl (any_of HT_.out (by kernel_rfl)) (fun _ _ _ h => h) (Or.inl ⟨by rfl, ?_⟩) ?_ ?_
                       rotate_left
                       ·intro w'
                        go_simp
                        with_reducible rfl
                       rotate_left
                       ·simp only [Act.put, List.setIfInBounds_toArray, List.set_cons_zero, List.set_cons_succ, i64_w, i32_w]
                        rfl
                       refine done_ (done_of HT_.out (by kernel_rfl)) ?_
                       try go_wp2
                       go_roundg k6
                       case measure => have := HK1.out; have := HJ2.out; have := HJ8.out; have := HJ10.out; have := HJ12.out; have := HK6.out; omega
                       case rel => exact ⟨(wrap64 (x6_1 + 1)), (by first | rfl | (simp; done) | (simp [*]; done)), H', ⟨by have := HK1.out; have := HJ2.out; have := HJ8.out; have := HJ10.out; have := HJ12.out; have := HK6.out; omega⟩, ⟨by repeat (first | (with_reducible first | exact HB.out | apply below_alloc | apply pw_below_drewN | apply below_drew1) | exact HB.out)⟩⟩
                     ·rw [if_neg c25] at H
                      exact absurd H (by simp)
                    ·rw [if_neg c24] at H
                     exact absurd H (by simp)
                   ·rw [if_neg c23] at H
                    exact absurd H (by simp)
                  ·rw [if_neg c21] at H
                   have c21b0 : decide (x7_6 ≤ 1114111) = false := decide_eq_false c21
                   clear c21
                   have H' := Aside0.mk H
                   clear H
                   try go_wp2
                   have n0_ := Aside0.mk (below_drew1 HB.out)
                   clear HB
                   have HB := n0_
                   clear n0_
                   refine start_ (n := 18) (S := fun w' => True) (ds := []) #[false, false, false, false, false, false, false, false, false, false, false, false, false, false, false, false, false, false] (by kernel_rfl) rfl rfl trivial (fun hHeld => ?_); refine with_tabW dioramaref05_At.tab15 dioramaref05_At.bits15 (fun HT_ HW_ => ?_)
                   generalize wr.drew = w31 at HB hHeld ⊢
                   refine pure_ (i := 0) (N := some 52) (v := ?_) (a' := ?_) #[true, false, false, false, false, false, false, false, false, false, false, false, false, false, false, false, false, false] rfl rfl (any_of HT_.out (by kernel_rfl)) (fun _ _ _ h => h) (Or.inl ⟨by rfl, ?_⟩) ?_ ?_
                   rotate_left
                   ·intro w'
                    go_simp
                    with_reducible rfl
                   rotate_left
                   ·simp only [Act.put, List.setIfInBounds_toArray, List.set_cons_zero, List.set_cons_succ, i64_w, i32_w]
                    rfl
                   refine pure_ (i := 1) (N := some 53) (v := ?_) (a' := ?_) #[true, true, false, false, false, false, false, false, false, false, false, false, false, false, false, false, false, false] rfl rfl (any_of HT_.out (by kernel_rfl)) (fun _ _ _ h => h) (Or.inl ⟨by rfl, ?_⟩) ?_ ?_
                   rotate_left
                   ·intro w'
                    go_simp
                    with_reducible rfl
                   rotate_left
                   ·simp only [Act.put, List.setIfInBounds_toArray, List.set_cons_zero, List.set_cons_succ, i64_w, i32_w]
                    rfl
                   refine pure_ (i := 2) (N := some 54) (v := ?_) (a' := ?_) #[true, true, true, false, false, false, false, false, false, false, false, false, false, false, false, false, false, false] rfl rfl (any_of HT_.out (by kernel_rfl)) (fun _ _ _ h => h) (Or.inl ⟨by rfl, ?_⟩) ?_ ?_
                   rotate_left
                   ·intro w'
                    go_simp
                    with_reducible rfl
                   rotate_left
                   ·simp only [Act.put, List.setIfInBounds_toArray, List.set_cons_zero, List.set_cons_succ, i64_w, i32_w]
                    rfl
                   refine pure_ (i := 3) (N := some 55) (v := ?_) (a' := ?_) #[true, true, true, true, false, false, false, false, false, false, false, false, false, false, false, false, false, false] rfl rfl (any_of HT_.out (by kernel_rfl)) (fun _ _ _ h => h) (Or.inl ⟨by rfl, ?_⟩) ?_ ?_
                   rotate_left
                   ·intro w'
                    go_simp
                    with_reducible rfl
                   rotate_left
                   ·simp only [Act.put, List.setIfInBounds_toArray, List.set_cons_zero, List.set_cons_succ, i64_w, i32_w]
                    rfl
                   refine pure_ (i := 4) (N := some 56) (v := ?_) (a' := ?_) #[true, true, true, true, true, false, false, false, false, false, false, false, false, false, false, false, false, false] rfl rfl (any_of HT_.out (by kernel_rfl)) (fun _ _ _ h => h) (Or.inl ⟨by rfl, ?_⟩) ?_ ?_
                   rotate_left
                   ·intro w'
                    go_simp
                    with_reducible rfl
                   rotate_left
                   ·simp only [Act.put, List.setIfInBounds_toArray, List.set_cons_zero, List.set_cons_succ, i64_w, i32_w]
                    rfl
                   refine pure_ (i := 5) (N := some 57) (v := ?_) (a' := ?_) #[true, true, true, true, true, true, false, false, false, false, false, false, false, false, false, false, false, false] rfl rfl (any_of HT_.out (by kernel_rfl)) (fun _ _ _ h => h) (Or.inl ⟨by rfl, ?_⟩) ?_ ?_
                   rotate_left
                   ·intro w'
                    go_simp
                    with_reducible rfl
                   rotate_left
                   ·simp only [Act.put, List.setIfInBounds_toArray, List.set_cons_zero, List.set_cons_succ, i64_w, i32_w]
                    rfl
                   refine pure_ (i := 6) (N := some 58) (v := ?_) (a' := ?_) #[true, true, true, true, true, true, true, false, false, false, false, false, false, false, false, false, false, false] rfl rfl (any_of HT_.out (by kernel_rfl)) (fun _ _ _ h => h) (Or.inl ⟨by rfl, ?_⟩) ?_ ?_
                   rotate_left
                   ·intro w'
                    go_simp
                    with_reducible rfl
                   rotate_left
                   ·simp only [Act.put, List.setIfInBounds_toArray, List.set_cons_zero, List.set_cons_succ, i64_w, i32_w]
                    rfl
                   refine pure_ (i := 7) (N := some 59) (v := undef) (a' := ?_) #[true, true, true, true, true, true, true, true, false, false, false, false, false, false, false, false, false, false] rfl rfl (any_of HT_.out (by kernel_rfl)) (fun _ _ _ h => h) (Or.inr ⟨by rfl, rfl⟩) ?_ ?_
                   rotate_left
                   ·simp only [Act.put, List.setIfInBounds_toArray, List.set_cons_zero, List.set_cons_succ, i64_w, i32_w]
                    rfl
                   refine pure_ (i := 8) (N := some 60) (v := undef) (a' := ?_) #[true, true, true, true, true, true, true, true, true, false, false, false, false, false, false, false, false, false] rfl rfl (any_of HT_.out (by kernel_rfl)) (fun _ _ _ h => h) (Or.inr ⟨by rfl, rfl⟩) ?_ ?_
                   rotate_left
                   ·simp only [Act.put, List.setIfInBounds_toArray, List.set_cons_zero, List.set_cons_succ, i64_w, i32_w]
                    rfl
                   refine pure_ (i := 9) (N := some 61) (v := undef) (a' := ?_) #[true, true, true, true, true, true, true, true, true, true, false, false, false, false, false, false, false, false] rfl rfl (any_of HT_.out (by kernel_rfl)) (fun _ _ _ h => h) (Or.inr ⟨by rfl, rfl⟩) ?_ ?_
                   rotate_left
                   ·simp only [Act.put, List.setIfInBounds_toArray, List.set_cons_zero, List.set_cons_succ, i64_w, i32_w]
                    rfl
                   refine pure_ (i := 10) (N := some 62) (v := undef) (a' := ?_) #[true, true, true, true, true, true, true, true, true, true, true, false, false, false, false, false, false, false] rfl rfl (any_of HT_.out (by kernel_rfl)) (fun _ _ _ h => h) (Or.inr ⟨by rfl, rfl⟩) ?_ ?_
                   rotate_left
                   ·simp only [Act.put, List.setIfInBounds_toArray, List.set_cons_zero, List.set_cons_succ, i64_w, i32_w]
                    rfl
                   refine pure_ (i := 11) (N := some 63) (v := undef) (a' := ?_) #[true, true, true, true, true, true, true, true, true, true, true, true, false, false, false, false, false, false] rfl rfl (any_of HT_.out (by kernel_rfl)) (fun _ _ _ h => h) (Or.inr ⟨by rfl, rfl⟩) ?_ ?_
                   rotate_left
                   ·simp only [Act.put, List.setIfInBounds_toArray, List.set_cons_zero, List.set_cons_succ, i64_w, i32_w]
                    rfl
                   refine pure_ (i := 12) (N := some 64) (v := undef) (a' := ?_) #[true, true, true, true, true, true, true, true, true, true, true, true, true, false, false, false, false, false] rfl rfl (any_of HT_.out (by kernel_rfl)) (fun _ _ _ h => h) (Or.inr ⟨by rfl, rfl⟩) ?_ ?_
                   rotate_left
                   ·simp only [Act.put, List.setIfInBounds_toArray, List.set_cons_zero, List.set_cons_succ, i64_w, i32_w]
                    rfl
                   refine pure_ (i := 13) (N := some 65) (v := undef) (a' := ?_) #[true, true, true, true, true, true, true, true, true, true, true, true, true, true, false, false, false, false] rfl rfl (any_of HT_.out (by kernel_rfl)) (fun _ _ _ h => h) (Or.inr ⟨by rfl, rfl⟩) ?_ ?_
                   rotate_left
                   ·simp only [Act.put, List.setIfInBounds_toArray, List.set_cons_zero, List.set_cons_succ, i64_w, i32_w]
                    rfl
                   refine pure_ (i := 14) (N := some 66) (v := undef) (a' := ?_) #[true, true, true, true, true, true, true, true, true, true, true, true, true, true, true, false, false, false] rfl rfl (any_of HT_.out (by kernel_rfl)) (fun _ _ _ h => h) (Or.inr ⟨by rfl, rfl⟩) ?_ ?_
                   rotate_left
                   ·simp only [Act.put, List.setIfInBounds_toArray, List.set_cons_zero, List.set_cons_succ, i64_w, i32_w]
                    rfl
                   refine pure_ (i := 15) (N := some 67) (v := undef) (a' := ?_) #[true, true, true, true, true, true, true, true, true, true, true, true, true, true, true, true, false, false] rfl rfl (any_of HT_.out (by kernel_rfl)) (fun _ _ _ h => h) (Or.inr ⟨by rfl, rfl⟩) ?_ ?_
                   rotate_left
                   ·simp only [Act.put, List.setIfInBounds_toArray, List.set_cons_zero, List.set_cons_succ, i64_w, i32_w]
                    rfl
                   refine pure_ (i := 16) (N := some 68) (v := undef) (a' := ?_) #[true, true, true, true, true, true, true, true, true, true, true, true, true, true, true, true, true, false] rfl rfl (any_of HT_.out (by kernel_rfl)) (fun _ _ _ h => h) (Or.inr ⟨by rfl, rfl⟩) ?_ ?_
                   rotate_left
                   ·simp only [Act.put, List.setIfInBounds_toArray, List.set_cons_zero, List.set_cons_succ, i64_w, i32_w]
                    rfl
                   refine pure_ (i := 17) (N := some 69) (v := ?_) (a' := ?_) #[true, true, true, true, true, true, true, true, true, true, true, true, true, true, true, true, true, true] rfl rfl (any_of HT_.out (by kernel_rfl)) (fun _ _ _ h => h) (Or.inl ⟨by rfl, ?_⟩) ?_ ?_
                   rotate_left
                   ·intro w'
                    go_simp
                    with_reducible rfl
                   rotate_left
                   ·simp only [Act.put, List.setIfInBounds_toArray, List.set_cons_zero, List.set_cons_succ, i64_w, i32_w]
                    rfl
                   refine done_ (done_of HT_.out (by kernel_rfl)) ?_
                   try go_wp2
                   go_roundg k6
                   case measure => have := HK1.out; have := HJ2.out; have := HJ8.out; have := HJ10.out; have := HJ12.out; have := HK6.out; omega
                   case rel => exact ⟨(wrap64 (x6_1 + 1)), (by first | rfl | (simp; done) | (simp [*]; done)), H', ⟨by have := HK1.out; have := HJ2.out; have := HJ8.out; have := HJ10.out; have := HJ12.out; have := HK6.out; omega⟩, ⟨by repeat (first | (with_reducible first | exact HB.out | apply below_alloc | apply pw_below_drewN | apply below_drew1) | exact HB.out)⟩⟩
                 ·rw [if_neg c20] at H
                  have c20b0 : decide (0 ≤ x7_6) = false := decide_eq_false c20
                  clear c20
                  have H' := Aside0.mk H
                  clear H
                  try go_wp2
                  have n0_ := Aside0.mk (below_drew1 HB.out)
                  clear HB
                  have HB := n0_
                  clear n0_
                  refine start_ (n := 18) (S := fun w' => True) (ds := []) #[false, false, false, false, false, false, false, false, false, false, false, false, false, false, false, false, false, false] (by kernel_rfl) rfl rfl trivial (fun hHeld => ?_); refine with_tabW dioramaref05_At.tab15 dioramaref05_At.bits15 (fun HT_ HW_ => ?_)
                  generalize wr.drew = w32 at HB hHeld ⊢
                  refine pure_ (i := 0) (N := some 52) (v := ?_) (a' := ?_) #[true, false, false, false, false, false, false, false, false, false, false, false, false, false, false, false, false, false] rfl rfl (any_of HT_.out (by kernel_rfl)) (fun _ _ _ h => h) (Or.inl ⟨by rfl, ?_⟩) ?_ ?_
                  rotate_left
                  ·intro w'
                   go_simp
                   with_reducible rfl
                  rotate_left
                  ·simp only [Act.put, List.setIfInBounds_toArray, List.set_cons_zero, List.set_cons_succ, i64_w, i32_w]
                   rfl
                  refine pure_ (i := 1) (N := some 53) (v := ?_) (a' := ?_) #[true, true, false, false, false, false, false, false, false, false, false, false, false, false, false, false, false, false] rfl rfl (any_of HT_.out (by kernel_rfl)) (fun _ _ _ h => h) (Or.inl ⟨by rfl, ?_⟩) ?_ ?_
                  rotate_left
                  ·intro w'
                   go_simp
                   with_reducible rfl
                  rotate_left
                  ·simp only [Act.put, List.setIfInBounds_toArray, List.set_cons_zero, List.set_cons_succ, i64_w, i32_w]
                   rfl
                  refine pure_ (i := 2) (N := some 54) (v := ?_) (a' := ?_) #[true, true, true, false, false, false, false, false, false, false, false, false, false, false, false, false, false, false] rfl rfl (any_of HT_.out (by kernel_rfl)) (fun _ _ _ h => h) (Or.inl ⟨by rfl, ?_⟩) ?_ ?_
                  rotate_left
                  ·intro w'
                   go_simp
                   with_reducible rfl
                  rotate_left
                  ·simp only [Act.put, List.setIfInBounds_toArray, List.set_cons_zero, List.set_cons_succ, i64_w, i32_w]
                   rfl
                  refine pure_ (i := 3) (N := some 55) (v := undef) (a' := ?_) #[true, true, true, true, false, false, false, false, false, false, false, false, false, false, false, false, false, false] rfl rfl (any_of HT_.out (by kernel_rfl)) (fun _ _ _ h => h) (Or.inr ⟨by rfl, rfl⟩) ?_ ?_
                  rotate_left
                  ·simp only [Act.put, List.setIfInBounds_toArray, List.set_cons_zero, List.set_cons_succ, i64_w, i32_w]
                   rfl
                  refine pure_ (i := 4) (N := some 56) (v := undef) (a' := ?_) #[true, true, true, true, true, false, false, false, false, false, false, false, false, false, false, false, false, false] rfl rfl (any_of HT_.out (by kernel_rfl)) (fun _ _ _ h => h) (Or.inr ⟨by rfl, rfl⟩) ?_ ?_
                  rotate_left
                  ·simp only [Act.put, List.setIfInBounds_toArray, List.set_cons_zero, List.set_cons_succ, i64_w, i32_w]
                   rfl
                  refine pure_ (i := 5) (N := some 57) (v := ?_) (a' := ?_) #[true, true, true, true, true, true, false, false, false, false, false, false, false, false, false, false, false, false] rfl rfl (any_of HT_.out (by kernel_rfl)) (fun _ _ _ h => h) (Or.inl ⟨by rfl, ?_⟩) ?_ ?_
                  rotate_left
                  ·intro w'
                   go_simp
                   with_reducible rfl
                  rotate_left
                  ·simp only [Act.put, List.setIfInBounds_toArray, List.set_cons_zero, List.set_cons_succ, i64_w, i32_w]
                   rfl
                  refine pure_ (i := 6) (N := some 58) (v := ?_) (a' := ?_) #[true, true, true, true, true, true, true, false, false, false, false, false, false, false, false, false, false, false] rfl rfl (any_of HT_.out (by kernel_rfl)) (fun _ _ _ h => h) (Or.inl ⟨by rfl, ?_⟩) ?_ ?_
                  rotate_left
                  ·intro w'
                   go_simp
                   with_reducible rfl
                  rotate_left
                  ·simp only [Act.put, List.setIfInBounds_toArray, List.set_cons_zero, List.set_cons_succ, i64_w, i32_w]
                   rfl
                  refine pure_ (i := 7) (N := some 59) (v := undef) (a' := ?_) #[true, true, true, true, true, true, true, true, false, false, false, false, false, false, false, false, false, false] rfl rfl (any_of HT_.out (by kernel_rfl)) (fun _ _ _ h => h) (Or.inr ⟨by rfl, rfl⟩) ?_ ?_
                  rotate_left
                  ·simp only [Act.put, List.setIfInBounds_toArray, List.set_cons_zero, List.set_cons_succ, i64_w, i32_w]
                   rfl
                  refine pure_ (i := 8) (N := some 60) (v := undef) (a' := ?_) #[true, true, true, true, true, true, true, true, true, false, false, false, false, false, false, false, false, false] rfl rfl (any_of HT_.out (by kernel_rfl)) (fun _ _ _ h => h) (Or.inr ⟨by rfl, rfl⟩) ?_ ?_
                  rotate_left
                  ·simp only [Act.put, List.setIfInBounds_toArray, List.set_cons_zero, List.set_cons_succ, i64_w, i32_w]
                   rfl
                  refine pure_ (i := 9) (N := some 61) (v := undef) (a' := ?_) #[true, true, true, true, true, true, true, true, true, true, false, false, false, false, false, false, false, false] rfl rfl (any_of HT_.out (by kernel_rfl)) (fun _ _ _ h => h) (Or.inr ⟨by rfl, rfl⟩) ?_ ?_
                  rotate_left
                  ·simp only [Act.put, List.setIfInBounds_toArray, List.set_cons_zero, List.set_cons_succ, i64_w, i32_w]
                   rfl
                  refine pure_ (i := 10) (N := some 62) (v := undef) (a' := ?_) #[true, true, true, true, true, true, true, true, true, true, true, false, false, false, false, false, false, false] rfl rfl (any_of HT_.out (by kernel_rfl)) (fun _ _ _ h => h) (Or.inr ⟨by rfl, rfl⟩) ?_ ?_
                  rotate_left
                  ·simp only [Act.put, List.setIfInBounds_toArray, List.set_cons_zero, List.set_cons_succ, i64_w, i32_w]
                   rfl
                  refine pure_ (i := 11) (N := some 63) (v := undef) (a' := ?_) #[true, true, true, true, true, true, true, true, true, true, true, true, false, false, false, false, false, false] rfl rfl (any_of HT_.out (by kernel_rfl)) (fun _ _ _ h => h) (Or.inr ⟨by rfl, rfl⟩) ?_ ?_
                  rotate_left
                  ·simp only [Act.put, List.setIfInBounds_toArray, List.set_cons_zero, List.set_cons_succ, i64_w, i32_w]
                   rfl
                  refine pure_ (i := 12) (N := some 64) (v := undef) (a' := ?_) #[true, true, true, true, true, true, true, true, true, true, true, true, true, false, false, false, false, false] rfl rfl (any_of HT_.out (by kernel_rfl)) (fun _ _ _ h => h) (Or.inr ⟨by rfl, rfl⟩) ?_ ?_
                  rotate_left
                  ·simp only [Act.put, List.setIfInBounds_toArray, List.set_cons_zero, List.set_cons_succ, i64_w, i32_w]
                   rfl
                  refine pure_ (i := 13) (N := some 65) (v := undef) (a' := ?_) #[true, true, true, true, true, true, true, true, true, true, true, true, true, true, false, false, false, false] rfl rfl (any_of HT_.out (by kernel_rfl)) (fun _ _ _ h => h) (Or.inr ⟨by rfl, rfl⟩) ?_ ?_
                  rotate_left
                  ·simp only [Act.put, List.setIfInBounds_toArray, List.set_cons_zero, List.set_cons_succ, i64_w, i32_w]
                   rfl
                  refine pure_ (i := 14) (N := some 66) (v := undef) (a' := ?_) #[true, true, true, true, true, true, true, true, true, true, true, true, true, true, true, false, false, false] rfl rfl (any_of HT_.out (by kernel_rfl)) (fun _ _ _ h => h) (Or.inr ⟨by rfl, rfl⟩) ?_ ?_
                  rotate_left
                  ·simp only [Act.put, List.setIfInBounds_toArray, List.set_cons_zero, List.set_cons_succ, i64_w, i32_w]
                   rfl
                  refine pure_ (i := 15) (N := some 67) (v := undef) (a' := ?_) #[true, true, true, true, true, true, true, true, true, true, true, true, true, true, true, true, false, false] rfl rfl (any_of HT_.out (by kernel_rfl)) (fun _ _ _ h => h) (Or.inr ⟨by rfl, rfl⟩) ?_ ?_
                  rotate_left
                  ·simp only [Act.put, List.setIfInBounds_toArray, List.set_cons_zero, List.set_cons_succ, i64_w, i32_w]
                   rfl
                  refine pure_ (i := 16) (N := some 68) (v := undef) (a' := ?_) #[true, true, true, true, true, true, true, true, true, true, true, true, true, true, true, true, true, false] rfl rfl (any_of HT_.out (by kernel_rfl)) (fun _ _ _ h => h) (Or.inr ⟨by rfl, rfl⟩) ?_ ?_
                  rotate_left
                  ·simp only [Act.put, List.setIfInBounds_toArray, List.set_cons_zero, List.set_cons_succ, i64_w, i32_w]
                   rfl
                  refine pure_ (i := 17) (N := some 69) (v := ?_) (a' := ?_) #[true, true, true, true, true, true, true, true, true, true, true, true, true, true, true, true, true, true] rfl rfl (any_of HT_.out (by kernel_rfl)) (fun _ _ _ h => h) (Or.inl ⟨by rfl, ?_⟩) ?_ ?_
                  rotate_left
                  ·intro w'
                   go_simp
                   with_reducible rfl
                  rotate_left
                  ·simp only [Act.put, List.setIfInBounds_toArray, List.set_cons_zero, List.set_cons_succ, i64_w, i32_w]
                   rfl
                  refine done_ (done_of HT_.out (by kernel_rfl)) ?_
                  try go_wp2
                  go_roundg k6
                  case measure => have := HK1.out; have := HJ2.out; have := HJ8.out; have := HJ10.out; have := HJ12.out; have := HK6.out; omega
                  case rel => exact ⟨(wrap64 (x6_1 + 1)), (by first | rfl | (simp; done) | (simp [*]; done)), H', ⟨by have := HK1.out; have := HJ2.out; have := HJ8.out; have := HJ10.out; have := HJ12.out; have := HK6.out; omega⟩, ⟨by repeat (first | (with_reducible first | exact HB.out | apply below_alloc | apply pw_below_drewN | apply below_drew1) | exact HB.out)⟩⟩
       ·rw [if_neg c7] at H
        exact absurd H (by simp)
      ·rw [if_neg c6] at H
       exact absurd H (by simp)
     ·replace c5 := Bool.eq_false_iff.mpr c5
      subst c5
      have H1 : (some (0, 0)) = some (r1, r2) := by rw [if_neg (show ¬ (false = true) by decide)] at H; exact H
      clear H
      have H := H1
      clear H1
      simp only [Option.some.injEq, Prod.mk.injEq] at H
      obtain ⟨rfl, rfl⟩ := H
      go_wp2
      go_ret2
      exact ⟨by first | rfl | (simp [errW_none, errW_some] <;> rfl) | (simp [*, errW_none, errW_some] <;> rfl), by repeat (first | (with_reducible first | exact HB.out | apply below_alloc | apply pw_below_drewN | apply below_drew1) | exact HB.out)⟩

end Go.Proofs.YtglfebpgdghlfaaDoor.PUpgradeUps
end
section
-- PRINTED BY print.sh 35421559b90ae4d0a3588c463048766b98c2df88dd9212a6774a882060cdf62d: not written by this session
namespace Go.Proofs.YtglfebpgdghlfaaDoor.PUpgradeUps
open Go.RowKit Go.Proofs.YtglfebpgdghlfaaDoorW.PrintWords Go.Proofs.YtglfebpgdghlfaaDoorW.PrintLast Go.Proofs.YtglfebpgdghlfaaDoorW.PrintMore
attribute [local go_sem] max2_int min2_int max_two min_two max_three min_three max_four min_four   -- for this text's walks alone
set_option linter.unusedVariables false
set_option linter.unusedSimpArgs false
def dioramaref05_Read.l0 : Nat → ByteArray → List Int → Int → Option (List Int × Int)
 | 0, _, _, _ => none
 | k + 1, x0, x4, x5 => if x5 < (x0.size : Int) then ((dioramaref05_At.f k x0 x5).bind fun bt292 => (if bt292.2 = 0 then (some (x4, x5)) else (if x4.length < 35184372088832 then (dioramaref05_Read.l0 k x0 (x4 ++ [bt292.1]) (wrap64 (x5 + bt292.2))) else (none)))) else (some (x4, x5))
def dioramaref05_Read.f (k : Nat) (a0 : ByteArray) : Option (List Int × Int) := dioramaref05_Read.l0 k a0 (([] : List Int)) 0
set_option maxHeartbeats 8000000 in
set_option maxRecDepth 100000 in
theorem dioramaref05_Read.calls (k : Nat) (a0 : ByteArray) (r1 : List Int) (r2 : Int) (w : World) (h : dioramaref05_Read.f k a0 = some (r1, r2)) :
  Calls Tryd.prog 107 #[.string a0] w fun e w' => ∃ v0_ : Value, e = .returned (.tuple #[v0_, .int .i64 r2]) ∧ Kd.R (Kd.int .i32) 21 w' w.heap.size (fun _ => True) v0_ r1 ∧ Below w.heap.size w w' := by
 have HB := Aside0.mk (Below.refl w.heap.size w)
 have H : (dioramaref05_Read.l0 k a0 (([] : List Int)) 0) = some (r1, r2) := h
 clear h
 obtain ⟨y289, hy289⟩ : ∃ y_ : List Int, y_ = (([] : List Int)) := ⟨_, rfl⟩
 replace H : (dioramaref05_Read.l0 k a0 y289 0) = some (r1, r2) := by first | (rw [hy289]; with_reducible exact H) | (have H2_ := (Option.bind_some _ _).symm.trans H; rw [hy289]; with_reducible exact H2_) | (have H2_ := (Option.bind_some _ _).symm.trans H; with_reducible exact H2_) | with_reducible exact H | (rw [hy289]; exact H) | exact H
 have Ny289 := Aside0.mk hy289
 clear hy289
 have H' := Aside0.mk H
 clear H
 go_enter Tryd.func107, Tryd.ntmps107
 go_wp2_with (first | ((with_reducible refine gate_dst (N := 8) rfl ?_); refine Kd.R_lit (Kd.int .i32) _ 21 ?hg (N := 8) ?hd (xs := ([] : List Int)) (inner := []) (ok := fun _ => True) (okp := fun _ => True) ?hr ?hp (fun _ hk => hk) trivial (Below.refl _ _) (Nat.le_refl _) (by simp) ?_; (case hd => rfl); (case hg => rfl); (case hr => first | (go_simp; done) | (go_simp; rfl)); (case hp => exact (Reps.none _ _)); intro v290 w2 ho3 hb hg_ hnew_; clear hg_ hnew_; (first | rw [← Ny289.out] at ho3 | (simp only [Int.reduceToNat] at ho3; rw [← Ny289.out] at ho3)); have n0_ := Aside0.mk (Kd.R_lower ho3 (below_size (by repeat (first | (with_reducible first | exact HB.out | apply below_alloc | apply pw_below_drewN | apply below_drew1) | exact HB.out)))); have n1_ := Aside0.mk (below_step (by repeat (first | (with_reducible first | exact HB.out | apply below_alloc | apply pw_below_drewN | apply below_drew1) | exact HB.out)) hb); clear HB; have HO291 := n0_; have HB := n1_; clear n0_ n1_; clear hb ho3))
 go_loopg [4, 5] k (fun kq v4 v5 w' => ∃ (x4_1 : List Int) (x5_1 : Int), v5 = .int .i64 x5_1 ∧ Aside0 (dioramaref05_Read.l0 kq a0 x4_1 x5_1 = some (r1, r2)) ∧ Aside0 (kq ≤ k) ∧ Aside0 (Kd.R (Kd.int .i32) 21 w' w.heap.size (fun _ => True) v4 x4_1) ∧ Aside0 (Below w.heap.size w w'))
 case atStart => exact ⟨(y289), (0), (by first | rfl | (simp; done) | (simp [*]; done)), H', ⟨Nat.le_refl _⟩, ⟨by (with_reducible repeat (first | apply Kd.R_alloc | apply Kd.R_drewN | apply Kd.R_drew)); exact HO291.out⟩, ⟨by repeat (first | (with_reducible first | exact HB.out | apply below_alloc | apply pw_below_drewN | apply below_drew1) | exact HB.out)⟩⟩
 case round =>
  clear H'
  try clear c1
  try clear p2
  obtain ⟨x4_1, x5_1, rfl, HA, HK1, HO_4, HB⟩ := hrel
  cases gk with
  | zero => exact absurd HA.out (by simp [dioramaref05_Read.l0])
  | succ k1 =>
   have H := HA.out
   clear HA
   simp only [dioramaref05_Read.l0] at H
   by_cases c4 : x5_1 < (a0.size : Int)
   ·rw [if_pos c4] at H
    have c4b0 : decide (x5_1 < (a0.size : Int)) = true := decide_eq_true c4
    clear c4
    replace H := Option.bind_eq_some_iff.mp H
    obtain ⟨⟨t292, t293⟩, A50, H⟩ := H
    replace H : (if t293 = 0 then (some (x4_1, x5_1)) else (if x4_1.length < 35184372088832 then (dioramaref05_Read.l0 k1 a0 (x4_1 ++ [t292]) (wrap64 (x5_1 + t293))) else (none))) = some (r1, r2) := H
    have A5 := Aside0.mk A50
    clear A50
    by_cases c6 : t293 = 0
    ·rw [if_pos c6] at H
     have c6b0 : (t293 == 0) = true := beq_iff_eq.mpr c6
     have c6b1 : (t293 != 0) = false := bne_eq_false_iff_eq.mpr c6
     clear c6
     simp only [Option.some.injEq, Prod.mk.injEq] at H
     obtain ⟨rfl, rfl⟩ := H
     go_wp2_with (first | ((with_reducible refine gate_callee (f := 119) rfl ?_); refine goesL_ (some 16) rfl rfl Tryd.func119 (by kernel_rfl) rfl #[.string a0, .int .i64 x5_1] rfl (by (try simp only [List.map_toArray, List.map_cons, List.map_nil]); first | done | rfl | (simp only [List.length_drop, List.length_take]; rfl)) ?_; (with_reducible refine (dioramaref05_At.calls k1 a0 x5_1 t292 t293 _ A5.out).mono ?_); rintro e w7 ⟨rfl, hb⟩; refine ⟨_, rfl, ?_⟩; have n0_ := Aside0.mk (Kd.R_below (by (with_reducible repeat (first | apply Kd.R_alloc | apply Kd.R_drewN | apply Kd.R_drew)); exact HO_4.out) hb); have n1_ := Aside0.mk (below_step (by repeat (first | (with_reducible first | exact HB.out | apply below_alloc | apply pw_below_drewN | apply below_drew1) | exact HB.out)) hb); clear HO_4; clear HB; have HO_4 := n0_; have HB := n1_; clear n0_ n1_; (try clear hb); (try clear hb2); (try clear hk); (try clear hi)))
     go_ret2
     exact ⟨_, by first | rfl | (simp [errW_none, errW_some] <;> rfl) | (simp [*, errW_none, errW_some] <;> rfl), by (with_reducible repeat (first | apply Kd.R_alloc | apply Kd.R_drewN | apply Kd.R_drew)); exact HO_4.out, by repeat (first | (with_reducible first | exact HB.out | apply below_alloc | apply pw_below_drewN | apply below_drew1) | exact HB.out)⟩
    ·rw [if_neg c6] at H
     have c6b0 : (t293 == 0) = false := beq_eq_false_iff_ne.mpr c6
     have c6b1 : (t293 != 0) = true := bne_iff_ne.mpr c6
     by_cases c8 : x4_1.length < 35184372088832
     ·rw [if_pos c8] at H
      have LMc8 := Aside0.mk c8
      clear c8
      obtain ⟨y294, hy294⟩ : ∃ y_ : List Int, y_ = (x4_1 ++ [t292]) := ⟨_, rfl⟩
      replace H : (dioramaref05_Read.l0 k1 a0 y294 (wrap64 (x5_1 + t293))) = some (r1, r2) := by first | (rw [hy294]; with_reducible exact H) | (have H2_ := (Option.bind_some _ _).symm.trans H; rw [hy294]; with_reducible exact H2_) | (have H2_ := (Option.bind_some _ _).symm.trans H; with_reducible exact H2_) | with_reducible exact H | (rw [hy294]; exact H) | exact H
      have Ny294 := Aside0.mk hy294
      clear hy294
      have H' := Aside0.mk H
      clear H
      go_wp2_with (first | ((with_reducible refine gate_callee (f := 119) rfl ?_); refine goesL_ (some 16) rfl rfl Tryd.func119 (by kernel_rfl) rfl #[.string a0, .int .i64 x5_1] rfl (by (try simp only [List.map_toArray, List.map_cons, List.map_nil]); first | done | rfl | (simp only [List.length_drop, List.length_take]; rfl)) ?_; (with_reducible refine (dioramaref05_At.calls k1 a0 x5_1 t292 t293 _ A5.out).mono ?_); rintro e w9 ⟨rfl, hb⟩; refine ⟨_, rfl, ?_⟩; have n0_ := Aside0.mk (Kd.R_below (by (with_reducible repeat (first | apply Kd.R_alloc | apply Kd.R_drewN | apply Kd.R_drew)); exact HO_4.out) hb); have n1_ := Aside0.mk (below_step (by repeat (first | (with_reducible first | exact HB.out | apply below_alloc | apply pw_below_drewN | apply below_drew1) | exact HB.out)) hb); clear HO_4; clear HB; have HO_4 := n0_; have HB := n1_; clear n0_ n1_; (try clear hb); (try clear hb2); (try clear hk); (try clear hi)) | ((with_reducible refine gate_builtin (b := .append) (xs := #[.tmp 23, .tmp 25]) rfl ?_); at_builtin; refine Kd.R_append (Kd.int .i32) (w0 := w) w.heap.size rfl (.tmp 23) (.tmp 25) 139 21 (.int .i32 0) 4 rfl Tryd.underlying139 info21 rfl (by decide) (by omega) u4 x4_1 t292 [.int .i32 t292] (fun _ => True) (fun _ => False) rfl rfl ?aP (fun _ hk => hk.elim) ?aF ?aO ?aB ?aS ?aL ?_; (case aP => exact rfl); (case aB => exact (by repeat (first | (with_reducible first | exact HB.out | apply below_alloc | apply pw_below_drewN | apply below_drew1) | exact HB.out))); (case aF => exact (fun _ _ => trivial)); (case aO => exact (by (with_reducible repeat (first | apply Kd.R_alloc | apply Kd.R_drewN | apply Kd.R_drew)); exact HO_4.out)); (case aS => exact (below_size (by repeat (first | (with_reducible first | exact HB.out | apply below_alloc | apply pw_below_drewN | apply below_drew1) | exact HB.out)))); (case aL => have := LMc8.out; omega); intro v295 w10 ho hb hg hat; rw [← Ny294.out] at ho; have n0_ := Aside0.mk (hb); have n1_ := Aside0.mk (ho); clear HB; clear HO_4; have HB := n0_; have HO296 := n1_; clear n0_ n1_; clear ho hb hg hat))
      go_roundg k1
      case measure => have := HK1.out; omega
      case rel => exact ⟨(y294), (wrap64 (x5_1 + t293)), (by first | rfl | (simp; done) | (simp [*]; done)), H', ⟨by have := HK1.out; omega⟩, ⟨by (with_reducible repeat (first | apply Kd.R_alloc | apply Kd.R_drewN | apply Kd.R_drew)); exact HO296.out⟩, ⟨by repeat (first | (with_reducible first | exact HB.out | apply below_alloc | apply pw_below_drewN | apply below_drew1) | exact HB.out)⟩⟩
     ·rw [if_neg c8] at H
      exact absurd H (by simp)
   ·rw [if_neg c4] at H
    have c4b0 : decide (x5_1 < (a0.size : Int)) = false := decide_eq_false c4
    clear c4
    simp only [Option.some.injEq, Prod.mk.injEq] at H
    obtain ⟨rfl, rfl⟩ := H
    go_wp2
    go_ret2
    exact ⟨_, by first | rfl | (simp [errW_none, errW_some] <;> rfl) | (simp [*, errW_none, errW_some] <;> rfl), by (with_reducible repeat (first | apply Kd.R_alloc | apply Kd.R_drewN | apply Kd.R_drew)); exact HO_4.out, by repeat (first | (with_reducible first | exact HB.out | apply below_alloc | apply pw_below_drewN | apply below_drew1) | exact HB.out)⟩

def dioramaref05_Right.f (k : Nat) (a0 : ByteArray) : Option (Bool) := (dioramaref05_Read.f k a0).bind fun bt297 => (some (bt297.2 == (a0.size : Int)))
set_option maxHeartbeats 8000000 in
set_option maxRecDepth 100000 in
theorem dioramaref05_Right.calls (k : Nat) (a0 : ByteArray) (r : Bool) (w : World) (h : dioramaref05_Right.f k a0 = some r) :
  Calls Tryd.prog 82 #[.string a0] w fun e w' => e = .returned (.bool r) ∧ Below w.heap.size w w' := by
 have HB := Aside0.mk (Below.refl w.heap.size w)
 have H : ((dioramaref05_Read.f k a0).bind fun bt297 => (some (bt297.2 == (a0.size : Int)))) = some r := h
 clear h
 replace H := Option.bind_eq_some_iff.mp H
 obtain ⟨⟨t297, t298⟩, A20, H⟩ := H
 replace H : (some (t298 == (a0.size : Int))) = some r := H
 have A2 := Aside0.mk A20
 clear A20
 obtain rfl := Option.some.inj H
 go_enter Tryd.func82, Tryd.ntmps82
 go_wp2_with (first | ((with_reducible refine gate_callee (f := 107) rfl ?_); refine goesL_ (some 7) rfl rfl Tryd.func107 (by kernel_rfl) rfl #[.string a0] rfl (by (try simp only [List.map_toArray, List.map_cons, List.map_nil]); first | done | rfl | (simp only [List.length_drop, List.length_take]; rfl)) ?_; (with_reducible refine (dioramaref05_Read.calls k a0 t297 t298 _ A2.out).mono ?_); rintro e w3 ⟨v299, rfl, ho0, hb⟩; refine ⟨_, rfl, ?_⟩; have n0_ := Aside0.mk (Kd.R_lower ho0 (below_size (by repeat (first | (with_reducible first | exact HB.out | apply below_alloc | apply pw_below_drewN | apply below_drew1) | exact HB.out)))); have n1_ := Aside0.mk (below_step (by repeat (first | (with_reducible first | exact HB.out | apply below_alloc | apply pw_below_drewN | apply below_drew1) | exact HB.out)) hb); clear HB; have HO300 := n0_; have HB := n1_; clear n0_ n1_; (try clear hb); (try clear hb2); (try clear hk); (try clear hi); (try clear ho0)))
 go_ret
 exact ⟨by first | rfl | (simp [errW_none, errW_some] <;> rfl) | (simp [*, errW_none, errW_some] <;> rfl), by repeat (first | (with_reducible first | exact HB.out | apply below_alloc | apply pw_below_drewN | apply below_drew1) | exact HB.out)⟩

mutual
def dioramaref08_Check.l0 : Nat → Int → Int → List Int → List ByteArray → List Int → List Int → Int → Int → Int → Option (Int)
 | 0, _, _, _, _, _, _, _, _, _ => none
 | k + 1, x5, x302000, x302001, x302002, x302003, x303000, x303001, x303002, x303003 => if x5 < (x302001.length : Int) then (if 0 ≤ x5 then (if x5 < (x303000.length : Int) then ((dioramaref07_In.f (rd x303000 x5) (rd x302001 x5)).bind fun t305 => (if t305 = true then (dioramaref08_Check.l0 k (wrap64 (x5 + 1)) x302000 x302001 x302002 x302003 x303000 x303001 x303002 x303003) else (some 10))) else (none)) else (none)) else (if (x302002.length : Int) = x303001 then (dioramaref08_Check.l1 k 0 x302000 x302001 x302002 x302003 x303000 x303001 x303002 x303003) else (some 11))
def dioramaref08_Check.l1 : Nat → Int → Int → List Int → List ByteArray → List Int → List Int → Int → Int → Int → Option (Int)
 | 0, _, _, _, _, _, _, _, _, _ => none
 | k + 1, x6, x302000, x302001, x302002, x302003, x303000, x303001, x303002, x303003 => if x6 < (x302002.length : Int) then (if 0 ≤ x6 then ((dioramaref05_Right.f k (rdOf ByteArray.empty x302002 x6)).bind fun t307 => (if t307 = true then (dioramaref08_Check.l1 k (wrap64 (x6 + 1)) x302000 x302001 x302002 x302003 x303000 x303001 x303002 x303003) else (some 11))) else (none)) else (if (x302003.length : Int) < x303002 then (some 12) else (if x303003 ≥ 0 then (if (x302003.length : Int) > x303003 then (some 12) else (some 0)) else (some 0)))
end
def dioramaref08_Check.f (k : Nat) (a0_0 : Int) (l0_1 : List Int) (l0_2 : List ByteArray) (l0_3 : List Int) (l1_0 : List Int) (a1_1 : Int) (a1_2 : Int) (a1_3 : Int) : Option (Int) := if (l0_1.length : Int) = (l1_0.length : Int) then (dioramaref08_Check.l0 k 0 a0_0 l0_1 l0_2 l0_3 l1_0 a1_1 a1_2 a1_3) else (some 10)
set_option maxHeartbeats 8000000 in
set_option maxRecDepth 100000 in
theorem dioramaref08_Check.calls (k : Nat) (a0_0 : Int) (A0_1 : Option Addr) (c0_1 : Nat) (l0_1 : List Int) (A0_2 : Option Addr) (c0_2 : Nat) (l0_2 : List ByteArray) (A0_3 : Option Addr) (c0_3 : Nat) (l0_3 : List Int) (A1_0 : Option Addr) (c1_0 : Nat) (l1_0 : List Int) (a1_1 : Int) (a1_2 : Int) (a1_3 : Int) (r : Int) (w : World) (hr0_1 : Kd.C (Kd.int .i64) w A0_1 l0_1.length l0_1) (hc0_1 : l0_1.length ≤ c0_1) (hr0_2 : Kd.C Kd.string w A0_2 l0_2.length l0_2) (hc0_2 : l0_2.length ≤ c0_2) (hr0_3 : Kd.C (Kd.int .i64) w A0_3 l0_3.length l0_3) (hc0_3 : l0_3.length ≤ c0_3) (hr1_0 : Kd.C (Kd.int .i64) w A1_0 l1_0.length l1_0) (hc1_0 : l1_0.length ≤ c1_0) (h : dioramaref08_Check.f k a0_0 l0_1 l0_2 l0_3 l1_0 a1_1 a1_2 a1_3 = some r) :
  Calls Tryd.prog 41 #[.agg #[.int .i64 a0_0, .slice A0_1 l0_1.length c0_1, .slice A0_2 l0_2.length c0_2, .slice A0_3 l0_3.length c0_3], .agg #[.slice A1_0 l1_0.length c1_0, .int .i64 a1_1, .int .i64 a1_2, .int .i64 a1_3]] w fun e w' => e = .returned (.int .i64 r) ∧ Below w.heap.size w w' := by
 have hu26 := Tryd.underlying26
 have hu66 := Tryd.underlying66
 have HR0_1 := Aside0.mk hr0_1
 have HC0_1 := Aside0.mk hc0_1
 clear hr0_1 hc0_1
 have HR0_2 := Aside0.mk hr0_2
 have HC0_2 := Aside0.mk hc0_2
 clear hr0_2 hc0_2
 have HR0_3 := Aside0.mk hr0_3
 have HC0_3 := Aside0.mk hc0_3
 clear hr0_3 hc0_3
 have HR1_0 := Aside0.mk hr1_0
 have HC1_0 := Aside0.mk hc1_0
 clear hr1_0 hc1_0
 have HB := Aside0.mk (Below.refl w.heap.size w)
 have H : (if (l0_1.length : Int) = (l1_0.length : Int) then (dioramaref08_Check.l0 k 0 a0_0 l0_1 l0_2 l0_3 l1_0 a1_1 a1_2 a1_3) else (some 10)) = some r := h
 clear h
 by_cases c3 : (l0_1.length : Int) = (l1_0.length : Int)
 ·rw [if_pos c3] at H
  have c3b0 : ((l0_1.length : Int) == (l1_0.length : Int)) = true := beq_iff_eq.mpr c3
  have c3b1 : ((l0_1.length : Int) != (l1_0.length : Int)) = false := bne_eq_false_iff_eq.mpr c3
  have c3b2 : (l0_1.length == l1_0.length) = true := by first | simpa using c3 | (simp at c3 ⊢; omega)
  clear c3
  have H' := Aside0.mk H
  clear H
  go_enter Tryd.func41, Tryd.ntmps41
  go_wp2_with (first | ((with_reducible refine gate_dst (N := 2) rfl ?_); (try (refine gate_guard (by rfl) ?_; dsimp only)); refine box_event ?hg (N := 2) ?hd (cs := #[.int .i64 a0_0, .slice A0_1 l0_1.length c0_1, .slice A0_2 l0_2.length c0_2, .slice A0_3 l0_3.length c0_3]) (t := 26) ?hr ?_; (case hd => rfl); (case hg => rfl); (case hr => first | (go_simp; done) | (go_simp; rfl)); intro gb301 hg w4 hbox hb; have n0_ := Aside0.mk (below_step (by repeat (first | (with_reducible first | exact HB.out | apply below_alloc | apply pw_below_drewN | apply below_drew1) | exact HB.out)) hb); have n1_ := Aside0.mk (hbox); have n2_ := Aside0.mk ((by rw [hg]; exact (below_size (by repeat (first | (with_reducible first | exact HB.out | apply below_alloc | apply pw_below_drewN | apply below_drew1) | exact HB.out))) : w.heap.size ≤ gb301)); have n3_ := Aside0.mk ((by rw [hg]; exact (below_size (by repeat (first | (with_reducible first | exact HB.out | apply below_alloc | apply pw_below_drewN | apply below_drew1) | exact HB.out))) : w.heap.size ≤ gb301)); clear HB; have HB := n0_; have BK301 := n1_; have GW301 := n2_; have GE301 := n3_; clear n0_ n1_ n2_ n3_; clear hb hbox hg) | ((with_reducible refine gate_dst (N := 3) rfl ?_); (try (refine gate_guard (by rfl) ?_; dsimp only)); refine box_event ?hg (N := 3) ?hd (cs := #[.slice A1_0 l1_0.length c1_0, .int .i64 a1_1, .int .i64 a1_2, .int .i64 a1_3]) (t := 66) ?hr ?_; (case hd => rfl); (case hg => rfl); (case hr => first | (go_simp; done) | (go_simp; rfl)); intro gb302 hg w5 hbox hb; have n0_ := Aside0.mk (blk_below (g := gb301) (o := .cells #[.int .i64 a0_0, .slice A0_1 l0_1.length c0_1, .slice A0_2 l0_2.length c0_2, .slice A0_3 l0_3.length c0_3] 26 (0, 0)) (by (with_reducible repeat (first | refine blk_drewN ?_ _ | refine blk_drew ?_ | refine blk_alloc ?_ _)); exact BK301.out) hb); have n1_ := Aside0.mk (below_step (by repeat (first | (with_reducible first | exact HB.out | apply below_alloc | apply pw_below_drewN | apply below_drew1 | refine below_set ?_ GE301.out) | exact HB.out)) hb); have n2_ := Aside0.mk (hbox); have n3_ := Aside0.mk ((by rw [hg]; exact (below_size (by repeat (first | (with_reducible first | exact HB.out | apply below_alloc | apply pw_below_drewN | apply below_drew1 | refine below_set ?_ GE301.out) | exact HB.out))) : w.heap.size ≤ gb302)); have n4_ := Aside0.mk ((by rw [hg]; exact (below_size (by repeat (first | (with_reducible first | exact HB.out | apply below_alloc | apply pw_below_drewN | apply below_drew1 | refine below_set ?_ GE301.out) | exact HB.out))) : w.heap.size ≤ gb302)); have n5_ := Aside0.mk ((by rw [hg]; exact Nat.ne_of_lt (blk_lt (g := gb301) (o := .cells #[.int .i64 a0_0, .slice A0_1 l0_1.length c0_1, .slice A0_2 l0_2.length c0_2, .slice A0_3 l0_3.length c0_3] 26 (0, 0)) (by (with_reducible repeat (first | refine blk_drewN ?_ _ | refine blk_drew ?_ | refine blk_alloc ?_ _)); exact BK301.out)) : gb301 ≠ gb302)); have n6_ := Aside0.mk ((by rw [hg]; exact Nat.ne_of_gt (blk_lt (g := gb301) (o := .cells #[.int .i64 a0_0, .slice A0_1 l0_1.length c0_1, .slice A0_2 l0_2.length c0_2, .slice A0_3 l0_3.length c0_3] 26 (0, 0)) (by (with_reducible repeat (first | refine blk_drewN ?_ _ | refine blk_drew ?_ | refine blk_alloc ?_ _)); exact BK301.out)) : gb302 ≠ gb301)); clear BK301; clear HB; have BK301 := n0_; have HB := n1_; have BK302 := n2_; have GW302 := n3_; have GE302 := n4_; have NB301_302 := n5_; have NB302_301 := n6_; clear n0_ n1_ n2_ n3_ n4_ n5_ n6_; clear hb hbox hg; have hnb6 := NB301_302.out; have hnc6 := NB302_301.out; have hcz7_0 : w5.cell? ⟨gb301, 0, none⟩ = some (.int .i64 a0_0) := (blk_cell BK301.out 0).trans rfl; have hcz7_1 : w5.cell? ⟨gb301, 1, none⟩ = some (.slice A0_1 l0_1.length c0_1) := (blk_cell BK301.out 1).trans rfl; have hcz7_2 : w5.cell? ⟨gb301, 2, none⟩ = some (.slice A0_2 l0_2.length c0_2) := (blk_cell BK301.out 2).trans rfl; have hcz7_3 : w5.cell? ⟨gb301, 3, none⟩ = some (.slice A0_3 l0_3.length c0_3) := (blk_cell BK301.out 3).trans rfl; have hfz7_0 := blk_frozen BK301.out 0; have hfz7_1 := blk_frozen BK301.out 1; have hfz7_2 := blk_frozen BK301.out 2; have hfz7_3 := blk_frozen BK301.out 3; have hcz8_0 : w5.cell? ⟨gb302, 0, none⟩ = some (.slice A1_0 l1_0.length c1_0) := (blk_cell BK302.out 0).trans rfl; have hcz8_1 : w5.cell? ⟨gb302, 1, none⟩ = some (.int .i64 a1_1) := (blk_cell BK302.out 1).trans rfl; have hcz8_2 : w5.cell? ⟨gb302, 2, none⟩ = some (.int .i64 a1_2) := (blk_cell BK302.out 2).trans rfl; have hcz8_3 : w5.cell? ⟨gb302, 3, none⟩ = some (.int .i64 a1_3) := (blk_cell BK302.out 3).trans rfl; have hfz8_0 := blk_frozen BK302.out 0; have hfz8_1 := blk_frozen BK302.out 1; have hfz8_2 := blk_frozen BK302.out 2; have hfz8_3 := blk_frozen BK302.out 3))
  repeat (go_quiet (first | ((with_reducible refine gate_dst (N := 2) rfl ?_); (try (refine gate_guard (by rfl) ?_; dsimp only)); refine box_event ?hg (N := 2) ?hd (cs := #[.int .i64 a0_0, .slice A0_1 l0_1.length c0_1, .slice A0_2 l0_2.length c0_2, .slice A0_3 l0_3.length c0_3]) (t := 26) ?hr ?_; (case hd => rfl); (case hg => rfl); (case hr => first | (go_simp; done) | (go_simp; rfl)); intro gb301 hg w4 hbox hb; have n0_ := Aside0.mk (below_step (by repeat (first | (with_reducible first | exact HB.out | apply below_alloc | apply pw_below_drewN | apply below_drew1) | exact HB.out)) hb); have n1_ := Aside0.mk (hbox); have n2_ := Aside0.mk ((by rw [hg]; exact (below_size (by repeat (first | (with_reducible first | exact HB.out | apply below_alloc | apply pw_below_drewN | apply below_drew1) | exact HB.out))) : w.heap.size ≤ gb301)); have n3_ := Aside0.mk ((by rw [hg]; exact (below_size (by repeat (first | (with_reducible first | exact HB.out | apply below_alloc | apply pw_below_drewN | apply below_drew1) | exact HB.out))) : w.heap.size ≤ gb301)); clear HB; have HB := n0_; have BK301 := n1_; have GW301 := n2_; have GE301 := n3_; clear n0_ n1_ n2_ n3_; clear hb hbox hg) | ((with_reducible refine gate_dst (N := 3) rfl ?_); (try (refine gate_guard (by rfl) ?_; dsimp only)); refine box_event ?hg (N := 3) ?hd (cs := #[.slice A1_0 l1_0.length c1_0, .int .i64 a1_1, .int .i64 a1_2, .int .i64 a1_3]) (t := 66) ?hr ?_; (case hd => rfl); (case hg => rfl); (case hr => first | (go_simp; done) | (go_simp; rfl)); intro gb302 hg w5 hbox hb; have n0_ := Aside0.mk (blk_below (g := gb301) (o := .cells #[.int .i64 a0_0, .slice A0_1 l0_1.length c0_1, .slice A0_2 l0_2.length c0_2, .slice A0_3 l0_3.length c0_3] 26 (0, 0)) (by (with_reducible repeat (first | refine blk_drewN ?_ _ | refine blk_drew ?_ | refine blk_alloc ?_ _)); exact BK301.out) hb); have n1_ := Aside0.mk (below_step (by repeat (first | (with_reducible first | exact HB.out | apply below_alloc | apply pw_below_drewN | apply below_drew1 | refine below_set ?_ GE301.out) | exact HB.out)) hb); have n2_ := Aside0.mk (hbox); have n3_ := Aside0.mk ((by rw [hg]; exact (below_size (by repeat (first | (with_reducible first | exact HB.out | apply below_alloc | apply pw_below_drewN | apply below_drew1 | refine below_set ?_ GE301.out) | exact HB.out))) : w.heap.size ≤ gb302)); have n4_ := Aside0.mk ((by rw [hg]; exact (below_size (by repeat (first | (with_reducible first | exact HB.out | apply below_alloc | apply pw_below_drewN | apply below_drew1 | refine below_set ?_ GE301.out) | exact HB.out))) : w.heap.size ≤ gb302)); have n5_ := Aside0.mk ((by rw [hg]; exact Nat.ne_of_lt (blk_lt (g := gb301) (o := .cells #[.int .i64 a0_0, .slice A0_1 l0_1.length c0_1, .slice A0_2 l0_2.length c0_2, .slice A0_3 l0_3.length c0_3] 26 (0, 0)) (by (with_reducible repeat (first | refine blk_drewN ?_ _ | refine blk_drew ?_ | refine blk_alloc ?_ _)); exact BK301.out)) : gb301 ≠ gb302)); have n6_ := Aside0.mk ((by rw [hg]; exact Nat.ne_of_gt (blk_lt (g := gb301) (o := .cells #[.int .i64 a0_0, .slice A0_1 l0_1.length c0_1, .slice A0_2 l0_2.length c0_2, .slice A0_3 l0_3.length c0_3] 26 (0, 0)) (by (with_reducible repeat (first | refine blk_drewN ?_ _ | refine blk_drew ?_ | refine blk_alloc ?_ _)); exact BK301.out)) : gb302 ≠ gb301)); clear BK301; clear HB; have BK301 := n0_; have HB := n1_; have BK302 := n2_; have GW302 := n3_; have GE302 := n4_; have NB301_302 := n5_; have NB302_301 := n6_; clear n0_ n1_ n2_ n3_ n4_ n5_ n6_; clear hb hbox hg; have hnb6 := NB301_302.out; have hnc6 := NB302_301.out; have hcz7_0 : w5.cell? ⟨gb301, 0, none⟩ = some (.int .i64 a0_0) := (blk_cell BK301.out 0).trans rfl; have hcz7_1 : w5.cell? ⟨gb301, 1, none⟩ = some (.slice A0_1 l0_1.length c0_1) := (blk_cell BK301.out 1).trans rfl; have hcz7_2 : w5.cell? ⟨gb301, 2, none⟩ = some (.slice A0_2 l0_2.length c0_2) := (blk_cell BK301.out 2).trans rfl; have hcz7_3 : w5.cell? ⟨gb301, 3, none⟩ = some (.slice A0_3 l0_3.length c0_3) := (blk_cell BK301.out 3).trans rfl; have hfz7_0 := blk_frozen BK301.out 0; have hfz7_1 := blk_frozen BK301.out 1; have hfz7_2 := blk_frozen BK301.out 2; have hfz7_3 := blk_frozen BK301.out 3; have hcz8_0 : w5.cell? ⟨gb302, 0, none⟩ = some (.slice A1_0 l1_0.length c1_0) := (blk_cell BK302.out 0).trans rfl; have hcz8_1 : w5.cell? ⟨gb302, 1, none⟩ = some (.int .i64 a1_1) := (blk_cell BK302.out 1).trans rfl; have hcz8_2 : w5.cell? ⟨gb302, 2, none⟩ = some (.int .i64 a1_2) := (blk_cell BK302.out 2).trans rfl; have hcz8_3 : w5.cell? ⟨gb302, 3, none⟩ = some (.int .i64 a1_3) := (blk_cell BK302.out 3).trans rfl; have hfz8_0 := blk_frozen BK302.out 0; have hfz8_1 := blk_frozen BK302.out 1; have hfz8_2 := blk_frozen BK302.out 2; have hfz8_3 := blk_frozen BK302.out 3)); try go_wp2_with (first | ((with_reducible refine gate_dst (N := 2) rfl ?_); (try (refine gate_guard (by rfl) ?_; dsimp only)); refine box_event ?hg (N := 2) ?hd (cs := #[.int .i64 a0_0, .slice A0_1 l0_1.length c0_1, .slice A0_2 l0_2.length c0_2, .slice A0_3 l0_3.length c0_3]) (t := 26) ?hr ?_; (case hd => rfl); (case hg => rfl); (case hr => first | (go_simp; done) | (go_simp; rfl)); intro gb301 hg w4 hbox hb; have n0_ := Aside0.mk (below_step (by repeat (first | (with_reducible first | exact HB.out | apply below_alloc | apply pw_below_drewN | apply below_drew1) | exact HB.out)) hb); have n1_ := Aside0.mk (hbox); have n2_ := Aside0.mk ((by rw [hg]; exact (below_size (by repeat (first | (with_reducible first | exact HB.out | apply below_alloc | apply pw_below_drewN | apply below_drew1) | exact HB.out))) : w.heap.size ≤ gb301)); have n3_ := Aside0.mk ((by rw [hg]; exact (below_size (by repeat (first | (with_reducible first | exact HB.out | apply below_alloc | apply pw_below_drewN | apply below_drew1) | exact HB.out))) : w.heap.size ≤ gb301)); clear HB; have HB := n0_; have BK301 := n1_; have GW301 := n2_; have GE301 := n3_; clear n0_ n1_ n2_ n3_; clear hb hbox hg) | ((with_reducible refine gate_dst (N := 3) rfl ?_); (try (refine gate_guard (by rfl) ?_; dsimp only)); refine box_event ?hg (N := 3) ?hd (cs := #[.slice A1_0 l1_0.length c1_0, .int .i64 a1_1, .int .i64 a1_2, .int .i64 a1_3]) (t := 66) ?hr ?_; (case hd => rfl); (case hg => rfl); (case hr => first | (go_simp; done) | (go_simp; rfl)); intro gb302 hg w5 hbox hb; have n0_ := Aside0.mk (blk_below (g := gb301) (o := .cells #[.int .i64 a0_0, .slice A0_1 l0_1.length c0_1, .slice A0_2 l0_2.length c0_2, .slice A0_3 l0_3.length c0_3] 26 (0, 0)) (by (with_reducible repeat (first | refine blk_drewN ?_ _ | refine blk_drew ?_ | refine blk_alloc ?_ _)); exact BK301.out) hb); have n1_ := Aside0.mk (below_step (by repeat (first | (with_reducible first | exact HB.out | apply below_alloc | apply pw_below_drewN | apply below_drew1 | refine below_set ?_ GE301.out) | exact HB.out)) hb); have n2_ := Aside0.mk (hbox); have n3_ := Aside0.mk ((by rw [hg]; exact (below_size (by repeat (first | (with_reducible first | exact HB.out | apply below_alloc | apply pw_below_drewN | apply below_drew1 | refine below_set ?_ GE301.out) | exact HB.out))) : w.heap.size ≤ gb302)); have n4_ := Aside0.mk ((by rw [hg]; exact (below_size (by repeat (first | (with_reducible first | exact HB.out | apply below_alloc | apply pw_below_drewN | apply below_drew1 | refine below_set ?_ GE301.out) | exact HB.out))) : w.heap.size ≤ gb302)); have n5_ := Aside0.mk ((by rw [hg]; exact Nat.ne_of_lt (blk_lt (g := gb301) (o := .cells #[.int .i64 a0_0, .slice A0_1 l0_1.length c0_1, .slice A0_2 l0_2.length c0_2, .slice A0_3 l0_3.length c0_3] 26 (0, 0)) (by (with_reducible repeat (first | refine blk_drewN ?_ _ | refine blk_drew ?_ | refine blk_alloc ?_ _)); exact BK301.out)) : gb301 ≠ gb302)); have n6_ := Aside0.mk ((by rw [hg]; exact Nat.ne_of_gt (blk_lt (g := gb301) (o := .cells #[.int .i64 a0_0, .slice A0_1 l0_1.length c0_1, .slice A0_2 l0_2.length c0_2, .slice A0_3 l0_3.length c0_3] 26 (0, 0)) (by (with_reducible repeat (first | refine blk_drewN ?_ _ | refine blk_drew ?_ | refine blk_alloc ?_ _)); exact BK301.out)) : gb302 ≠ gb301)); clear BK301; clear HB; have BK301 := n0_; have HB := n1_; have BK302 := n2_; have GW302 := n3_; have GE302 := n4_; have NB301_302 := n5_; have NB302_301 := n6_; clear n0_ n1_ n2_ n3_ n4_ n5_ n6_; clear hb hbox hg; have hnb6 := NB301_302.out; have hnc6 := NB302_301.out; have hcz7_0 : w5.cell? ⟨gb301, 0, none⟩ = some (.int .i64 a0_0) := (blk_cell BK301.out 0).trans rfl; have hcz7_1 : w5.cell? ⟨gb301, 1, none⟩ = some (.slice A0_1 l0_1.length c0_1) := (blk_cell BK301.out 1).trans rfl; have hcz7_2 : w5.cell? ⟨gb301, 2, none⟩ = some (.slice A0_2 l0_2.length c0_2) := (blk_cell BK301.out 2).trans rfl; have hcz7_3 : w5.cell? ⟨gb301, 3, none⟩ = some (.slice A0_3 l0_3.length c0_3) := (blk_cell BK301.out 3).trans rfl; have hfz7_0 := blk_frozen BK301.out 0; have hfz7_1 := blk_frozen BK301.out 1; have hfz7_2 := blk_frozen BK301.out 2; have hfz7_3 := blk_frozen BK301.out 3; have hcz8_0 : w5.cell? ⟨gb302, 0, none⟩ = some (.slice A1_0 l1_0.length c1_0) := (blk_cell BK302.out 0).trans rfl; have hcz8_1 : w5.cell? ⟨gb302, 1, none⟩ = some (.int .i64 a1_1) := (blk_cell BK302.out 1).trans rfl; have hcz8_2 : w5.cell? ⟨gb302, 2, none⟩ = some (.int .i64 a1_2) := (blk_cell BK302.out 2).trans rfl; have hcz8_3 : w5.cell? ⟨gb302, 3, none⟩ = some (.int .i64 a1_3) := (blk_cell BK302.out 3).trans rfl; have hfz8_0 := blk_frozen BK302.out 0; have hfz8_1 := blk_frozen BK302.out 1; have hfz8_2 := blk_frozen BK302.out 2; have hfz8_3 := blk_frozen BK302.out 3)))
  go_loopg [5] k (fun kq v5 w' => ∃ (x5_1 : Int), v5 = .int .i64 x5_1 ∧ Aside0 (dioramaref08_Check.l0 kq x5_1 a0_0 l0_1 l0_2 l0_3 l1_0 a1_1 a1_2 a1_3 = some r) ∧ Aside0 (kq ≤ k) ∧ Aside0 (w'.heap[gb301]? = some (.cells #[.int .i64 a0_0, (.slice A0_1 l0_1.length c0_1), (.slice A0_2 l0_2.length c0_2), (.slice A0_3 l0_3.length c0_3)] 26 (0, 0))) ∧ Aside0 (w'.heap[gb302]? = some (.cells #[(.slice A1_0 l1_0.length c1_0), .int .i64 a1_1, .int .i64 a1_2, .int .i64 a1_3] 66 (0, 0))) ∧ Aside0 (Below w.heap.size w w'))
  case atStart => exact ⟨(0), (by first | rfl | (simp; done) | (simp [*]; done)), H', ⟨Nat.le_refl _⟩, ⟨by (with_reducible repeat (first | refine blk_drewN ?_ _ | refine blk_drew ?_ | refine blk_alloc ?_ _)); exact BK301.out⟩, ⟨by (with_reducible repeat (first | refine blk_drewN ?_ _ | refine blk_drew ?_ | refine blk_alloc ?_ _)); exact BK302.out⟩, ⟨by repeat (first | (with_reducible first | exact HB.out | apply below_alloc | apply pw_below_drewN | apply below_drew1 | refine below_set ?_ GE301.out | refine below_set ?_ GE302.out) | exact HB.out)⟩⟩
  case round =>
   clear H'
   try clear c1
   try clear p2
   try clear c3
   try clear c3b0
   try clear c3b1
   try clear c3b2
   try clear c4
   try clear c6
   try clear hcz7_0
   try clear hcz7_1
   try clear hcz7_2
   try clear hcz7_3
   try clear hcz8_0
   try clear hcz8_1
   try clear hcz8_2
   try clear hcz8_3
   try clear hfz7_0
   try clear hfz7_1
   try clear hfz7_2
   try clear hfz7_3
   try clear hfz8_0
   try clear hfz8_1
   try clear hfz8_2
   try clear hfz8_3
   obtain ⟨x5_1, rfl, HA, HK1, BK301, BK302, HB⟩ := hrel
   cases gk with
   | zero => exact absurd HA.out (by simp [dioramaref08_Check.l0])
   | succ k1 =>
    have H := HA.out
    clear HA
    simp only [dioramaref08_Check.l0] at H
    by_cases c9 : x5_1 < (l0_1.length : Int)
    ·rw [if_pos c9] at H
     have c9b0 : decide (x5_1 < (l0_1.length : Int)) = true := decide_eq_true c9
     clear c9
     by_cases c10 : 0 ≤ x5_1
     ·rw [if_pos c10] at H
      have c10b0 : decide (0 ≤ x5_1) = true := decide_eq_true c10
      clear c10
      by_cases c11 : x5_1 < (l1_0.length : Int)
      ·rw [if_pos c11] at H
       have c11b0 : decide (x5_1 < (l1_0.length : Int)) = true := decide_eq_true c11
       clear c11
       replace H := Option.bind_eq_some_iff.mp H
       obtain ⟨t305, A120, H⟩ := H
       replace H : (if t305 = true then (dioramaref08_Check.l0 k1 (wrap64 (x5_1 + 1)) a0_0 l0_1 l0_2 l0_3 l1_0 a1_1 a1_2 a1_3) else (some 10)) = some r := H
       have A12 := Aside0.mk A120
       clear A120
       by_cases c13 : t305 = true
       ·subst c13
        have H1 : (dioramaref08_Check.l0 k1 (wrap64 (x5_1 + 1)) a0_0 l0_1 l0_2 l0_3 l1_0 a1_1 a1_2 a1_3) = some r := by rw [if_pos rfl] at H; exact H
        clear H
        have H := H1
        clear H1
        have H' := Aside0.mk H
        clear H
        have hnb14 := NB301_302.out
        have hnc14 := NB302_301.out
        have hcz15_0 : wr.cell? ⟨gb301, 0, none⟩ = some (.int .i64 a0_0) := (blk_cell BK301.out 0).trans rfl
        have hcz15_1 : wr.cell? ⟨gb301, 1, none⟩ = some (.slice A0_1 l0_1.length c0_1) := (blk_cell BK301.out 1).trans rfl
        have hcz15_2 : wr.cell? ⟨gb301, 2, none⟩ = some (.slice A0_2 l0_2.length c0_2) := (blk_cell BK301.out 2).trans rfl
        have hcz15_3 : wr.cell? ⟨gb301, 3, none⟩ = some (.slice A0_3 l0_3.length c0_3) := (blk_cell BK301.out 3).trans rfl
        have hfz15_0 := blk_frozen BK301.out 0
        have hfz15_1 := blk_frozen BK301.out 1
        have hfz15_2 := blk_frozen BK301.out 2
        have hfz15_3 := blk_frozen BK301.out 3
        have hcz16_0 : wr.cell? ⟨gb302, 0, none⟩ = some (.slice A1_0 l1_0.length c1_0) := (blk_cell BK302.out 0).trans rfl
        have hcz16_1 : wr.cell? ⟨gb302, 1, none⟩ = some (.int .i64 a1_1) := (blk_cell BK302.out 1).trans rfl
        have hcz16_2 : wr.cell? ⟨gb302, 2, none⟩ = some (.int .i64 a1_2) := (blk_cell BK302.out 2).trans rfl
        have hcz16_3 : wr.cell? ⟨gb302, 3, none⟩ = some (.int .i64 a1_3) := (blk_cell BK302.out 3).trans rfl
        have hfz16_0 := blk_frozen BK302.out 0
        have hfz16_1 := blk_frozen BK302.out 1
        have hfz16_2 := blk_frozen BK302.out 2
        have hfz16_3 := blk_frozen BK302.out 3
        have p303 : 0 ≤ (x5_1 : Int) := of_decide_eq_true (by first | (with_reducible assumption) | assumption)
        have q303 : x5_1 < (l1_0.length : Int) := of_decide_eq_true (by first | (with_reducible assumption) | assumption)
        obtain ⟨ad303, e303, hx303_0⟩ := Kd.at_int HR1_0.out x5_1 p303 q303
        cases e303
        replace hx303_0 := (HB.out.cell (World.block_lt_of_cell? w _ hx303_0)).trans hx303_0
        replace p303 := eq_true p303
        replace q303 := eq_true q303
        have p304 : 0 ≤ (x5_1 : Int) := of_decide_eq_true (by first | (with_reducible assumption) | assumption)
        have q304 : x5_1 < (l0_1.length : Int) := of_decide_eq_true (by first | (with_reducible assumption) | assumption)
        obtain ⟨ad304, e304, hx304_0⟩ := Kd.at_int HR0_1.out x5_1 p304 q304
        cases e304
        replace hx304_0 := (HB.out.cell (World.block_lt_of_cell? w _ hx304_0)).trans hx304_0
        replace p304 := eq_true p304
        replace q304 := eq_true q304
        go_wp2_with (first | (go_at_call 81; (with_reducible refine (dioramaref07_In.calls (rd l1_0 x5_1) (rd l0_1 x5_1) true _ A12.out).mono ?_); rintro e w' ⟨rfl, ⟨nd, rfl⟩⟩; (try first | exact ⟨rfl, _, World.drewN_drewN _ _ _⟩ | exact ⟨rfl, _, Eq.trans (World.drewN_drewN _ _ _) (congrArg (World.drewN _) (Nat.add_assoc _ _ _))⟩)))
        repeat (go_quiet (first | (go_at_call 81; (with_reducible refine (dioramaref07_In.calls (rd l1_0 x5_1) (rd l0_1 x5_1) true _ A12.out).mono ?_); rintro e w' ⟨rfl, ⟨nd, rfl⟩⟩; (try first | exact ⟨rfl, _, World.drewN_drewN _ _ _⟩ | exact ⟨rfl, _, Eq.trans (World.drewN_drewN _ _ _) (congrArg (World.drewN _) (Nat.add_assoc _ _ _))⟩))); try go_wp2_with (first | (go_at_call 81; (with_reducible refine (dioramaref07_In.calls (rd l1_0 x5_1) (rd l0_1 x5_1) true _ A12.out).mono ?_); rintro e w' ⟨rfl, ⟨nd, rfl⟩⟩; (try first | exact ⟨rfl, _, World.drewN_drewN _ _ _⟩ | exact ⟨rfl, _, Eq.trans (World.drewN_drewN _ _ _) (congrArg (World.drewN _) (Nat.add_assoc _ _ _))⟩))))
        go_roundg k1
        case measure => have := HK1.out; omega
        case rel => exact ⟨(wrap64 (x5_1 + 1)), (by first | rfl | (simp; done) | (simp [*]; done)), H', ⟨by have := HK1.out; omega⟩, ⟨by (with_reducible repeat (first | refine blk_drewN ?_ _ | refine blk_drew ?_ | refine blk_alloc ?_ _)); exact BK301.out⟩, ⟨by (with_reducible repeat (first | refine blk_drewN ?_ _ | refine blk_drew ?_ | refine blk_alloc ?_ _)); exact BK302.out⟩, ⟨by repeat (first | (with_reducible first | exact HB.out | apply below_alloc | apply pw_below_drewN | apply below_drew1 | refine below_set ?_ GE301.out | refine below_set ?_ GE302.out) | exact HB.out)⟩⟩
       ·replace c13 := Bool.eq_false_iff.mpr c13
        subst c13
        have H1 : (some 10) = some r := by rw [if_neg (show ¬ (false = true) by decide)] at H; exact H
        clear H
        have H := H1
        clear H1
        obtain rfl := Option.some.inj H
        have hnb17 := NB301_302.out
        have hnc17 := NB302_301.out
        have hcz18_0 : wr.cell? ⟨gb301, 0, none⟩ = some (.int .i64 a0_0) := (blk_cell BK301.out 0).trans rfl
        have hcz18_1 : wr.cell? ⟨gb301, 1, none⟩ = some (.slice A0_1 l0_1.length c0_1) := (blk_cell BK301.out 1).trans rfl
        have hcz18_2 : wr.cell? ⟨gb301, 2, none⟩ = some (.slice A0_2 l0_2.length c0_2) := (blk_cell BK301.out 2).trans rfl
        have hcz18_3 : wr.cell? ⟨gb301, 3, none⟩ = some (.slice A0_3 l0_3.length c0_3) := (blk_cell BK301.out 3).trans rfl
        have hfz18_0 := blk_frozen BK301.out 0
        have hfz18_1 := blk_frozen BK301.out 1
        have hfz18_2 := blk_frozen BK301.out 2
        have hfz18_3 := blk_frozen BK301.out 3
        have hcz19_0 : wr.cell? ⟨gb302, 0, none⟩ = some (.slice A1_0 l1_0.length c1_0) := (blk_cell BK302.out 0).trans rfl
        have hcz19_1 : wr.cell? ⟨gb302, 1, none⟩ = some (.int .i64 a1_1) := (blk_cell BK302.out 1).trans rfl
        have hcz19_2 : wr.cell? ⟨gb302, 2, none⟩ = some (.int .i64 a1_2) := (blk_cell BK302.out 2).trans rfl
        have hcz19_3 : wr.cell? ⟨gb302, 3, none⟩ = some (.int .i64 a1_3) := (blk_cell BK302.out 3).trans rfl
        have hfz19_0 := blk_frozen BK302.out 0
        have hfz19_1 := blk_frozen BK302.out 1
        have hfz19_2 := blk_frozen BK302.out 2
        have hfz19_3 := blk_frozen BK302.out 3
        have p303 : 0 ≤ (x5_1 : Int) := of_decide_eq_true (by first | (with_reducible assumption) | assumption)
        have q303 : x5_1 < (l1_0.length : Int) := of_decide_eq_true (by first | (with_reducible assumption) | assumption)
        obtain ⟨ad303, e303, hx303_0⟩ := Kd.at_int HR1_0.out x5_1 p303 q303
        cases e303
        replace hx303_0 := (HB.out.cell (World.block_lt_of_cell? w _ hx303_0)).trans hx303_0
        replace p303 := eq_true p303
        replace q303 := eq_true q303
        have p304 : 0 ≤ (x5_1 : Int) := of_decide_eq_true (by first | (with_reducible assumption) | assumption)
        have q304 : x5_1 < (l0_1.length : Int) := of_decide_eq_true (by first | (with_reducible assumption) | assumption)
        obtain ⟨ad304, e304, hx304_0⟩ := Kd.at_int HR0_1.out x5_1 p304 q304
        cases e304
        replace hx304_0 := (HB.out.cell (World.block_lt_of_cell? w _ hx304_0)).trans hx304_0
        replace p304 := eq_true p304
        replace q304 := eq_true q304
        go_wp2_with (first | (go_at_call 81; (with_reducible refine (dioramaref07_In.calls (rd l1_0 x5_1) (rd l0_1 x5_1) false _ A12.out).mono ?_); rintro e w' ⟨rfl, ⟨nd, rfl⟩⟩; (try first | exact ⟨rfl, _, World.drewN_drewN _ _ _⟩ | exact ⟨rfl, _, Eq.trans (World.drewN_drewN _ _ _) (congrArg (World.drewN _) (Nat.add_assoc _ _ _))⟩)))
        repeat (go_quiet (first | (go_at_call 81; (with_reducible refine (dioramaref07_In.calls (rd l1_0 x5_1) (rd l0_1 x5_1) false _ A12.out).mono ?_); rintro e w' ⟨rfl, ⟨nd, rfl⟩⟩; (try first | exact ⟨rfl, _, World.drewN_drewN _ _ _⟩ | exact ⟨rfl, _, Eq.trans (World.drewN_drewN _ _ _) (congrArg (World.drewN _) (Nat.add_assoc _ _ _))⟩))); try go_wp2_with (first | (go_at_call 81; (with_reducible refine (dioramaref07_In.calls (rd l1_0 x5_1) (rd l0_1 x5_1) false _ A12.out).mono ?_); rintro e w' ⟨rfl, ⟨nd, rfl⟩⟩; (try first | exact ⟨rfl, _, World.drewN_drewN _ _ _⟩ | exact ⟨rfl, _, Eq.trans (World.drewN_drewN _ _ _) (congrArg (World.drewN _) (Nat.add_assoc _ _ _))⟩))))
        go_ret
        exact ⟨by first | rfl | (simp [errW_none, errW_some] <;> rfl) | (simp [*, errW_none, errW_some] <;> rfl), by repeat (first | (with_reducible first | exact HB.out | apply below_alloc | apply pw_below_drewN | apply below_drew1 | refine below_set ?_ GE301.out | refine below_set ?_ GE302.out) | exact HB.out)⟩
      ·rw [if_neg c11] at H
       exact absurd H (by simp)
     ·rw [if_neg c10] at H
      exact absurd H (by simp)
    ·rw [if_neg c9] at H
     have c9b0 : decide (x5_1 < (l0_1.length : Int)) = false := decide_eq_false c9
     clear c9
     by_cases c20 : (l0_2.length : Int) = a1_1
     ·rw [if_pos c20] at H
      have c20b0 : ((l0_2.length : Int) == a1_1) = true := beq_iff_eq.mpr c20
      have c20b1 : ((l0_2.length : Int) != a1_1) = false := bne_eq_false_iff_eq.mpr c20
      clear c20
      have H' := Aside0.mk H
      clear H
      have hnb21 := NB301_302.out
      have hnc21 := NB302_301.out
      have hcz22_0 : wr.cell? ⟨gb301, 0, none⟩ = some (.int .i64 a0_0) := (blk_cell BK301.out 0).trans rfl
      have hcz22_1 : wr.cell? ⟨gb301, 1, none⟩ = some (.slice A0_1 l0_1.length c0_1) := (blk_cell BK301.out 1).trans rfl
      have hcz22_2 : wr.cell? ⟨gb301, 2, none⟩ = some (.slice A0_2 l0_2.length c0_2) := (blk_cell BK301.out 2).trans rfl
      have hcz22_3 : wr.cell? ⟨gb301, 3, none⟩ = some (.slice A0_3 l0_3.length c0_3) := (blk_cell BK301.out 3).trans rfl
      have hfz22_0 := blk_frozen BK301.out 0
      have hfz22_1 := blk_frozen BK301.out 1
      have hfz22_2 := blk_frozen BK301.out 2
      have hfz22_3 := blk_frozen BK301.out 3
      have hcz23_0 : wr.cell? ⟨gb302, 0, none⟩ = some (.slice A1_0 l1_0.length c1_0) := (blk_cell BK302.out 0).trans rfl
      have hcz23_1 : wr.cell? ⟨gb302, 1, none⟩ = some (.int .i64 a1_1) := (blk_cell BK302.out 1).trans rfl
      have hcz23_2 : wr.cell? ⟨gb302, 2, none⟩ = some (.int .i64 a1_2) := (blk_cell BK302.out 2).trans rfl
      have hcz23_3 : wr.cell? ⟨gb302, 3, none⟩ = some (.int .i64 a1_3) := (blk_cell BK302.out 3).trans rfl
      have hfz23_0 := blk_frozen BK302.out 0
      have hfz23_1 := blk_frozen BK302.out 1
      have hfz23_2 := blk_frozen BK302.out 2
      have hfz23_3 := blk_frozen BK302.out 3
      go_wp2
      repeat (go_quiet (fail); try go_wp2)
      go_loopg [6] k1 (fun kq v6 w' => ∃ (x6_2 : Int), v6 = .int .i64 x6_2 ∧ Aside0 (dioramaref08_Check.l1 kq x6_2 a0_0 l0_1 l0_2 l0_3 l1_0 a1_1 a1_2 a1_3 = some r) ∧ Aside0 (kq ≤ k1) ∧ Aside0 (w'.heap[gb301]? = some (.cells #[.int .i64 a0_0, (.slice A0_1 l0_1.length c0_1), (.slice A0_2 l0_2.length c0_2), (.slice A0_3 l0_3.length c0_3)] 26 (0, 0))) ∧ Aside0 (w'.heap[gb302]? = some (.cells #[(.slice A1_0 l1_0.length c1_0), .int .i64 a1_1, .int .i64 a1_2, .int .i64 a1_3] 66 (0, 0))) ∧ Aside0 (Below w.heap.size w w'))
      case atStart => exact ⟨(0), (by first | rfl | (simp; done) | (simp [*]; done)), H', ⟨Nat.le_refl _⟩, ⟨by (with_reducible repeat (first | refine blk_drewN ?_ _ | refine blk_drew ?_ | refine blk_alloc ?_ _)); exact BK301.out⟩, ⟨by (with_reducible repeat (first | refine blk_drewN ?_ _ | refine blk_drew ?_ | refine blk_alloc ?_ _)); exact BK302.out⟩, ⟨by repeat (first | (with_reducible first | exact HB.out | apply below_alloc | apply pw_below_drewN | apply below_drew1 | refine below_set ?_ GE301.out | refine below_set ?_ GE302.out) | exact HB.out)⟩⟩
      case round =>
       clear H'
       try clear c1
       try clear c2
       try clear p2
       try clear c3
       try clear c3b0
       try clear c3b1
       try clear c3b2
       try clear p3
       try clear q3
       try clear hx3
       try clear c4
       try clear c6
       try clear p6
       try clear c9
       try clear c9b0
       try clear c10
       try clear c10b0
       try clear c11
       try clear c11b0
       try clear c13
       try clear c14
       try clear c17
       try clear c20
       try clear c20b0
       try clear c20b1
       try clear c21
       try clear hcz15_0
       try clear hcz15_1
       try clear hcz15_2
       try clear hcz15_3
       try clear hcz16_0
       try clear hcz16_1
       try clear hcz16_2
       try clear hcz16_3
       try clear hcz18_0
       try clear hcz18_1
       try clear hcz18_2
       try clear hcz18_3
       try clear hcz19_0
       try clear hcz19_1
       try clear hcz19_2
       try clear hcz19_3
       try clear hcz22_0
       try clear hcz22_1
       try clear hcz22_2
       try clear hcz22_3
       try clear hcz23_0
       try clear hcz23_1
       try clear hcz23_2
       try clear hcz23_3
       try clear hcz7_0
       try clear hcz7_1
       try clear hcz7_2
       try clear hcz7_3
       try clear hcz8_0
       try clear hcz8_1
       try clear hcz8_2
       try clear hcz8_3
       try clear hfz15_0
       try clear hfz15_1
       try clear hfz15_2
       try clear hfz15_3
       try clear hfz16_0
       try clear hfz16_1
       try clear hfz16_2
       try clear hfz16_3
       try clear hfz18_0
       try clear hfz18_1
       try clear hfz18_2
       try clear hfz18_3
       try clear hfz19_0
       try clear hfz19_1
       try clear hfz19_2
       try clear hfz19_3
       try clear hfz22_0
       try clear hfz22_1
       try clear hfz22_2
       try clear hfz22_3
       try clear hfz23_0
       try clear hfz23_1
       try clear hfz23_2
       try clear hfz23_3
       try clear hfz7_0
       try clear hfz7_1
       try clear hfz7_2
       try clear hfz7_3
       try clear hfz8_0
       try clear hfz8_1
       try clear hfz8_2
       try clear hfz8_3
       try clear hx303_0
       try clear hx304_0
       try clear p2
       try clear p303
       try clear p304
       try clear q303
       try clear q304
       obtain ⟨x6_2, rfl, HA, HK2, BK301, BK302, HB⟩ := hrel
       cases gk with
       | zero => exact absurd HA.out (by simp [dioramaref08_Check.l1])
       | succ k2 =>
        have H := HA.out
        clear HA
        simp only [dioramaref08_Check.l1] at H
        by_cases c24 : x6_2 < (l0_2.length : Int)
        ·rw [if_pos c24] at H
         have c24b0 : decide (x6_2 < (l0_2.length : Int)) = true := decide_eq_true c24
         clear c24
         by_cases c25 : 0 ≤ x6_2
         ·rw [if_pos c25] at H
          have c25b0 : decide (0 ≤ x6_2) = true := decide_eq_true c25
          clear c25
          replace H := Option.bind_eq_some_iff.mp H
          obtain ⟨t307, A260, H⟩ := H
          replace H : (if t307 = true then (dioramaref08_Check.l1 k2 (wrap64 (x6_2 + 1)) a0_0 l0_1 l0_2 l0_3 l1_0 a1_1 a1_2 a1_3) else (some 11)) = some r := H
          have A26 := Aside0.mk A260
          clear A260
          by_cases c27 : t307 = true
          ·subst c27
           have H1 : (dioramaref08_Check.l1 k2 (wrap64 (x6_2 + 1)) a0_0 l0_1 l0_2 l0_3 l1_0 a1_1 a1_2 a1_3) = some r := by rw [if_pos rfl] at H; exact H
           clear H
           have H := H1
           clear H1
           have H' := Aside0.mk H
           clear H
           have hnb28 := NB301_302.out
           have hnc28 := NB302_301.out
           have hcz29_0 : wr.cell? ⟨gb301, 0, none⟩ = some (.int .i64 a0_0) := (blk_cell BK301.out 0).trans rfl
           have hcz29_1 : wr.cell? ⟨gb301, 1, none⟩ = some (.slice A0_1 l0_1.length c0_1) := (blk_cell BK301.out 1).trans rfl
           have hcz29_2 : wr.cell? ⟨gb301, 2, none⟩ = some (.slice A0_2 l0_2.length c0_2) := (blk_cell BK301.out 2).trans rfl
           have hcz29_3 : wr.cell? ⟨gb301, 3, none⟩ = some (.slice A0_3 l0_3.length c0_3) := (blk_cell BK301.out 3).trans rfl
           have hfz29_0 := blk_frozen BK301.out 0
           have hfz29_1 := blk_frozen BK301.out 1
           have hfz29_2 := blk_frozen BK301.out 2
           have hfz29_3 := blk_frozen BK301.out 3
           have p306 : 0 ≤ (x6_2 : Int) := of_decide_eq_true (by first | (with_reducible assumption) | assumption)
           have q306 : x6_2 < (l0_2.length : Int) := of_decide_eq_true (by first | (with_reducible assumption) | assumption)
           obtain ⟨ad306, e306, hx306_0⟩ := Kd.at_string HR0_2.out x6_2 p306 q306
           cases e306
           replace hx306_0 := (HB.out.cell (World.block_lt_of_cell? w _ hx306_0)).trans hx306_0
           replace p306 := eq_true p306
           replace q306 := eq_true q306
           go_wp2_with (first | (go_at_call 82; (with_reducible refine (dioramaref05_Right.calls k2 (rdOf ByteArray.empty l0_2 x6_2) true _ A26.out).mono ?_); rintro e w30 ⟨rfl, hb⟩; have n0_ := Aside0.mk (blk_below (g := gb301) (o := .cells #[.int .i64 a0_0, .slice A0_1 l0_1.length c0_1, .slice (some ad306) l0_2.length c0_2, .slice A0_3 l0_3.length c0_3] 26 (0, 0)) (by (with_reducible repeat (first | refine blk_drewN ?_ _ | refine blk_drew ?_ | refine blk_alloc ?_ _)); exact BK301.out) hb); have n1_ := Aside0.mk (blk_below (g := gb302) (o := .cells #[.slice A1_0 l1_0.length c1_0, .int .i64 a1_1, .int .i64 a1_2, .int .i64 a1_3] 66 (0, 0)) (by (with_reducible repeat (first | refine blk_drewN ?_ _ | refine blk_drew ?_ | refine blk_alloc ?_ _)); exact BK302.out) hb); have n2_ := Aside0.mk (below_step (by repeat (first | (with_reducible first | exact HB.out | apply below_alloc | apply pw_below_drewN | apply below_drew1 | refine below_set ?_ GE301.out | refine below_set ?_ GE302.out) | exact HB.out)) hb); clear BK301; clear BK302; clear HB; have BK301 := n0_; have BK302 := n1_; have HB := n2_; clear n0_ n1_ n2_; (try clear hb); (try clear hb2); (try clear hk); (try clear hi)))
           repeat (go_quiet (first | (go_at_call 82; (with_reducible refine (dioramaref05_Right.calls k2 (rdOf ByteArray.empty l0_2 x6_2) true _ A26.out).mono ?_); rintro e w30 ⟨rfl, hb⟩; have n0_ := Aside0.mk (blk_below (g := gb301) (o := .cells #[.int .i64 a0_0, .slice A0_1 l0_1.length c0_1, .slice (some ad306) l0_2.length c0_2, .slice A0_3 l0_3.length c0_3] 26 (0, 0)) (by (with_reducible repeat (first | refine blk_drewN ?_ _ | refine blk_drew ?_ | refine blk_alloc ?_ _)); exact BK301.out) hb); have n1_ := Aside0.mk (blk_below (g := gb302) (o := .cells #[.slice A1_0 l1_0.length c1_0, .int .i64 a1_1, .int .i64 a1_2, .int .i64 a1_3] 66 (0, 0)) (by (with_reducible repeat (first | refine blk_drewN ?_ _ | refine blk_drew ?_ | refine blk_alloc ?_ _)); exact BK302.out) hb); have n2_ := Aside0.mk (below_step (by repeat (first | (with_reducible first | exact HB.out | apply below_alloc | apply pw_below_drewN | apply below_drew1 | refine below_set ?_ GE301.out | refine below_set ?_ GE302.out) | exact HB.out)) hb); clear BK301; clear BK302; clear HB; have BK301 := n0_; have BK302 := n1_; have HB := n2_; clear n0_ n1_ n2_; (try clear hb); (try clear hb2); (try clear hk); (try clear hi))); try go_wp2_with (first | (go_at_call 82; (with_reducible refine (dioramaref05_Right.calls k2 (rdOf ByteArray.empty l0_2 x6_2) true _ A26.out).mono ?_); rintro e w30 ⟨rfl, hb⟩; have n0_ := Aside0.mk (blk_below (g := gb301) (o := .cells #[.int .i64 a0_0, .slice A0_1 l0_1.length c0_1, .slice (some ad306) l0_2.length c0_2, .slice A0_3 l0_3.length c0_3] 26 (0, 0)) (by (with_reducible repeat (first | refine blk_drewN ?_ _ | refine blk_drew ?_ | refine blk_alloc ?_ _)); exact BK301.out) hb); have n1_ := Aside0.mk (blk_below (g := gb302) (o := .cells #[.slice A1_0 l1_0.length c1_0, .int .i64 a1_1, .int .i64 a1_2, .int .i64 a1_3] 66 (0, 0)) (by (with_reducible repeat (first | refine blk_drewN ?_ _ | refine blk_drew ?_ | refine blk_alloc ?_ _)); exact BK302.out) hb); have n2_ := Aside0.mk (below_step (by repeat (first | (with_reducible first | exact HB.out | apply below_alloc | apply pw_below_drewN | apply below_drew1 | refine below_set ?_ GE301.out | refine below_set ?_ GE302.out) | exact HB.out)) hb); clear BK301; clear BK302; clear HB; have BK301 := n0_; have BK302 := n1_; have HB := n2_; clear n0_ n1_ n2_; (try clear hb); (try clear hb2); (try clear hk); (try clear hi))))
           go_roundg k2
           case measure => have := HK1.out; have := HK2.out; omega
           case rel => exact ⟨(wrap64 (x6_2 + 1)), (by first | rfl | (simp; done) | (simp [*]; done)), H', ⟨by have := HK1.out; have := HK2.out; omega⟩, ⟨by (with_reducible repeat (first | refine blk_drewN ?_ _ | refine blk_drew ?_ | refine blk_alloc ?_ _)); exact BK301.out⟩, ⟨by (with_reducible repeat (first | refine blk_drewN ?_ _ | refine blk_drew ?_ | refine blk_alloc ?_ _)); exact BK302.out⟩, ⟨by repeat (first | (with_reducible first | exact HB.out | apply below_alloc | apply pw_below_drewN | apply below_drew1 | refine below_set ?_ GE301.out | refine below_set ?_ GE302.out) | exact HB.out)⟩⟩
          ·replace c27 := Bool.eq_false_iff.mpr c27
           subst c27
           have H1 : (some 11) = some r := by rw [if_neg (show ¬ (false = true) by decide)] at H; exact H
           clear H
           have H := H1
           clear H1
           obtain rfl := Option.some.inj H
           have hnb31 := NB301_302.out
           have hnc31 := NB302_301.out
           have hcz32_0 : wr.cell? ⟨gb301, 0, none⟩ = some (.int .i64 a0_0) := (blk_cell BK301.out 0).trans rfl
           have hcz32_1 : wr.cell? ⟨gb301, 1, none⟩ = some (.slice A0_1 l0_1.length c0_1) := (blk_cell BK301.out 1).trans rfl
           have hcz32_2 : wr.cell? ⟨gb301, 2, none⟩ = some (.slice A0_2 l0_2.length c0_2) := (blk_cell BK301.out 2).trans rfl
           have hcz32_3 : wr.cell? ⟨gb301, 3, none⟩ = some (.slice A0_3 l0_3.length c0_3) := (blk_cell BK301.out 3).trans rfl
           have hfz32_0 := blk_frozen BK301.out 0
           have hfz32_1 := blk_frozen BK301.out 1
           have hfz32_2 := blk_frozen BK301.out 2
           have hfz32_3 := blk_frozen BK301.out 3
           have p306 : 0 ≤ (x6_2 : Int) := of_decide_eq_true (by first | (with_reducible assumption) | assumption)
           have q306 : x6_2 < (l0_2.length : Int) := of_decide_eq_true (by first | (with_reducible assumption) | assumption)
           obtain ⟨ad306, e306, hx306_0⟩ := Kd.at_string HR0_2.out x6_2 p306 q306
           cases e306
           replace hx306_0 := (HB.out.cell (World.block_lt_of_cell? w _ hx306_0)).trans hx306_0
           replace p306 := eq_true p306
           replace q306 := eq_true q306
           go_wp2_with (first | (go_at_call 82; (with_reducible refine (dioramaref05_Right.calls k2 (rdOf ByteArray.empty l0_2 x6_2) false _ A26.out).mono ?_); rintro e w33 ⟨rfl, hb⟩; have n0_ := Aside0.mk (blk_below (g := gb301) (o := .cells #[.int .i64 a0_0, .slice A0_1 l0_1.length c0_1, .slice (some ad306) l0_2.length c0_2, .slice A0_3 l0_3.length c0_3] 26 (0, 0)) (by (with_reducible repeat (first | refine blk_drewN ?_ _ | refine blk_drew ?_ | refine blk_alloc ?_ _)); exact BK301.out) hb); have n1_ := Aside0.mk (blk_below (g := gb302) (o := .cells #[.slice A1_0 l1_0.length c1_0, .int .i64 a1_1, .int .i64 a1_2, .int .i64 a1_3] 66 (0, 0)) (by (with_reducible repeat (first | refine blk_drewN ?_ _ | refine blk_drew ?_ | refine blk_alloc ?_ _)); exact BK302.out) hb); have n2_ := Aside0.mk (below_step (by repeat (first | (with_reducible first | exact HB.out | apply below_alloc | apply pw_below_drewN | apply below_drew1 | refine below_set ?_ GE301.out | refine below_set ?_ GE302.out) | exact HB.out)) hb); clear BK301; clear BK302; clear HB; have BK301 := n0_; have BK302 := n1_; have HB := n2_; clear n0_ n1_ n2_; (try clear hb); (try clear hb2); (try clear hk); (try clear hi)))
           repeat (go_quiet (first | (go_at_call 82; (with_reducible refine (dioramaref05_Right.calls k2 (rdOf ByteArray.empty l0_2 x6_2) false _ A26.out).mono ?_); rintro e w33 ⟨rfl, hb⟩; have n0_ := Aside0.mk (blk_below (g := gb301) (o := .cells #[.int .i64 a0_0, .slice A0_1 l0_1.length c0_1, .slice (some ad306) l0_2.length c0_2, .slice A0_3 l0_3.length c0_3] 26 (0, 0)) (by (with_reducible repeat (first | refine blk_drewN ?_ _ | refine blk_drew ?_ | refine blk_alloc ?_ _)); exact BK301.out) hb); have n1_ := Aside0.mk (blk_below (g := gb302) (o := .cells #[.slice A1_0 l1_0.length c1_0, .int .i64 a1_1, .int .i64 a1_2, .int .i64 a1_3] 66 (0, 0)) (by (with_reducible repeat (first | refine blk_drewN ?_ _ | refine blk_drew ?_ | refine blk_alloc ?_ _)); exact BK302.out) hb); have n2_ := Aside0.mk (below_step (by repeat (first | (with_reducible first | exact HB.out | apply below_alloc | apply pw_below_drewN | apply below_drew1 | refine below_set ?_ GE301.out | refine below_set ?_ GE302.out) | exact HB.out)) hb); clear BK301; clear BK302; clear HB; have BK301 := n0_; have BK302 := n1_; have HB := n2_; clear n0_ n1_ n2_; (try clear hb); (try clear hb2); (try clear hk); (try clear hi))); try go_wp2_with (first | (go_at_call 82; (with_reducible refine (dioramaref05_Right.calls k2 (rdOf ByteArray.empty l0_2 x6_2) false _ A26.out).mono ?_); rintro e w33 ⟨rfl, hb⟩; have n0_ := Aside0.mk (blk_below (g := gb301) (o := .cells #[.int .i64 a0_0, .slice A0_1 l0_1.length c0_1, .slice (some ad306) l0_2.length c0_2, .slice A0_3 l0_3.length c0_3] 26 (0, 0)) (by (with_reducible repeat (first | refine blk_drewN ?_ _ | refine blk_drew ?_ | refine blk_alloc ?_ _)); exact BK301.out) hb); have n1_ := Aside0.mk (blk_below (g := gb302) (o := .cells #[.slice A1_0 l1_0.length c1_0, .int .i64 a1_1, .int .i64 a1_2, .int .i64 a1_3] 66 (0, 0)) (by (with_reducible repeat (first | refine blk_drewN ?_ _ | refine blk_drew ?_ | refine blk_alloc ?_ _)); exact BK302.out) hb); have n2_ := Aside0.mk (below_step (by repeat (first | (with_reducible first | exact HB.out | apply below_alloc | apply pw_below_drewN | apply below_drew1 | refine below_set ?_ GE301.out | refine below_set ?_ GE302.out) | exact HB.out)) hb); clear BK301; clear BK302; clear HB; have BK301 := n0_; have BK302 := n1_; have HB := n2_; clear n0_ n1_ n2_; (try clear hb); (try clear hb2); (try clear hk); (try clear hi))))
           go_ret
           exact ⟨by first | rfl | (simp [errW_none, errW_some] <;> rfl) | (simp [*, errW_none, errW_some] <;> rfl), by repeat (first | (with_reducible first | exact HB.out | apply below_alloc | apply pw_below_drewN | apply below_drew1 | refine below_set ?_ GE301.out | refine below_set ?_ GE302.out) | exact HB.out)⟩
         ·rw [if_neg c25] at H
          exact absurd H (by simp)
        ·rw [if_neg c24] at H
         have c24b0 : decide (x6_2 < (l0_2.length : Int)) = false := decide_eq_false c24
         clear c24
         by_cases c34 : (l0_3.length : Int) < a1_2
         ·rw [if_pos c34] at H
          have c34b0 : decide ((l0_3.length : Int) < a1_2) = true := decide_eq_true c34
          clear c34
          obtain rfl := Option.some.inj H
          have hnb35 := NB301_302.out
          have hnc35 := NB302_301.out
          have hcz36_0 : wr.cell? ⟨gb301, 0, none⟩ = some (.int .i64 a0_0) := (blk_cell BK301.out 0).trans rfl
          have hcz36_1 : wr.cell? ⟨gb301, 1, none⟩ = some (.slice A0_1 l0_1.length c0_1) := (blk_cell BK301.out 1).trans rfl
          have hcz36_2 : wr.cell? ⟨gb301, 2, none⟩ = some (.slice A0_2 l0_2.length c0_2) := (blk_cell BK301.out 2).trans rfl
          have hcz36_3 : wr.cell? ⟨gb301, 3, none⟩ = some (.slice A0_3 l0_3.length c0_3) := (blk_cell BK301.out 3).trans rfl
          have hfz36_0 := blk_frozen BK301.out 0
          have hfz36_1 := blk_frozen BK301.out 1
          have hfz36_2 := blk_frozen BK301.out 2
          have hfz36_3 := blk_frozen BK301.out 3
          have hcz37_0 : wr.cell? ⟨gb302, 0, none⟩ = some (.slice A1_0 l1_0.length c1_0) := (blk_cell BK302.out 0).trans rfl
          have hcz37_1 : wr.cell? ⟨gb302, 1, none⟩ = some (.int .i64 a1_1) := (blk_cell BK302.out 1).trans rfl
          have hcz37_2 : wr.cell? ⟨gb302, 2, none⟩ = some (.int .i64 a1_2) := (blk_cell BK302.out 2).trans rfl
          have hcz37_3 : wr.cell? ⟨gb302, 3, none⟩ = some (.int .i64 a1_3) := (blk_cell BK302.out 3).trans rfl
          have hfz37_0 := blk_frozen BK302.out 0
          have hfz37_1 := blk_frozen BK302.out 1
          have hfz37_2 := blk_frozen BK302.out 2
          have hfz37_3 := blk_frozen BK302.out 3
          go_wp2
          repeat (go_quiet (fail); try go_wp2)
          go_ret
          exact ⟨by first | rfl | (simp [errW_none, errW_some] <;> rfl) | (simp [*, errW_none, errW_some] <;> rfl), by repeat (first | (with_reducible first | exact HB.out | apply below_alloc | apply pw_below_drewN | apply below_drew1 | refine below_set ?_ GE301.out | refine below_set ?_ GE302.out) | exact HB.out)⟩
         ·rw [if_neg c34] at H
          have c34b0 : decide ((l0_3.length : Int) < a1_2) = false := decide_eq_false c34
          clear c34
          by_cases c38 : a1_3 ≥ 0
          ·rw [if_pos c38] at H
           have c38b0 : decide (0 ≤ a1_3) = true := decide_eq_true c38
           clear c38
           by_cases c39 : (l0_3.length : Int) > a1_3
           ·rw [if_pos c39] at H
            have c39b0 : decide (a1_3 < (l0_3.length : Int)) = true := decide_eq_true c39
            clear c39
            obtain rfl := Option.some.inj H
            have hnb40 := NB301_302.out
            have hnc40 := NB302_301.out
            have hcz41_0 : wr.cell? ⟨gb301, 0, none⟩ = some (.int .i64 a0_0) := (blk_cell BK301.out 0).trans rfl
            have hcz41_1 : wr.cell? ⟨gb301, 1, none⟩ = some (.slice A0_1 l0_1.length c0_1) := (blk_cell BK301.out 1).trans rfl
            have hcz41_2 : wr.cell? ⟨gb301, 2, none⟩ = some (.slice A0_2 l0_2.length c0_2) := (blk_cell BK301.out 2).trans rfl
            have hcz41_3 : wr.cell? ⟨gb301, 3, none⟩ = some (.slice A0_3 l0_3.length c0_3) := (blk_cell BK301.out 3).trans rfl
            have hfz41_0 := blk_frozen BK301.out 0
            have hfz41_1 := blk_frozen BK301.out 1
            have hfz41_2 := blk_frozen BK301.out 2
            have hfz41_3 := blk_frozen BK301.out 3
            have hcz42_0 : wr.cell? ⟨gb302, 0, none⟩ = some (.slice A1_0 l1_0.length c1_0) := (blk_cell BK302.out 0).trans rfl
            have hcz42_1 : wr.cell? ⟨gb302, 1, none⟩ = some (.int .i64 a1_1) := (blk_cell BK302.out 1).trans rfl
            have hcz42_2 : wr.cell? ⟨gb302, 2, none⟩ = some (.int .i64 a1_2) := (blk_cell BK302.out 2).trans rfl
            have hcz42_3 : wr.cell? ⟨gb302, 3, none⟩ = some (.int .i64 a1_3) := (blk_cell BK302.out 3).trans rfl
            have hfz42_0 := blk_frozen BK302.out 0
            have hfz42_1 := blk_frozen BK302.out 1
            have hfz42_2 := blk_frozen BK302.out 2
            have hfz42_3 := blk_frozen BK302.out 3
            go_wp2
            repeat (go_quiet (fail); try go_wp2)
            go_ret
            exact ⟨by first | rfl | (simp [errW_none, errW_some] <;> rfl) | (simp [*, errW_none, errW_some] <;> rfl), by repeat (first | (with_reducible first | exact HB.out | apply below_alloc | apply pw_below_drewN | apply below_drew1 | refine below_set ?_ GE301.out | refine below_set ?_ GE302.out) | exact HB.out)⟩
           ·rw [if_neg c39] at H
            have c39b0 : decide (a1_3 < (l0_3.length : Int)) = false := decide_eq_false c39
            clear c39
            obtain rfl := Option.some.inj H
            have hnb43 := NB301_302.out
            have hnc43 := NB302_301.out
            have hcz44_0 : wr.cell? ⟨gb301, 0, none⟩ = some (.int .i64 a0_0) := (blk_cell BK301.out 0).trans rfl
            have hcz44_1 : wr.cell? ⟨gb301, 1, none⟩ = some (.slice A0_1 l0_1.length c0_1) := (blk_cell BK301.out 1).trans rfl
            have hcz44_2 : wr.cell? ⟨gb301, 2, none⟩ = some (.slice A0_2 l0_2.length c0_2) := (blk_cell BK301.out 2).trans rfl
            have hcz44_3 : wr.cell? ⟨gb301, 3, none⟩ = some (.slice A0_3 l0_3.length c0_3) := (blk_cell BK301.out 3).trans rfl
            have hfz44_0 := blk_frozen BK301.out 0
            have hfz44_1 := blk_frozen BK301.out 1
            have hfz44_2 := blk_frozen BK301.out 2
            have hfz44_3 := blk_frozen BK301.out 3
            have hcz45_0 : wr.cell? ⟨gb302, 0, none⟩ = some (.slice A1_0 l1_0.length c1_0) := (blk_cell BK302.out 0).trans rfl
            have hcz45_1 : wr.cell? ⟨gb302, 1, none⟩ = some (.int .i64 a1_1) := (blk_cell BK302.out 1).trans rfl
            have hcz45_2 : wr.cell? ⟨gb302, 2, none⟩ = some (.int .i64 a1_2) := (blk_cell BK302.out 2).trans rfl
            have hcz45_3 : wr.cell? ⟨gb302, 3, none⟩ = some (.int .i64 a1_3) := (blk_cell BK302.out 3).trans rfl
            have hfz45_0 := blk_frozen BK302.out 0
            have hfz45_1 := blk_frozen BK302.out 1
            have hfz45_2 := blk_frozen BK302.out 2
            have hfz45_3 := blk_frozen BK302.out 3
            go_wp2
            repeat (go_quiet (fail); try go_wp2)
            go_ret
            exact ⟨by first | rfl | (simp [errW_none, errW_some] <;> rfl) | (simp [*, errW_none, errW_some] <;> rfl), by repeat (first | (with_reducible first | exact HB.out | apply below_alloc | apply pw_below_drewN | apply below_drew1 | refine below_set ?_ GE301.out | refine below_set ?_ GE302.out) | exact HB.out)⟩
          ·rw [if_neg c38] at H
           have c38b0 : decide (0 ≤ a1_3) = false := decide_eq_false c38
           clear c38
           obtain rfl := Option.some.inj H
           have hnb46 := NB301_302.out
           have hnc46 := NB302_301.out
           have hcz47_0 : wr.cell? ⟨gb301, 0, none⟩ = some (.int .i64 a0_0) := (blk_cell BK301.out 0).trans rfl
           have hcz47_1 : wr.cell? ⟨gb301, 1, none⟩ = some (.slice A0_1 l0_1.length c0_1) := (blk_cell BK301.out 1).trans rfl
           have hcz47_2 : wr.cell? ⟨gb301, 2, none⟩ = some (.slice A0_2 l0_2.length c0_2) := (blk_cell BK301.out 2).trans rfl
           have hcz47_3 : wr.cell? ⟨gb301, 3, none⟩ = some (.slice A0_3 l0_3.length c0_3) := (blk_cell BK301.out 3).trans rfl
           have hfz47_0 := blk_frozen BK301.out 0
           have hfz47_1 := blk_frozen BK301.out 1
           have hfz47_2 := blk_frozen BK301.out 2
           have hfz47_3 := blk_frozen BK301.out 3
           have hcz48_0 : wr.cell? ⟨gb302, 0, none⟩ = some (.slice A1_0 l1_0.length c1_0) := (blk_cell BK302.out 0).trans rfl
           have hcz48_1 : wr.cell? ⟨gb302, 1, none⟩ = some (.int .i64 a1_1) := (blk_cell BK302.out 1).trans rfl
           have hcz48_2 : wr.cell? ⟨gb302, 2, none⟩ = some (.int .i64 a1_2) := (blk_cell BK302.out 2).trans rfl
           have hcz48_3 : wr.cell? ⟨gb302, 3, none⟩ = some (.int .i64 a1_3) := (blk_cell BK302.out 3).trans rfl
           have hfz48_0 := blk_frozen BK302.out 0
           have hfz48_1 := blk_frozen BK302.out 1
           have hfz48_2 := blk_frozen BK302.out 2
           have hfz48_3 := blk_frozen BK302.out 3
           go_wp2
           repeat (go_quiet (fail); try go_wp2)
           go_ret
           exact ⟨by first | rfl | (simp [errW_none, errW_some] <;> rfl) | (simp [*, errW_none, errW_some] <;> rfl), by repeat (first | (with_reducible first | exact HB.out | apply below_alloc | apply pw_below_drewN | apply below_drew1 | refine below_set ?_ GE301.out | refine below_set ?_ GE302.out) | exact HB.out)⟩
     ·rw [if_neg c20] at H
      have c20b0 : ((l0_2.length : Int) == a1_1) = false := beq_eq_false_iff_ne.mpr c20
      have c20b1 : ((l0_2.length : Int) != a1_1) = true := bne_iff_ne.mpr c20
      obtain rfl := Option.some.inj H
      have hnb49 := NB301_302.out
      have hnc49 := NB302_301.out
      have hcz50_0 : wr.cell? ⟨gb301, 0, none⟩ = some (.int .i64 a0_0) := (blk_cell BK301.out 0).trans rfl
      have hcz50_1 : wr.cell? ⟨gb301, 1, none⟩ = some (.slice A0_1 l0_1.length c0_1) := (blk_cell BK301.out 1).trans rfl
      have hcz50_2 : wr.cell? ⟨gb301, 2, none⟩ = some (.slice A0_2 l0_2.length c0_2) := (blk_cell BK301.out 2).trans rfl
      have hcz50_3 : wr.cell? ⟨gb301, 3, none⟩ = some (.slice A0_3 l0_3.length c0_3) := (blk_cell BK301.out 3).trans rfl
      have hfz50_0 := blk_frozen BK301.out 0
      have hfz50_1 := blk_frozen BK301.out 1
      have hfz50_2 := blk_frozen BK301.out 2
      have hfz50_3 := blk_frozen BK301.out 3
      have hcz51_0 : wr.cell? ⟨gb302, 0, none⟩ = some (.slice A1_0 l1_0.length c1_0) := (blk_cell BK302.out 0).trans rfl
      have hcz51_1 : wr.cell? ⟨gb302, 1, none⟩ = some (.int .i64 a1_1) := (blk_cell BK302.out 1).trans rfl
      have hcz51_2 : wr.cell? ⟨gb302, 2, none⟩ = some (.int .i64 a1_2) := (blk_cell BK302.out 2).trans rfl
      have hcz51_3 : wr.cell? ⟨gb302, 3, none⟩ = some (.int .i64 a1_3) := (blk_cell BK302.out 3).trans rfl
      have hfz51_0 := blk_frozen BK302.out 0
      have hfz51_1 := blk_frozen BK302.out 1
      have hfz51_2 := blk_frozen BK302.out 2
      have hfz51_3 := blk_frozen BK302.out 3
      go_wp2
      repeat (go_quiet (fail); try go_wp2)
      go_ret
      exact ⟨by first | rfl | (simp [errW_none, errW_some] <;> rfl) | (simp [*, errW_none, errW_some] <;> rfl), by repeat (first | (with_reducible first | exact HB.out | apply below_alloc | apply pw_below_drewN | apply below_drew1 | refine below_set ?_ GE301.out | refine below_set ?_ GE302.out) | exact HB.out)⟩
 ·rw [if_neg c3] at H
  have c3b0 : ((l0_1.length : Int) == (l1_0.length : Int)) = false := beq_eq_false_iff_ne.mpr c3
  have c3b1 : ((l0_1.length : Int) != (l1_0.length : Int)) = true := bne_iff_ne.mpr c3
  have c3b2 : (l0_1.length == l1_0.length) = false := by first | simpa using c3 | (simp at c3 ⊢; omega)
  obtain rfl := Option.some.inj H
  go_enter Tryd.func41, Tryd.ntmps41
  go_wp2_with (first | ((with_reducible refine gate_dst (N := 2) rfl ?_); (try (refine gate_guard (by rfl) ?_; dsimp only)); refine box_event ?hg (N := 2) ?hd (cs := #[.int .i64 a0_0, .slice A0_1 l0_1.length c0_1, .slice A0_2 l0_2.length c0_2, .slice A0_3 l0_3.length c0_3]) (t := 26) ?hr ?_; (case hd => rfl); (case hg => rfl); (case hr => first | (go_simp; done) | (go_simp; rfl)); intro gb301 hg w52 hbox hb; have n0_ := Aside0.mk (below_step (by repeat (first | (with_reducible first | exact HB.out | apply below_alloc | apply pw_below_drewN | apply below_drew1) | exact HB.out)) hb); have n1_ := Aside0.mk (hbox); have n2_ := Aside0.mk ((by rw [hg]; exact (below_size (by repeat (first | (with_reducible first | exact HB.out | apply below_alloc | apply pw_below_drewN | apply below_drew1) | exact HB.out))) : w.heap.size ≤ gb301)); have n3_ := Aside0.mk ((by rw [hg]; exact (below_size (by repeat (first | (with_reducible first | exact HB.out | apply below_alloc | apply pw_below_drewN | apply below_drew1) | exact HB.out))) : w.heap.size ≤ gb301)); clear HB; have HB := n0_; have BK301 := n1_; have GW301 := n2_; have GE301 := n3_; clear n0_ n1_ n2_ n3_; clear hb hbox hg) | ((with_reducible refine gate_dst (N := 3) rfl ?_); (try (refine gate_guard (by rfl) ?_; dsimp only)); refine box_event ?hg (N := 3) ?hd (cs := #[.slice A1_0 l1_0.length c1_0, .int .i64 a1_1, .int .i64 a1_2, .int .i64 a1_3]) (t := 66) ?hr ?_; (case hd => rfl); (case hg => rfl); (case hr => first | (go_simp; done) | (go_simp; rfl)); intro gb302 hg w53 hbox hb; have n0_ := Aside0.mk (blk_below (g := gb301) (o := .cells #[.int .i64 a0_0, .slice A0_1 l0_1.length c0_1, .slice A0_2 l0_2.length c0_2, .slice A0_3 l0_3.length c0_3] 26 (0, 0)) (by (with_reducible repeat (first | refine blk_drewN ?_ _ | refine blk_drew ?_ | refine blk_alloc ?_ _)); exact BK301.out) hb); have n1_ := Aside0.mk (below_step (by repeat (first | (with_reducible first | exact HB.out | apply below_alloc | apply pw_below_drewN | apply below_drew1 | refine below_set ?_ GE301.out) | exact HB.out)) hb); have n2_ := Aside0.mk (hbox); have n3_ := Aside0.mk ((by rw [hg]; exact (below_size (by repeat (first | (with_reducible first | exact HB.out | apply below_alloc | apply pw_below_drewN | apply below_drew1 | refine below_set ?_ GE301.out) | exact HB.out))) : w.heap.size ≤ gb302)); have n4_ := Aside0.mk ((by rw [hg]; exact (below_size (by repeat (first | (with_reducible first | exact HB.out | apply below_alloc | apply pw_below_drewN | apply below_drew1 | refine below_set ?_ GE301.out) | exact HB.out))) : w.heap.size ≤ gb302)); have n5_ := Aside0.mk ((by rw [hg]; exact Nat.ne_of_lt (blk_lt (g := gb301) (o := .cells #[.int .i64 a0_0, .slice A0_1 l0_1.length c0_1, .slice A0_2 l0_2.length c0_2, .slice A0_3 l0_3.length c0_3] 26 (0, 0)) (by (with_reducible repeat (first | refine blk_drewN ?_ _ | refine blk_drew ?_ | refine blk_alloc ?_ _)); exact BK301.out)) : gb301 ≠ gb302)); have n6_ := Aside0.mk ((by rw [hg]; exact Nat.ne_of_gt (blk_lt (g := gb301) (o := .cells #[.int .i64 a0_0, .slice A0_1 l0_1.length c0_1, .slice A0_2 l0_2.length c0_2, .slice A0_3 l0_3.length c0_3] 26 (0, 0)) (by (with_reducible repeat (first | refine blk_drewN ?_ _ | refine blk_drew ?_ | refine blk_alloc ?_ _)); exact BK301.out)) : gb302 ≠ gb301)); clear BK301; clear HB; have BK301 := n0_; have HB := n1_; have BK302 := n2_; have GW302 := n3_; have GE302 := n4_; have NB301_302 := n5_; have NB302_301 := n6_; clear n0_ n1_ n2_ n3_ n4_ n5_ n6_; clear hb hbox hg; have hnb54 := NB301_302.out; have hnc54 := NB302_301.out; have hcz55_0 : w53.cell? ⟨gb301, 0, none⟩ = some (.int .i64 a0_0) := (blk_cell BK301.out 0).trans rfl; have hcz55_1 : w53.cell? ⟨gb301, 1, none⟩ = some (.slice A0_1 l0_1.length c0_1) := (blk_cell BK301.out 1).trans rfl; have hcz55_2 : w53.cell? ⟨gb301, 2, none⟩ = some (.slice A0_2 l0_2.length c0_2) := (blk_cell BK301.out 2).trans rfl; have hcz55_3 : w53.cell? ⟨gb301, 3, none⟩ = some (.slice A0_3 l0_3.length c0_3) := (blk_cell BK301.out 3).trans rfl; have hfz55_0 := blk_frozen BK301.out 0; have hfz55_1 := blk_frozen BK301.out 1; have hfz55_2 := blk_frozen BK301.out 2; have hfz55_3 := blk_frozen BK301.out 3; have hcz56_0 : w53.cell? ⟨gb302, 0, none⟩ = some (.slice A1_0 l1_0.length c1_0) := (blk_cell BK302.out 0).trans rfl; have hcz56_1 : w53.cell? ⟨gb302, 1, none⟩ = some (.int .i64 a1_1) := (blk_cell BK302.out 1).trans rfl; have hcz56_2 : w53.cell? ⟨gb302, 2, none⟩ = some (.int .i64 a1_2) := (blk_cell BK302.out 2).trans rfl; have hcz56_3 : w53.cell? ⟨gb302, 3, none⟩ = some (.int .i64 a1_3) := (blk_cell BK302.out 3).trans rfl; have hfz56_0 := blk_frozen BK302.out 0; have hfz56_1 := blk_frozen BK302.out 1; have hfz56_2 := blk_frozen BK302.out 2; have hfz56_3 := blk_frozen BK302.out 3))
  repeat (go_quiet (first | ((with_reducible refine gate_dst (N := 2) rfl ?_); (try (refine gate_guard (by rfl) ?_; dsimp only)); refine box_event ?hg (N := 2) ?hd (cs := #[.int .i64 a0_0, .slice A0_1 l0_1.length c0_1, .slice A0_2 l0_2.length c0_2, .slice A0_3 l0_3.length c0_3]) (t := 26) ?hr ?_; (case hd => rfl); (case hg => rfl); (case hr => first | (go_simp; done) | (go_simp; rfl)); intro gb301 hg w52 hbox hb; have n0_ := Aside0.mk (below_step (by repeat (first | (with_reducible first | exact HB.out | apply below_alloc | apply pw_below_drewN | apply below_drew1) | exact HB.out)) hb); have n1_ := Aside0.mk (hbox); have n2_ := Aside0.mk ((by rw [hg]; exact (below_size (by repeat (first | (with_reducible first | exact HB.out | apply below_alloc | apply pw_below_drewN | apply below_drew1) | exact HB.out))) : w.heap.size ≤ gb301)); have n3_ := Aside0.mk ((by rw [hg]; exact (below_size (by repeat (first | (with_reducible first | exact HB.out | apply below_alloc | apply pw_below_drewN | apply below_drew1) | exact HB.out))) : w.heap.size ≤ gb301)); clear HB; have HB := n0_; have BK301 := n1_; have GW301 := n2_; have GE301 := n3_; clear n0_ n1_ n2_ n3_; clear hb hbox hg) | ((with_reducible refine gate_dst (N := 3) rfl ?_); (try (refine gate_guard (by rfl) ?_; dsimp only)); refine box_event ?hg (N := 3) ?hd (cs := #[.slice A1_0 l1_0.length c1_0, .int .i64 a1_1, .int .i64 a1_2, .int .i64 a1_3]) (t := 66) ?hr ?_; (case hd => rfl); (case hg => rfl); (case hr => first | (go_simp; done) | (go_simp; rfl)); intro gb302 hg w53 hbox hb; have n0_ := Aside0.mk (blk_below (g := gb301) (o := .cells #[.int .i64 a0_0, .slice A0_1 l0_1.length c0_1, .slice A0_2 l0_2.length c0_2, .slice A0_3 l0_3.length c0_3] 26 (0, 0)) (by (with_reducible repeat (first | refine blk_drewN ?_ _ | refine blk_drew ?_ | refine blk_alloc ?_ _)); exact BK301.out) hb); have n1_ := Aside0.mk (below_step (by repeat (first | (with_reducible first | exact HB.out | apply below_alloc | apply pw_below_drewN | apply below_drew1 | refine below_set ?_ GE301.out) | exact HB.out)) hb); have n2_ := Aside0.mk (hbox); have n3_ := Aside0.mk ((by rw [hg]; exact (below_size (by repeat (first | (with_reducible first | exact HB.out | apply below_alloc | apply pw_below_drewN | apply below_drew1 | refine below_set ?_ GE301.out) | exact HB.out))) : w.heap.size ≤ gb302)); have n4_ := Aside0.mk ((by rw [hg]; exact (below_size (by repeat (first | (with_reducible first | exact HB.out | apply below_alloc | apply pw_below_drewN | apply below_drew1 | refine below_set ?_ GE301.out) | exact HB.out))) : w.heap.size ≤ gb302)); have n5_ := Aside0.mk ((by rw [hg]; exact Nat.ne_of_lt (blk_lt (g := gb301) (o := .cells #[.int .i64 a0_0, .slice A0_1 l0_1.length c0_1, .slice A0_2 l0_2.length c0_2, .slice A0_3 l0_3.length c0_3] 26 (0, 0)) (by (with_reducible repeat (first | refine blk_drewN ?_ _ | refine blk_drew ?_ | refine blk_alloc ?_ _)); exact BK301.out)) : gb301 ≠ gb302)); have n6_ := Aside0.mk ((by rw [hg]; exact Nat.ne_of_gt (blk_lt (g := gb301) (o := .cells #[.int .i64 a0_0, .slice A0_1 l0_1.length c0_1, .slice A0_2 l0_2.length c0_2, .slice A0_3 l0_3.length c0_3] 26 (0, 0)) (by (with_reducible repeat (first | refine blk_drewN ?_ _ | refine blk_drew ?_ | refine blk_alloc ?_ _)); exact BK301.out)) : gb302 ≠ gb301)); clear BK301; clear HB; have BK301 := n0_; have HB := n1_; have BK302 := n2_; have GW302 := n3_; have GE302 := n4_; have NB301_302 := n5_; have NB302_301 := n6_; clear n0_ n1_ n2_ n3_ n4_ n5_ n6_; clear hb hbox hg; have hnb54 := NB301_302.out; have hnc54 := NB302_301.out; have hcz55_0 : w53.cell? ⟨gb301, 0, none⟩ = some (.int .i64 a0_0) := (blk_cell BK301.out 0).trans rfl; have hcz55_1 : w53.cell? ⟨gb301, 1, none⟩ = some (.slice A0_1 l0_1.length c0_1) := (blk_cell BK301.out 1).trans rfl; have hcz55_2 : w53.cell? ⟨gb301, 2, none⟩ = some (.slice A0_2 l0_2.length c0_2) := (blk_cell BK301.out 2).trans rfl; have hcz55_3 : w53.cell? ⟨gb301, 3, none⟩ = some (.slice A0_3 l0_3.length c0_3) := (blk_cell BK301.out 3).trans rfl; have hfz55_0 := blk_frozen BK301.out 0; have hfz55_1 := blk_frozen BK301.out 1; have hfz55_2 := blk_frozen BK301.out 2; have hfz55_3 := blk_frozen BK301.out 3; have hcz56_0 : w53.cell? ⟨gb302, 0, none⟩ = some (.slice A1_0 l1_0.length c1_0) := (blk_cell BK302.out 0).trans rfl; have hcz56_1 : w53.cell? ⟨gb302, 1, none⟩ = some (.int .i64 a1_1) := (blk_cell BK302.out 1).trans rfl; have hcz56_2 : w53.cell? ⟨gb302, 2, none⟩ = some (.int .i64 a1_2) := (blk_cell BK302.out 2).trans rfl; have hcz56_3 : w53.cell? ⟨gb302, 3, none⟩ = some (.int .i64 a1_3) := (blk_cell BK302.out 3).trans rfl; have hfz56_0 := blk_frozen BK302.out 0; have hfz56_1 := blk_frozen BK302.out 1; have hfz56_2 := blk_frozen BK302.out 2; have hfz56_3 := blk_frozen BK302.out 3)); try go_wp2_with (first | ((with_reducible refine gate_dst (N := 2) rfl ?_); (try (refine gate_guard (by rfl) ?_; dsimp only)); refine box_event ?hg (N := 2) ?hd (cs := #[.int .i64 a0_0, .slice A0_1 l0_1.length c0_1, .slice A0_2 l0_2.length c0_2, .slice A0_3 l0_3.length c0_3]) (t := 26) ?hr ?_; (case hd => rfl); (case hg => rfl); (case hr => first | (go_simp; done) | (go_simp; rfl)); intro gb301 hg w52 hbox hb; have n0_ := Aside0.mk (below_step (by repeat (first | (with_reducible first | exact HB.out | apply below_alloc | apply pw_below_drewN | apply below_drew1) | exact HB.out)) hb); have n1_ := Aside0.mk (hbox); have n2_ := Aside0.mk ((by rw [hg]; exact (below_size (by repeat (first | (with_reducible first | exact HB.out | apply below_alloc | apply pw_below_drewN | apply below_drew1) | exact HB.out))) : w.heap.size ≤ gb301)); have n3_ := Aside0.mk ((by rw [hg]; exact (below_size (by repeat (first | (with_reducible first | exact HB.out | apply below_alloc | apply pw_below_drewN | apply below_drew1) | exact HB.out))) : w.heap.size ≤ gb301)); clear HB; have HB := n0_; have BK301 := n1_; have GW301 := n2_; have GE301 := n3_; clear n0_ n1_ n2_ n3_; clear hb hbox hg) | ((with_reducible refine gate_dst (N := 3) rfl ?_); (try (refine gate_guard (by rfl) ?_; dsimp only)); refine box_event ?hg (N := 3) ?hd (cs := #[.slice A1_0 l1_0.length c1_0, .int .i64 a1_1, .int .i64 a1_2, .int .i64 a1_3]) (t := 66) ?hr ?_; (case hd => rfl); (case hg => rfl); (case hr => first | (go_simp; done) | (go_simp; rfl)); intro gb302 hg w53 hbox hb; have n0_ := Aside0.mk (blk_below (g := gb301) (o := .cells #[.int .i64 a0_0, .slice A0_1 l0_1.length c0_1, .slice A0_2 l0_2.length c0_2, .slice A0_3 l0_3.length c0_3] 26 (0, 0)) (by (with_reducible repeat (first | refine blk_drewN ?_ _ | refine blk_drew ?_ | refine blk_alloc ?_ _)); exact BK301.out) hb); have n1_ := Aside0.mk (below_step (by repeat (first | (with_reducible first | exact HB.out | apply below_alloc | apply pw_below_drewN | apply below_drew1 | refine below_set ?_ GE301.out) | exact HB.out)) hb); have n2_ := Aside0.mk (hbox); have n3_ := Aside0.mk ((by rw [hg]; exact (below_size (by repeat (first | (with_reducible first | exact HB.out | apply below_alloc | apply pw_below_drewN | apply below_drew1 | refine below_set ?_ GE301.out) | exact HB.out))) : w.heap.size ≤ gb302)); have n4_ := Aside0.mk ((by rw [hg]; exact (below_size (by repeat (first | (with_reducible first | exact HB.out | apply below_alloc | apply pw_below_drewN | apply below_drew1 | refine below_set ?_ GE301.out) | exact HB.out))) : w.heap.size ≤ gb302)); have n5_ := Aside0.mk ((by rw [hg]; exact Nat.ne_of_lt (blk_lt (g := gb301) (o := .cells #[.int .i64 a0_0, .slice A0_1 l0_1.length c0_1, .slice A0_2 l0_2.length c0_2, .slice A0_3 l0_3.length c0_3] 26 (0, 0)) (by (with_reducible repeat (first | refine blk_drewN ?_ _ | refine blk_drew ?_ | refine blk_alloc ?_ _)); exact BK301.out)) : gb301 ≠ gb302)); have n6_ := Aside0.mk ((by rw [hg]; exact Nat.ne_of_gt (blk_lt (g := gb301) (o := .cells #[.int .i64 a0_0, .slice A0_1 l0_1.length c0_1, .slice A0_2 l0_2.length c0_2, .slice A0_3 l0_3.length c0_3] 26 (0, 0)) (by (with_reducible repeat (first | refine blk_drewN ?_ _ | refine blk_drew ?_ | refine blk_alloc ?_ _)); exact BK301.out)) : gb302 ≠ gb301)); clear BK301; clear HB; have BK301 := n0_; have HB := n1_; have BK302 := n2_; have GW302 := n3_; have GE302 := n4_; have NB301_302 := n5_; have NB302_301 := n6_; clear n0_ n1_ n2_ n3_ n4_ n5_ n6_; clear hb hbox hg; have hnb54 := NB301_302.out; have hnc54 := NB302_301.out; have hcz55_0 : w53.cell? ⟨gb301, 0, none⟩ = some (.int .i64 a0_0) := (blk_cell BK301.out 0).trans rfl; have hcz55_1 : w53.cell? ⟨gb301, 1, none⟩ = some (.slice A0_1 l0_1.length c0_1) := (blk_cell BK301.out 1).trans rfl; have hcz55_2 : w53.cell? ⟨gb301, 2, none⟩ = some (.slice A0_2 l0_2.length c0_2) := (blk_cell BK301.out 2).trans rfl; have hcz55_3 : w53.cell? ⟨gb301, 3, none⟩ = some (.slice A0_3 l0_3.length c0_3) := (blk_cell BK301.out 3).trans rfl; have hfz55_0 := blk_frozen BK301.out 0; have hfz55_1 := blk_frozen BK301.out 1; have hfz55_2 := blk_frozen BK301.out 2; have hfz55_3 := blk_frozen BK301.out 3; have hcz56_0 : w53.cell? ⟨gb302, 0, none⟩ = some (.slice A1_0 l1_0.length c1_0) := (blk_cell BK302.out 0).trans rfl; have hcz56_1 : w53.cell? ⟨gb302, 1, none⟩ = some (.int .i64 a1_1) := (blk_cell BK302.out 1).trans rfl; have hcz56_2 : w53.cell? ⟨gb302, 2, none⟩ = some (.int .i64 a1_2) := (blk_cell BK302.out 2).trans rfl; have hcz56_3 : w53.cell? ⟨gb302, 3, none⟩ = some (.int .i64 a1_3) := (blk_cell BK302.out 3).trans rfl; have hfz56_0 := blk_frozen BK302.out 0; have hfz56_1 := blk_frozen BK302.out 1; have hfz56_2 := blk_frozen BK302.out 2; have hfz56_3 := blk_frozen BK302.out 3)))
  go_ret
  exact ⟨by first | rfl | (simp [errW_none, errW_some] <;> rfl) | (simp [*, errW_none, errW_some] <;> rfl), by repeat (first | (with_reducible first | exact HB.out | apply below_alloc | apply pw_below_drewN | apply below_drew1 | refine below_set ?_ GE301.out | refine below_set ?_ GE302.out) | exact HB.out)⟩

end Go.Proofs.YtglfebpgdghlfaaDoor.PUpgradeUps
end
section
namespace Go.Proofs.YtglfebpgdghlfaaDoor.L
open Go.RowKit Go.ChangeShapes Go.WideShapes Go.Proofs.YtglfebpgdghlfaaDoorW.PrintWords Go.Proofs.YtglfebpgdghlfaaDoorW.PrintLast Go.Proofs.YtglfebpgdghlfaaDoorW.PrintMore
attribute [local go_sem] max2_int min2_int max_two min_two max_three min_three max_four min_four
open Go.Proofs.YtglfebpgdghlfaaDoor.PUpgradeUps
theorem wrap64_in (n : Int) (h : -9223372036854775808 ≤ n ∧ n ≤ 9223372036854775807) : wrap64 n = n := by unfold wrap64; omega
theorem wrap32_in (n : Int) (h : -2147483648 ≤ n ∧ n ≤ 2147483647) : wrap32 n = n := by unfold wrap32; omega
theorem wN (m : Nat) (h : m ≤ 1114111) : wrap64 (m : Int) = (m : Int) := wrap64_in _ (by omega)
theorem ob {z : Int} (m : Nat) (h : z = (m : Int)) : UInt8.ofNat z.toNat = UInt8.ofNat m := by rw [h]; rfl
theorem td64 (n : Nat) : Int.tdiv (n : Int) 64 = ((n / 64 : Nat) : Int) := by rw [Int.tdiv_eq_ediv_of_nonneg (by omega)]; omega
theorem td4096 (n : Nat) : Int.tdiv (n : Int) 4096 = ((n / 4096 : Nat) : Int) := by rw [Int.tdiv_eq_ediv_of_nonneg (by omega)]; omega
theorem td262144 (n : Nat) : Int.tdiv (n : Int) 262144 = ((n / 262144 : Nat) : Int) := by rw [Int.tdiv_eq_ediv_of_nonneg (by omega)]; omega
theorem tm64 (m : Nat) : Int.tmod (m : Int) 64 = ((m % 64 : Nat) : Int) := by rw [Int.tmod_eq_emod_of_nonneg (by omega)]; omega
def charN (n : Nat) : List Nat :=
  if 1114111 < n ∨ (55296 ≤ n ∧ n ≤ 57343) then [] else if n < 128 then [n] else if n < 2048 then [192 + n / 64, 128 + n % 64]
  else if n < 65536 then [224 + n / 4096, 128 + n / 64 % 64, 128 + n % 64] else [240 + n / 262144, 128 + n / 4096 % 64, 128 + n / 64 % 64, 128 + n % 64]
def bytesL (l : List Nat) : List UInt8 := l.map fun n => UInt8.ofNat n
theorem char_f (k n : Nat) (hn : n ≤ 1114111) : ∃ s, dioramaref05_Char.f (k + 1) (n : Int) = some s ∧ s.toList = bytesL (charN n) := by
  have hL : ∀ xs : List Int, ∃ s, some (strOfNums xs) = some s ∧ s.toList = xs.map fun n => UInt8.ofNat n.toNat := fun xs => ⟨_, rfl, Lib.strOfNums_toList xs⟩
  have hq : ∀ b : Bool, b = decide (55296 ≤ n ∧ n ≤ 57343) → ∃ s, dioramaref05_Char.j0 (k + 1) (n : Int) b = some s ∧ s.toList = bytesL (charN n) := by
    intro b hb
    by_cases hs : 55296 ≤ n ∧ n ≤ 57343
    · obtain rfl : b = true := hb.trans (decide_eq_true hs)
      refine ⟨⟨#[]⟩, by rw [dioramaref05_Char.j0, if_pos rfl], ?_⟩
      unfold charN; rw [if_pos (.inr hs), Lib.toList_data]; rfl
    · obtain rfl : b = false := hb.trans (decide_eq_false hs)
      rw [dioramaref05_Char.j0, wN n hn, if_neg (by decide)]
      unfold charN
      rw [if_neg (show ¬ (1114111 < n ∨ (55296 ≤ n ∧ n ≤ 57343)) by omega)]
      by_cases h1 : n < 128
      · rw [if_pos (show (n : Int) < 128 by omega), if_pos h1]
        obtain ⟨s, e, he⟩ := hL [(n : Int) % 256]
        refine ⟨s, e, he.trans ?_⟩
        simp only [bytesL, List.map_cons, List.map_nil]
        rw [ob (n) (by omega)]
      · rw [if_neg (show ¬ (n : Int) < 128 by omega), if_neg h1]
        by_cases h2 : n < 2048
        · rw [if_pos (show (n : Int) < 2048 by omega), if_pos h2]
          obtain ⟨s, e, he⟩ := hL [(wrap64 (192 + (wrap64 (Int.tdiv (n : Int) 64)))) % 256, (wrap64 (128 + (Int.tmod (n : Int) 64))) % 256]
          refine ⟨s, e, he.trans ?_⟩
          rw [td64, tm64, wN (n / 64) (Nat.le_trans (Nat.div_le_self n 64) hn), wrap64_in (192 + _) (by omega), wrap64_in (128 + _) (by omega)]
          simp only [bytesL, List.map_cons, List.map_nil]
          rw [ob (192 + n / 64) (by omega), ob (128 + n % 64) (by omega)]
        · rw [if_neg (show ¬ (n : Int) < 2048 by omega), if_neg h2]
          by_cases h3 : n < 65536
          · rw [if_pos (show (n : Int) < 65536 by omega), if_pos h3]
            obtain ⟨s, e, he⟩ := hL [(wrap64 (224 + (wrap64 (Int.tdiv (n : Int) 4096)))) % 256, (wrap64 (128 + (Int.tmod (wrap64 (Int.tdiv (n : Int) 64)) 64))) % 256, (wrap64 (128 + (Int.tmod (n : Int) 64))) % 256]
            refine ⟨s, e, he.trans ?_⟩
            rw [td64, td4096, wN (n / 64) (Nat.le_trans (Nat.div_le_self n 64) hn), wN (n / 4096) (Nat.le_trans (Nat.div_le_self n 4096) hn), tm64, tm64, wrap64_in (224 + _) (by omega), wrap64_in (128 + ((n / 64 % 64 : Nat) : Int)) (by omega), wrap64_in (128 + _) (by omega)]
            simp only [bytesL, List.map_cons, List.map_nil]
            rw [ob (224 + n / 4096) (by omega), ob (128 + n / 64 % 64) (by omega), ob (128 + n % 64) (by omega)]
          · rw [if_neg (show ¬ (n : Int) < 65536 by omega), if_neg h3]
            obtain ⟨s, e, he⟩ := hL [(wrap64 (240 + (wrap64 (Int.tdiv (n : Int) 262144)))) % 256, (wrap64 (128 + (Int.tmod (wrap64 (Int.tdiv (n : Int) 4096)) 64))) % 256, (wrap64 (128 + (Int.tmod (wrap64 (Int.tdiv (n : Int) 64)) 64))) % 256, (wrap64 (128 + (Int.tmod (n : Int) 64))) % 256]
            refine ⟨s, e, he.trans ?_⟩
            rw [td64, td4096, td262144, wN (n / 64) (Nat.le_trans (Nat.div_le_self n 64) hn), wN (n / 4096) (Nat.le_trans (Nat.div_le_self n 4096) hn), wN (n / 262144) (Nat.le_trans (Nat.div_le_self n 262144) hn), tm64, tm64, tm64, wrap64_in (240 + _) (by omega), wrap64_in (128 + ((n / 4096 % 64 : Nat) : Int)) (by omega), wrap64_in (128 + ((n / 64 % 64 : Nat) : Int)) (by omega), wrap64_in (128 + _) (by omega)]
            simp only [bytesL, List.map_cons, List.map_nil]
            rw [ob (240 + n / 262144) (by omega), ob (128 + n / 4096 % 64) (by omega), ob (128 + n / 64 % 64) (by omega), ob (128 + n % 64) (by omega)]
  unfold dioramaref05_Char.f
  rw [if_neg (show ¬ (n : Int) < 0 by omega), if_neg (show ¬ (n : Int) > 1114111 by omega)]
  by_cases h : (n : Int) ≥ 55296
  · rw [if_pos h]
    refine hq _ (decide_eq_decide.2 ?_)
    omega
  · rw [if_neg h]
    refine hq _ (decide_eq_false ?_).symm
    omega
end Go.Proofs.YtglfebpgdghlfaaDoor.L
end
section
namespace Go.Proofs.YtglfebpgdghlfaaDoor.L
open Go.RowKit Go.ChangeShapes Go.WideShapes Go.Proofs.YtglfebpgdghlfaaDoorW.PrintWords Go.Proofs.YtglfebpgdghlfaaDoorW.PrintLast Go.Proofs.YtglfebpgdghlfaaDoorW.PrintMore
attribute [local go_sem] max2_int min2_int max_two min_two max_three min_three max_four min_four
open Go.Proofs.YtglfebpgdghlfaaDoor.PUpgradeUps
def B (s : ByteArray) (i : Nat) : Nat := (s.get! i).toNat
theorem B_lt (s : ByteArray) (i : Nat) : B s i < 256 := UInt8.toNat_lt _
theorem bt_B (s : ByteArray) (i : Nat) (h : i < s.size) : bt s (i : Int) = (B s i : Int) := by
  unfold bt B
  rw [dif_pos (by simpa using h)]
  have : s[i] = s.get! i := by
    show s.data[i] = s.data[i]!
    rw [getElem!_pos]
  rw [← this]; rfl
theorem ext_bytes (s : ByteArray) (p z : Nat) (h : p + z ≤ s.size) : (s.extract p (p + z)).toList = bytesL ((List.range z).map fun i => B s (p + i)) := by
  rw [Lib.toList_data]
  refine List.ext_getElem ?_ (fun i h1 h2 => ?_)
  · have : s.size = s.data.size := rfl
    simp [bytesL]; omega
  · have hz : i < z := by simpa [bytesL] using h2
    simp only [bytesL, List.getElem_map, List.getElem_range, B]
    rw [UInt8.ofNat_toNat]
    have : s.get! (p + i) = s.data[p + i]! := rfl
    rw [this, getElem!_pos s.data (p + i) (show p + i < s.data.size by have : s.size = s.data.size := rfl; omega)]
    simp
theorem bytesL_inj : ∀ (l m : List Nat), (∀ x ∈ l, x < 256) → (∀ x ∈ m, x < 256) → (bytesL l = bytesL m ↔ l = m)
  | [], [], _, _ => by simp
  | [], y :: m, _, _ => by simp [bytesL]
  | x :: l, [], _, _ => by simp [bytesL]
  | x :: l, y :: m, h1, h2 => by
    have ih := bytesL_inj l m (fun z hz => h1 z (by simp [hz])) (fun z hz => h2 z (by simp [hz]))
    have hx := h1 x (by simp)
    have hy := h2 y (by simp)
    simp only [bytesL, List.map_cons, List.cons.injEq] at ih ⊢
    rw [ih]
    refine and_congr_left (fun _ => ⟨fun h => ?_, fun h => by rw [h]⟩)
    have := congrArg UInt8.toNat h
    simpa [Nat.mod_eq_of_lt hx, Nat.mod_eq_of_lt hy] using this
theorem charN_lt (n : Nat) (hn : n ≤ 1114111) : ∀ x ∈ charN n, x < 256 := by
  intro x hx
  unfold charN at hx
  by_cases h0 : 1114111 < n ∨ (55296 ≤ n ∧ n ≤ 57343)
  · rw [if_pos h0] at hx; simp at hx
  · rw [if_neg h0] at hx
    by_cases h1 : n < 128
    · rw [if_pos h1] at hx; simp at hx; omega
    · rw [if_neg h1] at hx
      by_cases h2 : n < 2048
      · rw [if_pos h2] at hx; simp at hx; omega
      · rw [if_neg h2] at hx
        by_cases h3 : n < 65536
        · rw [if_pos h3] at hx; simp at hx; omega
        · rw [if_neg h3] at hx; simp at hx; omega
def okZ (s : ByteArray) (p z : Nat) (x : Int) : Prop := 0 ≤ x ∧ x ≤ 1114111 ∧ charN x.toNat = (List.range z).map fun i => B s (p + i)
theorem fin_at (k : Nat) (s : ByteArray) (p z : Nat) (x : Int) (hp : p + z ≤ s.size) (hs : s.size ≤ 1000000) :
    (okZ s p z x → dioramaref05_At.l1 (k + 2) s (p : Int) (z : Int) x (z : Int) = some (x, (z : Int))) ∧ (¬ okZ s p z x → dioramaref05_At.l1 (k + 2) s (p : Int) (z : Int) x (z : Int) = dioramaref05_At.l0 (k + 1) s (p : Int) ((z + 1 : Nat) : Int)) := by
  have hz : wrap64 ((z : Int) + 1) = ((z + 1 : Nat) : Int) := by rw [wrap64_in _ (by omega)]; rfl
  have hpz : wrap64 ((p : Int) + z) = ((p + z : Nat) : Int) := by rw [wrap64_in _ (by omega)]; rfl
  rw [dioramaref05_At.l1, if_neg (Int.lt_irrefl _), hz]
  by_cases h0 : x ≥ 0
  · rw [if_pos h0]
    by_cases h1 : x ≤ 1114111
    · rw [if_pos h1]
      have hw : wrap32 x = x := wrap32_in x (by omega)
      obtain ⟨n, rfl⟩ : ∃ n : Nat, x = (n : Int) := ⟨x.toNat, by omega⟩
      have hn : n ≤ 1114111 := by omega
      obtain ⟨t, ht, hb⟩ := char_f k n hn
      rw [hw, ht, Option.bind_some, hpz, if_pos (Int.natCast_nonneg p), if_pos (show (p : Int) ≤ ((p + z : Nat) : Int) by omega), if_pos (show ((p + z : Nat) : Int) ≤ (s.size : Int) by omega)]
      rw [hb, Int.toNat_natCast, Int.toNat_natCast, ext_bytes s p z hp]
      have hi := bytesL_inj (charN n) ((List.range z).map fun i => B s (p + i)) (charN_lt n hn) (fun x hx => by
        obtain ⟨i, _, rfl⟩ := List.mem_map.1 hx
        exact B_lt _ _)
      refine ⟨fun hok => ?_, fun hok => ?_⟩
      · rw [if_pos (hi.2 (by have := hok.2.2; rwa [Int.toNat_natCast] at this))]
      · rw [if_neg (fun h => hok ⟨h0, h1, by rw [Int.toNat_natCast]; exact hi.1 h⟩)]
    · rw [if_neg h1]
      exact ⟨fun h => absurd h.2.1 h1, fun _ => rfl⟩
  · rw [if_neg h0]
    exact ⟨fun h => absurd h.1 h0, fun _ => rfl⟩
theorem l1_step (k : Nat) (s : ByteArray) (p z j : Nat) (x : Int) (hj : j < z) (hp : p + z ≤ s.size) (hs : s.size ≤ 1000000) (hx : -100000000 ≤ x ∧ x ≤ 100000000) :
    dioramaref05_At.l1 (k + 1) s (p : Int) (z : Int) x (j : Int) = dioramaref05_At.l1 k s (p : Int) (z : Int) (64 * x + (B s (p + j) : Int) - 128) ((j + 1 : Nat) : Int) := by
  have hb := B_lt s (p + j)
  rw [dioramaref05_At.l1, if_pos (show (j : Int) < z by omega)]
  have e1 : wrap64 ((p : Int) + j) = ((p + j : Nat) : Int) := by rw [wrap64_in _ (by omega)]; rfl
  have e2 : wrap64 ((j : Int) + 1) = ((j + 1 : Nat) : Int) := by rw [wrap64_in _ (by omega)]; rfl
  rw [e1, e2, if_pos (Int.natCast_nonneg _), if_pos (show ((p + j : Nat) : Int) < (s.size : Int) by omega), bt_B s (p + j) (by omega)]
  clear e1 e2
  generalize B s (p + j) = y at hb
  rw [wrap64_in (64 * x) (by omega), wrap64_in (y : Int) (by omega), wrap64_in (64 * x + y) (by omega), wrap64_in (64 * x + y - 128) (by omega)]
def numZ (s : ByteArray) (p z : Nat) : Int :=
  if z = 1 then B s p else if z = 2 then 64 * ((B s p : Int) - 192) + B s (p + 1) - 128
  else if z = 3 then 64 * (64 * ((B s p : Int) - 224) + B s (p + 1) - 128) + B s (p + 2) - 128
  else 64 * (64 * (64 * ((B s p : Int) - 240) + B s (p + 1) - 128) + B s (p + 2) - 128) + B s (p + 3) - 128
theorem l0_step (k : Nat) (s : ByteArray) (p z : Nat) (hz : 1 ≤ z ∧ z ≤ 4) (hs : s.size ≤ 1000000) (hp : p < s.size) :
    (p + z ≤ s.size → okZ s p z (numZ s p z) → dioramaref05_At.l0 (k + 1 + 5 + z) s (p : Int) (z : Int) = some (numZ s p z, (z : Int)))
    ∧ (p + z ≤ s.size → ¬ okZ s p z (numZ s p z) → dioramaref05_At.l0 (k + 1 + 5 + z) s (p : Int) (z : Int) = dioramaref05_At.l0 (k + 1) s (p : Int) ((z + 1 : Nat) : Int))
    ∧ (¬ p + z ≤ s.size → dioramaref05_At.l0 (k + 1 + 5 + z) s (p : Int) (z : Int) = some (0, 0)) := by
  have hb := B_lt s p
  have hw : wrap64 ((p : Int) + z) = ((p + z : Nat) : Int) := by rw [wrap64_in _ (by omega)]; rfl
  have e0 : dioramaref05_At.l0 (k + 1 + 5 + z) s (p : Int) (z : Int) = dioramaref05_At.j1 (k + 1 + 4 + z) s (p : Int) (z : Int) (decide (p + z ≤ s.size)) := by
    rw [show k + 1 + 5 + z = (k + 1 + 4 + z) + 1 by omega, dioramaref05_At.l0, if_pos (show (z : Int) ≤ 4 by omega), hw]
    congr 1
    exact decide_eq_decide.2 (by omega)
  rw [e0]
  clear e0 hw
  by_cases hpz : p + z ≤ s.size
  · rw [decide_eq_true hpz, show k + 1 + 4 + z = (k + 1 + 3 + z) + 1 by omega, dioramaref05_At.j1, if_pos rfl, if_pos (Int.natCast_nonneg p), if_pos (show (p : Int) < s.size by omega), bt_B s p hp, wrap64_in (B s p : Int) (by generalize B s p = y at hb; omega)]
    have c : ∀ x : Int, dioramaref05_At.j4 (k + 1 + 1 + z) s (p : Int) (z : Int) x = dioramaref05_At.l1 (k + 1 + z) s (p : Int) (z : Int) x 1 := fun x => by
      rw [show k + 1 + 1 + z = (k + 1 + z) + 1 by omega, dioramaref05_At.j4]
    have key : dioramaref05_At.l1 (k + 1 + z) s (p : Int) (z : Int) ((B s p : Int) - (if z = 2 then 192 else if z = 3 then 224 else if z = 4 then 240 else 0)) 1 = dioramaref05_At.l1 (k + 2) s (p : Int) (z : Int) (numZ s p z) (z : Int) := by
      have b1 := B_lt s (p + 1)
      have b2 := B_lt s (p + 2)
      have hz4 : z = 1 ∨ z = 2 ∨ z = 3 ∨ z = 4 := by omega
      rcases hz4 with rfl | rfl | rfl | rfl
      · unfold numZ; simp
      · have h1 := l1_step (k + 2) s p 2 1 ((B s p : Int) - 192) (by omega) hpz hs (by generalize B s p = y at hb; omega)
        exact h1
      · have h1 := l1_step (k + 3) s p 3 1 ((B s p : Int) - 224) (by omega) hpz hs (by generalize B s p = y at hb; omega)
        have h2 := l1_step (k + 2) s p 3 2 (64 * ((B s p : Int) - 224) + B s (p + 1) - 128) (by omega) hpz hs (by generalize B s p = y at hb; generalize B s (p + 1) = y1 at b1; omega)
        exact h1.trans h2
      · have h1 := l1_step (k + 4) s p 4 1 ((B s p : Int) - 240) (by omega) hpz hs (by generalize B s p = y at hb; omega)
        have h2 := l1_step (k + 3) s p 4 2 (64 * ((B s p : Int) - 240) + B s (p + 1) - 128) (by omega) hpz hs (by generalize B s p = y at hb; generalize B s (p + 1) = y1 at b1; omega)
        have h3 := l1_step (k + 2) s p 4 3 (64 * (64 * ((B s p : Int) - 240) + B s (p + 1) - 128) + B s (p + 2) - 128) (by omega) hpz hs (by generalize B s p = y at hb; generalize B s (p + 1) = y1 at b1; generalize B s (p + 2) = y2 at b2; omega)
        exact h1.trans (h2.trans h3)
    have hall : (if (z : Int) = 2 then (dioramaref05_At.j2 (k + 1 + 3 + z) s (p : Int) (z : Int) (wrap64 ((B s p : Int) - 192))) else (dioramaref05_At.j2 (k + 1 + 3 + z) s (p : Int) (z : Int) (B s p : Int))) = dioramaref05_At.l1 (k + 2) s (p : Int) (z : Int) (numZ s p z) (z : Int) := by
      rw [← key, ← c]
      have f2 : ∀ x : Int, dioramaref05_At.j2 (k + 1 + 3 + z) s (p : Int) (z : Int) x = (if (z : Int) = 3 then (dioramaref05_At.j3 (k + 1 + 2 + z) s (p : Int) (z : Int) (wrap64 (x - 224))) else (dioramaref05_At.j3 (k + 1 + 2 + z) s (p : Int) (z : Int) x)) := fun x => by
        rw [show k + 1 + 3 + z = (k + 1 + 2 + z) + 1 by omega, dioramaref05_At.j2]
      have f3 : ∀ x : Int, dioramaref05_At.j3 (k + 1 + 2 + z) s (p : Int) (z : Int) x = (if (z : Int) = 4 then (dioramaref05_At.j4 (k + 1 + 1 + z) s (p : Int) (z : Int) (wrap64 (x - 240))) else (dioramaref05_At.j4 (k + 1 + 1 + z) s (p : Int) (z : Int) x)) := fun x => by
        rw [show k + 1 + 2 + z = (k + 1 + 1 + z) + 1 by omega, dioramaref05_At.j3]
      have w1 : wrap64 ((B s p : Int) - 192) = (B s p : Int) - 192 := wrap64_in _ (by generalize B s p = y at hb; omega)
      have w2 : wrap64 ((B s p : Int) - 224) = (B s p : Int) - 224 := wrap64_in _ (by generalize B s p = y at hb; omega)
      have w3 : wrap64 ((B s p : Int) - 240) = (B s p : Int) - 240 := wrap64_in _ (by generalize B s p = y at hb; omega)
      have hz4 : z = 1 ∨ z = 2 ∨ z = 3 ∨ z = 4 := by omega
      rcases hz4 with rfl | rfl | rfl | rfl
      · rw [if_neg (by decide), f2, if_neg (by decide), f3, if_neg (by decide), if_neg (by decide), if_neg (by decide), if_neg (by decide), Int.sub_zero]
      · rw [if_pos (by decide), w1, f2, if_neg (by decide), f3, if_neg (by decide), if_pos (by decide)]
      · rw [if_neg (by decide), f2, if_pos (by decide), w2, f3, if_neg (by decide), if_neg (by decide), if_pos (by decide)]
      · rw [if_neg (by decide), f2, if_neg (by decide), f3, if_pos (by decide), w3, if_neg (by decide), if_neg (by decide), if_pos (by decide)]
    rw [hall]
    have hf := fin_at k s p z (numZ s p z) hpz hs
    exact ⟨fun _ h => hf.1 h, fun _ h => hf.2 h, fun h => absurd hpz h⟩
  · rw [decide_eq_false hpz, show k + 1 + 4 + z = (k + 1 + 3 + z) + 1 by omega, dioramaref05_At.j1, if_neg (by decide)]
    exact ⟨fun h => absurd h hpz, fun h => absurd h hpz, fun _ => rfl⟩
end Go.Proofs.YtglfebpgdghlfaaDoor.L
end
section
namespace Go.Proofs.YtglfebpgdghlfaaDoor.L
open Go.RowKit Go.ChangeShapes Go.WideShapes Go.Proofs.YtglfebpgdghlfaaDoorW.PrintWords Go.Proofs.YtglfebpgdghlfaaDoorW.PrintLast Go.Proofs.YtglfebpgdghlfaaDoorW.PrintMore
attribute [local go_sem] max2_int min2_int max_two min_two max_three min_three max_four min_four
open Go.Proofs.YtglfebpgdghlfaaDoor.PUpgradeUps
theorem range4 {α : Type} (f : Nat → α) : (List.range 1).map f = [f 0] ∧ (List.range 2).map f = [f 0, f 1] ∧ (List.range 3).map f = [f 0, f 1, f 2] ∧ (List.range 4).map f = [f 0, f 1, f 2, f 3] := ⟨rfl, rfl, rfl, rfl⟩
def okN (b0 b1 b2 b3 z : Nat) (x : Int) : Prop := 0 ≤ x ∧ x ≤ 1114111 ∧ charN x.toNat = (if z = 1 then [b0] else if z = 2 then [b0, b1] else if z = 3 then [b0, b1, b2] else [b0, b1, b2, b3])
def nuN (b0 b1 b2 b3 z : Nat) : Int :=
  if z = 1 then b0 else if z = 2 then 64 * ((b0 : Int) - 192) + b1 - 128
  else if z = 3 then 64 * (64 * ((b0 : Int) - 224) + b1 - 128) + b2 - 128
  else 64 * (64 * (64 * ((b0 : Int) - 240) + b1 - 128) + b2 - 128) + b3 - 128
theorem okZ_N (s : ByteArray) (p z : Nat) (hz : 1 ≤ z ∧ z ≤ 4) (x : Int) : okZ s p z x ↔ okN (B s p) (B s (p + 1)) (B s (p + 2)) (B s (p + 3)) z x := by
  unfold okZ okN
  have h4 : z = 1 ∨ z = 2 ∨ z = 3 ∨ z = 4 := by omega
  have r := range4 (fun i => B s (p + i))
  rcases h4 with rfl | rfl | rfl | rfl
  · rw [r.1]; rfl
  · rw [r.2.1]; rfl
  · rw [r.2.2.1]; rfl
  · rw [r.2.2.2]; rfl
theorem charN_cases (n : Nat) (hn : n ≤ 1114111) : (charN n = [] ∧ 55296 ≤ n ∧ n ≤ 57343) ∨ (charN n = [n] ∧ n < 128) ∨ (charN n = [192 + n / 64, 128 + n % 64] ∧ 128 ≤ n ∧ n < 2048) ∨ (charN n = [224 + n / 4096, 128 + n / 64 % 64, 128 + n % 64] ∧ 2048 ≤ n ∧ n < 65536 ∧ ¬ (55296 ≤ n ∧ n ≤ 57343)) ∨ (charN n = [240 + n / 262144, 128 + n / 4096 % 64, 128 + n / 64 % 64, 128 + n % 64] ∧ 65536 ≤ n) := by
  unfold charN
  by_cases h0 : 55296 ≤ n ∧ n ≤ 57343
  · rw [if_pos (.inr h0)]; exact .inl ⟨rfl, h0⟩
  · rw [if_neg (by omega)]
    by_cases h1 : n < 128
    · rw [if_pos h1]; exact .inr (.inl ⟨rfl, h1⟩)
    · rw [if_neg h1]
      by_cases h2 : n < 2048
      · rw [if_pos h2]; exact .inr (.inr (.inl ⟨rfl, by omega, h2⟩))
      · rw [if_neg h2]
        by_cases h3 : n < 65536
        · rw [if_pos h3]; exact .inr (.inr (.inr (.inl ⟨rfl, by omega, h3, h0⟩)))
        · rw [if_neg h3]; exact .inr (.inr (.inr (.inr ⟨rfl, by omega⟩)))
theorem ok_dec (r b0 b1 b2 b3 z : Nat) (hz : 1 ≤ z ∧ z ≤ 4) (hr : z ≤ r) (h : okN b0 b1 b2 b3 z (nuN b0 b1 b2 b3 z)) :
    Lib.decodeN r b0 b1 b2 b3 = ((nuN b0 b1 b2 b3 z).toNat, z) ∧ ¬ ((nuN b0 b1 b2 b3 z).toNat = 65533 ∧ z = 1) := by
  obtain ⟨h0, h1, h2⟩ := h
  have hc := charN_cases (nuN b0 b1 b2 b3 z).toNat (by omega)
  have hmx : (nuN b0 b1 b2 b3 z).toNat ≤ 1114111 := by omega
  generalize (nuN b0 b1 b2 b3 z).toNat = n at *
  clear h0 h1
  have h4 : z = 1 ∨ z = 2 ∨ z = 3 ∨ z = 4 := by omega
  rcases h4 with rfl | rfl | rfl | rfl
  · rw [if_pos rfl] at h2
    rcases hc with ⟨hc, ha⟩ | ⟨hc, ha⟩ | ⟨hc, ha⟩ | ⟨hc, ha⟩ | ⟨hc, ha⟩ <;> rw [hc] at h2 <;> simp only [List.cons.injEq, reduceCtorEq, and_true, and_false, false_and] at h2
    subst h2
    unfold Lib.decodeN
    rw [if_pos ha]
    exact ⟨rfl, by omega⟩
  · rw [if_neg (by decide), if_pos rfl] at h2
    rcases hc with ⟨hc, ha⟩ | ⟨hc, ha⟩ | ⟨hc, ha⟩ | ⟨hc, ha⟩ | ⟨hc, ha⟩ <;> rw [hc] at h2 <;> simp only [List.cons.injEq, reduceCtorEq, and_true, and_false, false_and] at h2
    obtain ⟨e0, e1⟩ := h2
    unfold Lib.decodeN
    rw [if_neg (by omega), if_pos (by omega), if_pos (by omega)]
    exact ⟨Prod.ext (by show _ = n; omega) rfl, by omega⟩
  · rw [if_neg (by decide), if_neg (by decide), if_pos rfl] at h2
    rcases hc with ⟨hc, ha⟩ | ⟨hc, ha⟩ | ⟨hc, ha⟩ | ⟨hc, ha⟩ | ⟨hc, ha⟩ <;> rw [hc] at h2 <;> simp only [List.cons.injEq, reduceCtorEq, and_true, and_false, false_and] at h2
    obtain ⟨e0, e1, e2⟩ := h2
    unfold Lib.decodeN
    rw [if_neg (by omega), if_neg (by omega), if_pos (by omega), if_pos (by omega)]
    exact ⟨Prod.ext (by show _ = n; omega) rfl, by omega⟩
  · rw [if_neg (by decide), if_neg (by decide), if_neg (by decide)] at h2
    rcases hc with ⟨hc, ha⟩ | ⟨hc, ha⟩ | ⟨hc, ha⟩ | ⟨hc, ha⟩ | ⟨hc, ha⟩ <;> rw [hc] at h2 <;> simp only [List.cons.injEq, reduceCtorEq, and_true, and_false, false_and] at h2
    obtain ⟨e0, e1, e2, e3⟩ := h2
    unfold Lib.decodeN
    rw [if_neg (by omega), if_neg (by omega), if_neg (by omega), if_pos (by omega), if_pos (by omega)]
    exact ⟨Prod.ext (by show _ = n; omega) rfl, by omega⟩
theorem dec_ok (r b0 b1 b2 b3 : Nat) (k0 : b0 < 256) (k1 : b1 < 256) (k2 : b2 < 256) (k3 : b3 < 256) :
    Lib.decodeN r b0 b1 b2 b3 = (65533, 1) ∨ ∃ z, 1 ≤ z ∧ z ≤ 4 ∧ (z = 1 ∨ z ≤ r) ∧ okN b0 b1 b2 b3 z (nuN b0 b1 b2 b3 z) := by
  rcases Lib.decodeN_shape r b0 b1 b2 b3 with ⟨c, e⟩ | ⟨c1, c2, c3, cv, e⟩ | ⟨c1, c2, c3, c4, cv, cs, e⟩ | ⟨c1, c2, c3, c4, c5, cv, cw, e⟩ | e
  · refine .inr ⟨1, by omega, by omega, .inl rfl, ?_⟩
    have hn : nuN b0 b1 b2 b3 1 = ((b0 : Nat) : Int) := rfl
    rw [hn]
    refine ⟨by omega, by omega, ?_⟩
    rw [Int.toNat_natCast, if_pos rfl]
    unfold charN
    rw [if_neg (by omega), if_pos c]
  · refine .inr ⟨2, by omega, by omega, .inr (by omega), ?_⟩
    have hn : nuN b0 b1 b2 b3 2 = ((b0 % 32 * 64 + b1 % 64 : Nat) : Int) := by
      show 64 * ((b0 : Int) - 192) + b1 - 128 = _
      omega
    rw [hn]
    clear hn e
    refine ⟨by omega, by omega, ?_⟩
    rw [Int.toNat_natCast, if_neg (by decide), if_pos rfl]
    unfold charN
    rw [if_neg (by omega), if_neg (by omega), if_pos (by omega)]
    rw [show 192 + (b0 % 32 * 64 + b1 % 64) / 64 = b0 by omega, show 128 + (b0 % 32 * 64 + b1 % 64) % 64 = b1 by omega]
  · refine .inr ⟨3, by omega, by omega, .inr (by omega), ?_⟩
    have hn : nuN b0 b1 b2 b3 3 = ((b0 % 16 * 4096 + b1 % 64 * 64 + b2 % 64 : Nat) : Int) := by
      show 64 * (64 * ((b0 : Int) - 224) + b1 - 128) + b2 - 128 = _
      omega
    rw [hn]
    clear hn e
    refine ⟨by omega, by omega, ?_⟩
    rw [Int.toNat_natCast, if_neg (by decide), if_neg (by decide), if_pos rfl]
    unfold charN
    rw [if_neg (by omega), if_neg (by omega), if_neg (by omega), if_pos (by omega)]
    rw [show 224 + (b0 % 16 * 4096 + b1 % 64 * 64 + b2 % 64) / 4096 = b0 by omega, show 128 + (b0 % 16 * 4096 + b1 % 64 * 64 + b2 % 64) / 64 % 64 = b1 by omega, show 128 + (b0 % 16 * 4096 + b1 % 64 * 64 + b2 % 64) % 64 = b2 by omega]
  · refine .inr ⟨4, by omega, by omega, .inr (by omega), ?_⟩
    have hn : nuN b0 b1 b2 b3 4 = ((b0 % 8 * 262144 + b1 % 64 * 4096 + b2 % 64 * 64 + b3 % 64 : Nat) : Int) := by
      show 64 * (64 * (64 * ((b0 : Int) - 240) + b1 - 128) + b2 - 128) + b3 - 128 = _
      omega
    rw [hn]
    clear hn e
    refine ⟨by omega, by omega, ?_⟩
    rw [Int.toNat_natCast, if_neg (by decide), if_neg (by decide), if_neg (by decide)]
    unfold charN
    rw [if_neg (by omega), if_neg (by omega), if_neg (by omega), if_neg (by omega)]
    rw [show 240 + (b0 % 8 * 262144 + b1 % 64 * 4096 + b2 % 64 * 64 + b3 % 64) / 262144 = b0 by omega, show 128 + (b0 % 8 * 262144 + b1 % 64 * 4096 + b2 % 64 * 64 + b3 % 64) / 4096 % 64 = b1 by omega, show 128 + (b0 % 8 * 262144 + b1 % 64 * 4096 + b2 % 64 * 64 + b3 % 64) / 64 % 64 = b2 by omega, show 128 + (b0 % 8 * 262144 + b1 % 64 * 4096 + b2 % 64 * 64 + b3 % 64) % 64 = b3 by omega]
  · exact .inl e
theorem decode_B (s : ByteArray) (p : Nat) : Utf8.decode s p = Lib.decodeN (s.size - p) (B s p) (B s (p + 1)) (B s (p + 2)) (B s (p + 3)) := Lib.decode_at s p
theorem nuN_B (s : ByteArray) (p z : Nat) : numZ s p z = nuN (B s p) (B s (p + 1)) (B s (p + 2)) (B s (p + 3)) z := rfl
theorem found (s : ByteArray) (p z : Nat) (hz : 1 ≤ z ∧ z ≤ 4) (hp : p + z ≤ s.size) (h : okZ s p z (numZ s p z)) : ¬ Utf8.decode s p = (65533, 1) ∧ (z : Int) = ((Utf8.decode s p).2 : Int) := by
  have h1 := ok_dec (s.size - p) _ _ _ _ z hz (by omega) (by rw [← nuN_B]; exact (okZ_N s p z hz _).1 h)
  rw [decode_B, h1.1]
  exact ⟨fun e => h1.2 ⟨(Prod.mk.inj e).1, (Prod.mk.inj e).2⟩, rfl⟩
theorem none_bad (s : ByteArray) (p : Nat) (hp : p < s.size) (h : ∀ z, 1 ≤ z → z ≤ 4 → ¬ (p + z ≤ s.size ∧ okZ s p z (numZ s p z))) : Utf8.decode s p = (65533, 1) := by
  rw [decode_B]
  refine (dec_ok (s.size - p) _ _ _ _ (B_lt _ _) (B_lt _ _) (B_lt _ _) (B_lt _ _)).resolve_right ?_
  rintro ⟨z, h1, h4, hr, hok⟩
  exact h z h1 h4 ⟨by omega, by rw [okZ_N s p z ⟨h1, h4⟩, nuN_B]; exact hok⟩
def AtPost (s : ByteArray) (p : Nat) (r : Option (Int × Int)) : Prop := ∃ c n : Int, r = some (c, n) ∧ (Utf8.decode s p = (65533, 1) → n = 0) ∧ (¬ Utf8.decode s p = (65533, 1) → n = ((Utf8.decode s p).2 : Int))
theorem at_step (s : ByteArray) (p z k : Nat) (hs : s.size ≤ 1000000) (hp : p < s.size) (hz : 1 ≤ z ∧ z ≤ 4) (hprev : ∀ y, 1 ≤ y → y < z → ¬ (p + y ≤ s.size ∧ okZ s p y (numZ s p y)))
    (hnext : (∀ y, 1 ≤ y → y < z + 1 → ¬ (p + y ≤ s.size ∧ okZ s p y (numZ s p y))) → AtPost s p (dioramaref05_At.l0 (k + 1) s (p : Int) ((z + 1 : Nat) : Int))) : AtPost s p (dioramaref05_At.l0 (k + 1 + 5 + z) s (p : Int) (z : Int)) := by
  have hst := l0_step k s p z hz hs hp
  by_cases h1 : p + z ≤ s.size
  · by_cases h2 : okZ s p z (numZ s p z)
    · rw [hst.1 h1 h2]
      have hf := found s p z hz h1 h2
      exact ⟨_, _, rfl, fun h => absurd h hf.1, fun _ => hf.2⟩
    · rw [hst.2.1 h1 h2]
      refine hnext (fun y hy1 hy2 => ?_)
      by_cases he : y = z
      · subst he; exact fun h => h2 h.2
      · exact hprev y hy1 (by omega)
  · rw [hst.2.2 h1]
    have hb := none_bad s p hp (fun y hy1 hy2 => by
      by_cases he : y < z
      · exact hprev y hy1 he
      · exact fun h => h1 (by have := h.1; omega))
    exact ⟨_, _, rfl, fun _ => rfl, fun h => absurd hb h⟩
theorem at_f (s : ByteArray) (p K : Nat) (hs : s.size ≤ 1000000) (hp : p < s.size) : AtPost s p (dioramaref05_At.f (K + 32) s (p : Int)) := by
  unfold dioramaref05_At.f
  refine at_step s p 1 (K + 25) hs hp (by omega) (fun y h1 h2 => by omega) (fun h1 => ?_)
  refine at_step s p 2 (K + 18) hs hp (by omega) h1 (fun h2 => ?_)
  refine at_step s p 3 (K + 10) hs hp (by omega) h2 (fun h3 => ?_)
  refine at_step s p 4 (K + 1) hs hp (by omega) h3 (fun h4 => ?_)
  rw [dioramaref05_At.l0, if_neg (by decide), dioramaref05_At.j1, if_neg (by decide)]
  have hb := none_bad s p hp (fun y hy1 hy2 => h4 y hy1 (by omega))
  exact ⟨_, _, rfl, fun _ => rfl, fun h => absurd hb h⟩
theorem read_l0 (s : ByteArray) (hs : s.size ≤ 1000000) : ∀ (m p K : Nat) (acc : List Int), s.size ≤ p + m → p ≤ s.size → acc.length ≤ p →
    ∃ l, ∃ q : Nat, dioramaref05_Read.l0 (K + 33 + m) s acc (p : Int) = some (l, (q : Int)) ∧ (q = s.size ↔ utfFrom s m p = -1)
  | 0, p, K, acc, h1, h2, h3 => by
    rw [show K + 33 + 0 = (K + 32) + 1 by omega, dioramaref05_Read.l0, if_neg (by omega)]
    exact ⟨_, p, rfl, fun _ => rfl, fun _ => by omega⟩
  | m + 1, p, K, acc, h1, h2, h3 => by
    rw [show K + 33 + (m + 1) = (K + 33 + m) + 1 by omega, dioramaref05_Read.l0]
    by_cases hp : p < s.size
    · rw [if_pos (show (p : Int) < s.size by omega)]
      obtain ⟨c, n, he, hb, hg⟩ := at_f s p (K + 1 + m) hs hp
      rw [show K + 33 + m = K + 1 + m + 32 by omega, he, Option.bind_some]
      unfold utfFrom
      rw [if_pos hp]
      by_cases hd : Utf8.decode s p = (65533, 1)
      · rw [if_pos (hb hd), if_pos hd]
        exact ⟨_, p, rfl, fun h => by omega, fun h => by omega⟩
      · have hn := hg hd
        have hbd := decode_bound s p
        have hbd3 := hbd.2.2 hp
        rw [if_neg (by show ¬ n = 0; omega), if_neg hd]
        dsimp only
        rw [if_pos (by omega), hn, wrap64_in ((p : Int) + _) (by omega), show K + 1 + m + 32 = K + 33 + m by omega]
        exact read_l0 s hs m (p + (Utf8.decode s p).2) K _ (by omega) (by omega) (by rw [List.length_append]; simp; omega)
    · rw [if_neg (show ¬ (p : Int) < s.size by omega), utfFrom_end hp]
      exact ⟨_, p, rfl, fun _ => rfl, fun _ => by omega⟩
theorem utf_ok_iff (s : ByteArray) : utfOk s = true ↔ utfFrom s s.size 0 ≠ -1 → False := by
  unfold utfOk utfFirst
  rw [decide_eq_true_iff]
  refine ⟨fun h hn => ?_, fun h => ?_⟩
  · have hge : ∀ (f p : Nat), utfFrom s f p = -1 ∨ 0 ≤ utfFrom s f p := fun f => by
      induction f with
      | zero => intro p; exact .inl rfl
      | succ f ih =>
        intro p
        unfold utfFrom
        split
        · split
          · exact .inr (by omega)
          · exact ih _
        · exact .inl rfl
    rcases hge s.size 0 with h0 | h0
    · exact hn h0
    · omega
  · have : utfFrom s s.size 0 = -1 := Classical.byContradiction h
    rw [this]; decide
theorem right_f (s : ByteArray) (hs : s.size ≤ 1000000) (k : Nat) (hk : s.size + 33 ≤ k) : dioramaref05_Right.f k s = some (utfOk s) := by
  obtain ⟨K, rfl⟩ : ∃ K, k = K + 33 + s.size := ⟨k - 33 - s.size, by omega⟩
  obtain ⟨l, q, he, hq⟩ := read_l0 s hs s.size 0 K [] (by omega) (by omega) (by simp)
  unfold dioramaref05_Right.f dioramaref05_Read.f
  rw [show ((0 : Int)) = ((0 : Nat) : Int) from rfl, he, Option.bind_some]
  congr 1
  show ((q : Int) == (s.size : Int)) = utfOk s
  have h1 := utf_ok_iff s
  by_cases h : utfFrom s s.size 0 = -1
  · have e1 := hq.2 h
    have e2 : utfOk s = true := h1.2 (fun hn => hn h)
    rw [e1, e2]; simp
  · have e1 : ¬ q = s.size := fun e => h (hq.1 e)
    have e2 : utfOk s = false := Bool.eq_false_iff.2 (fun e => h1.1 e h)
    rw [e2]
    exact beq_eq_false_iff_ne.2 (by omega)
end Go.Proofs.YtglfebpgdghlfaaDoor.L
end
section
namespace Go.Proofs.YtglfebpgdghlfaaDoor.L
open Go.RowKit Go.ChangeShapes Go.WideShapes Go.Proofs.YtglfebpgdghlfaaDoorW.PrintWords Go.Proofs.YtglfebpgdghlfaaDoorW.PrintLast Go.Proofs.YtglfebpgdghlfaaDoorW.PrintMore
attribute [local go_sem] max2_int min2_int max_two min_two max_three min_three max_four min_four
def inC (c n : Int) : Bool :=
  if c = 1 then true else if c = 2 then decide (-140737488355328 ≤ n) && decide (n ≤ 140737488355328) else if c = 3 then decide (0 ≤ n) && decide (n ≤ 140737488355328)
  else if c = 4 then decide (0 ≤ n) && decide (n ≤ 255) else if c = 5 then (n == 0) || (n == 1) else false
theorem inC_2 (n : Int) : inC 2 n = (decide (-140737488355328 ≤ n) && decide (n ≤ 140737488355328)) := rfl
theorem inC_3 (n : Int) : inC 3 n = (decide (0 ≤ n) && decide (n ≤ 140737488355328)) := rfl
theorem inC_4 (n : Int) : inC 4 n = (decide (0 ≤ n) && decide (n ≤ 255)) := rfl
theorem inC_5 (n : Int) : inC 5 n = ((n == 0) || (n == 1)) := rfl
theorem inC_no {c n : Int} (c1 : ¬ c = 1) (c2 : ¬ c = 2) (c3 : ¬ c = 3) (c4 : ¬ c = 4) (c5 : ¬ c = 5) : inC c n = false := by unfold inC; rw [if_neg c1, if_neg c2, if_neg c3, if_neg c4, if_neg c5]
set_option maxHeartbeats 1000000 in
theorem in_any (c n : Int) (w : World) : Calls Tryd.prog 103 #[.int .i64 c, .int .i64 n] w fun e w' => e = .returned (.bool (inC c n)) ∧ Drawn0 w w' := by
  by_cases c1 : c = 1
  · subst c1
    go_enter Tryd.func103, Tryd.ntmps103
    go_wp2
    go_ret
    exact ⟨rfl, Drawn0.refl _⟩
  by_cases c2 : c = 2
  · subst c2
    by_cases h1 : -140737488355328 ≤ n <;> by_cases h2 : n ≤ 140737488355328
    all_goals
      have E := Aside0.mk (inC_2 n)
      go_enter Tryd.func103, Tryd.ntmps103
      go_wp2
      go_ret
      exact ⟨ret_bool (by rw [E.out]; simp [h1, h2]), by repeat (first | exact Drawn0.refl _ | apply Drawn0.step)⟩
  by_cases c3 : c = 3
  · subst c3
    by_cases h1 : 0 ≤ n <;> by_cases h2 : n ≤ 140737488355328
    all_goals
      have E := Aside0.mk (inC_3 n)
      go_enter Tryd.func103, Tryd.ntmps103
      go_wp2
      go_ret
      exact ⟨ret_bool (by rw [E.out]; simp [h1, h2]), by repeat (first | exact Drawn0.refl _ | apply Drawn0.step)⟩
  by_cases c4 : c = 4
  · subst c4
    by_cases h1 : 0 ≤ n <;> by_cases h2 : n ≤ 255
    all_goals
      have E := Aside0.mk (inC_4 n)
      go_enter Tryd.func103, Tryd.ntmps103
      go_wp2
      go_ret
      exact ⟨ret_bool (by rw [E.out]; simp [h1, h2]), by repeat (first | exact Drawn0.refl _ | apply Drawn0.step)⟩
  by_cases c5 : c = 5
  · subst c5
    have E := Aside0.mk (inC_5 n)
    by_cases h1 : n = 0
    · subst h1
      go_enter Tryd.func103, Tryd.ntmps103
      go_wp2
      go_ret
      exact ⟨rfl, by repeat (first | exact Drawn0.refl _ | apply Drawn0.step)⟩
    · have h0 : (n == 0) = false := by simpa using h1
      by_cases h2 : n = 1
      · subst h2
        go_enter Tryd.func103, Tryd.ntmps103
        go_wp2
        go_ret
        exact ⟨rfl, by repeat (first | exact Drawn0.refl _ | apply Drawn0.step)⟩
      · have h3 : (n == 1) = false := by simpa using h2
        go_enter Tryd.func103, Tryd.ntmps103
        go_wp2
        go_ret
        exact ⟨ret_bool (by rw [E.out]; simp [h1, h2]), by repeat (first | exact Drawn0.refl _ | apply Drawn0.step)⟩
  · have E := Aside0.mk (inC_no (n := n) c1 c2 c3 c4 c5)
    go_enter Tryd.func103, Tryd.ntmps103
    go_wp2
    go_ret
    exact ⟨ret_bool E.out.symm, by repeat (first | exact Drawn0.refl _ | apply Drawn0.step)⟩
end Go.Proofs.YtglfebpgdghlfaaDoor.L
end
section
namespace Go.Proofs.YtglfebpgdghlfaaDoor.L
open Go.RowKit Go.ChangeShapes Go.WideShapes Go.Proofs.YtglfebpgdghlfaaDoorW.PrintWords Go.Proofs.YtglfebpgdghlfaaDoorW.PrintLast Go.Proofs.YtglfebpgdghlfaaDoorW.PrintMore
attribute [local go_sem] max2_int min2_int max_two min_two max_three min_three max_four min_four
def numsOk (l cl : List Int) : Bool := decide (l.length = cl.length ∧ ∀ j, j < l.length → inC (rd cl j) (rd l j) = true)
theorem numsOk_len {l cl : List Int} (h : ¬ l.length = cl.length) : numsOk l cl = false := decide_eq_false (fun h' => h h'.1)
theorem numsOk_bad {l cl : List Int} {j : Nat} (hj : j < l.length) (h : inC (rd cl j) (rd l j) = false) : numsOk l cl = false := decide_eq_false (fun h' => by have := h'.2 j hj; rw [h] at this; cases this)
set_option maxHeartbeats 1000000 in
theorem numbers_any (A0 : Option Addr) (c0 : Nat) (l : List Int) (A1 : Option Addr) (c1 : Nat) (cl : List Int) (w : World) (h0 : (Kd.int .i64).C w A0 l.length l) (h1 : (Kd.int .i64).C w A1 cl.length cl) :
    Calls Tryd.prog 68 #[.slice A0 l.length c0, .slice A1 cl.length c1] w fun e w' => e = .returned (.bool (numsOk l cl)) ∧ Drawn0 w w' := by
  have HR0 := Aside0.mk h0
  have HR1 := Aside0.mk h1
  have b0 := h0.2.1
  have b1 := h1.2.1
  clear h0 h1
  by_cases he : l.length = cl.length
  · have hb : ((l.length : Int) != (cl.length : Int)) = false := by simp [he]
    have HE0 := Aside0.mk he
    have hle : l.length ≤ cl.length := by omega
    clear he
    go_enter Tryd.func68, Tryd.ntmps68
    go_wp2
    go_loopw [5, 6, 14] (fun _ _ v14 W => ∃ k : Nat, k ≤ l.length ∧ v14 = .int .i64 k ∧ Aside0 (∀ j, j < k → inC (rd cl j) (rd l j) = true) ∧ Drawn0 w W) (fun _ _ v14 _ => l.length - (intOf v14).toNat)
    case atStart => exact ⟨0, by omega, rfl, ⟨fun j hj => by omega⟩, Drawn0.refl _⟩
    case round =>
      obtain ⟨k, hk, rfl, HP, ⟨m, rfl⟩⟩ := hrel
      by_cases hlt : k < l.length
      · obtain ⟨ad0, rfl, hx0⟩ := at_nat HR0.out k (by omega)
        obtain ⟨ad1, rfl, hx1⟩ := at_nat HR1.out k (by omega)
        have hlt1 : k < cl.length := by omega
        by_cases hi : inC (rd cl k) (rd l k) = true
        · have HI := Aside0.mk hi
          clear hi
          go_wp2_with fail
          refine (in_any (rd cl k) (rd l k) _).mono ?_
          rintro e w' ⟨rfl, ⟨m', rfl⟩⟩
          rw [HI.out]
          go_wp2
          go_roundw
          case rel => exact ⟨k + 1, by omega, by go_num, ⟨ext_lt HP.out HI.out⟩, by repeat (first | exact Drawn0.refl _ | apply Drawn0.step)⟩
          case measure => simp [intOf]; omega
        · have HI := Aside0.mk (Bool.eq_false_iff.2 hi)
          have HE := Aside0.mk (numsOk_bad hlt HI.out)
          clear hi
          go_wp2_with fail
          refine (in_any (rd cl k) (rd l k) _).mono ?_
          rintro e w' ⟨rfl, ⟨m', rfl⟩⟩
          rw [HI.out]
          go_wp2
          go_ret
          exact ⟨ret_bool HE.out.symm, by repeat (first | exact Drawn0.refl _ | apply Drawn0.step)⟩
      · have HE : Aside0 (numsOk l cl = true) := ⟨decide_eq_true ⟨HE0.out, fun j hj => HP.out j (by omega)⟩⟩
        go_wp2
        go_ret
        exact ⟨ret_bool HE.out.symm, by repeat (first | exact Drawn0.refl _ | apply Drawn0.step)⟩
  · have HE := Aside0.mk (numsOk_len he)
    go_enter Tryd.func68, Tryd.ntmps68
    go_wp2
    go_ret
    exact ⟨ret_bool HE.out.symm, by repeat (first | exact Drawn0.refl _ | apply Drawn0.step)⟩
end Go.Proofs.YtglfebpgdghlfaaDoor.L
end
section
namespace Go.Proofs.YtglfebpgdghlfaaDoor.L
open Go.RowKit Go.ChangeShapes Go.WideShapes Go.Proofs.YtglfebpgdghlfaaDoorW.PrintWords Go.Proofs.YtglfebpgdghlfaaDoorW.PrintLast Go.Proofs.YtglfebpgdghlfaaDoorW.PrintMore
attribute [local go_sem] max2_int min2_int max_two min_two max_three min_three max_four min_four
structure Spec where
  ints : List Int
  texts : Int
  least : Int
  most : Int
def specz : Spec := ⟨[], 0, 0, 0⟩
structure SpecC (w : World) (s : Spec) (A : Option Addr) (c : Nat) : Prop where
  l : s.ints.length ≤ c
  i : (Kd.int .i64).C w A s.ints.length s.ints
theorem SpecC.below {w w' : World} {s : Spec} {A : Option Addr} {c : Nat} (h : SpecC w s A c) (hb : Below w.heap.size w w') : SpecC w' s A c := ⟨h.l, Kd.C_below h.i hb⟩
def sp (xs : List Spec) (i : Nat) : Spec := xs.getD i specz
def kSpecG (G : Option Addr → Prop) : Kd Spec where
  sz := 4
  E := []
  K := fun w x cs => ∃ A c, cs = [.slice A x.ints.length c, .int .i64 x.texts, .int .i64 x.least, .int .i64 x.most] ∧ SpecC w x A c ∧ G A
  M := fun _ _ _ _ _ => False
  K_len := by
    rintro w x cs ⟨A, c, rfl, _⟩
    rfl
  K_one := by
    rintro w x cs ⟨A, c, rfl, _⟩ u hu
    simp only [List.mem_cons, List.mem_nil_iff, or_false] at hu
    rcases hu with rfl | rfl | rfl | rfl <;> rfl
  K_below := by
    rintro w w1 x cs hb ⟨A, c, rfl, h, hG⟩
    exact ⟨A, c, rfl, h.below hb, hG⟩
  K_of_M := fun h => h.elim
  M_mono := fun _ h => h
  M_bound := fun h => h.elim
  M_move := fun _ h => h
  M_lower := fun _ h => h
theorem kSpecG_mk {G : Option Addr → Prop} {w : World} {x : Spec} {A : Option Addr} {c n : Nat} (hn : n = x.ints.length) (hc : n ≤ c) (h : (Kd.int .i64).C w A n x.ints) (hG : G A) {t l m : Int} (ht : t = x.texts) (hl : l = x.least) (hm : m = x.most) : (kSpecG G).K w x [.slice A n c, .int .i64 t, .int .i64 l, .int .i64 m] := by
  subst hn ht hl hm
  exact ⟨A, c, rfl, ⟨hc, h⟩, hG⟩
theorem at_specG {G : Option Addr → Prop} {w : World} {A : Option Addr} {n : Nat} {xs : List Spec} (h : (kSpecG G).C w A n xs) (i : Nat) (h1 : i < n) :
    ∃ ad A1 c1, A = some ad ∧ w.cell? (ad.add (i * 4)) = some (.slice A1 (sp xs i).ints.length c1) ∧ w.cell? ⟨(ad.add (i * 4)).block, (ad.add (i * 4)).off + 1, none⟩ = some (.int .i64 (sp xs i).texts) ∧ w.cell? ⟨(ad.add (i * 4)).block, (ad.add (i * 4)).off + 2, none⟩ = some (.int .i64 (sp xs i).least) ∧ w.cell? ⟨(ad.add (i * 4)).block, (ad.add (i * 4)).off + 3, none⟩ = some (.int .i64 (sp xs i).most) ∧ SpecC w (sp xs i) A1 c1 ∧ G A1 := by
  obtain ⟨ad, c, e, _, hK, hc0⟩ := Kd.C_get h specz (i : Int) (by omega) (by omega)
  have hc : ∀ j u, c[j]? = some u → w.cell? (ad.add (i * 4 + j)) = some u := fun j u h => by simpa [show (kSpecG G).sz = 4 from rfl] using hc0 j u h
  have hK' : (kSpecG G).K w (sp xs i) c := by simpa [sp] using hK
  obtain ⟨A1, c1, rfl, hN⟩ := hK'
  refine ⟨ad, A1, c1, e, hc 0 _ rfl, ?_, ?_, ?_, hN⟩
  · rw [← add_field _ _ 1 (by omega)]; exact hc 1 _ rfl
  · rw [← add_field _ _ 2 (by omega)]; exact hc 2 _ rfl
  · rw [← add_field _ _ 3 (by omega)]; exact hc 3 _ rfl
def SpecPost (G : Option Addr → Prop) (r : Option Spec) (w : World) (e : Ending) (w' : World) : Prop :=
  ∃ A c, e = .returned (.tuple #[.agg #[.slice A (r.getD specz).ints.length c, .int .i64 (r.getD specz).texts, .int .i64 (r.getD specz).least, .int .i64 (r.getD specz).most], .bool r.isSome]) ∧ SpecC w' (r.getD specz) A c ∧ G A ∧ Below w.heap.size w w'
def findS (l : List Spec) (k : Int) : Option Spec := if k < 1 ∨ l.length ≤ k then none else some (sp l k.toNat)
set_option maxRecDepth 100000 in
set_option maxHeartbeats 1000000 in
theorem find_any (G : Option Addr → Prop) (hG : G none) (A : Option Addr) (c : Nat) (l : List Spec) (k : Int) (w : World) (h : (kSpecG G).C w A l.length l) (hl : l.length ≤ 100) :
    Calls Tryd.prog 66 #[.slice A l.length c, .int .i64 k] w (SpecPost G (findS l k) w) := by
  have HR := Aside0.mk h
  have HB := Aside0.mk (Below.refl w.heap.size w)
  clear h
  have hu := Tryd.underlying66
  by_cases h1 : k < 1
  · have HE : Aside0 (findS l k = none) := ⟨by unfold findS; rw [if_pos (.inl h1)]⟩
    go_enter Tryd.func66, Tryd.ntmps66
    go_wp2
    rw [HE.out]
    exact bodyPost_ret (v := .tuple #[.agg #[.slice none 0 0, .int .i64 0, .int .i64 0, .int .i64 0], .bool false]) (by simp [results, Tryd.results66, go_sem]) rfl ⟨none, 0, rfl, ⟨Nat.le_refl 0, C_nil _ _⟩, hG, by repeat (first | with_reducible exact HB.out | with_reducible apply below_alloc | with_reducible apply pw_below_drewN | with_reducible apply below_drew1 | (with_reducible refine below_set ?_ (by first | omega | (simp; omega))))⟩
  by_cases h2 : l.length ≤ k
  · have HE : Aside0 (findS l k = none) := ⟨by unfold findS; rw [if_pos (.inr h2)]⟩
    go_enter Tryd.func66, Tryd.ntmps66
    go_wp2
    rw [HE.out]
    exact bodyPost_ret (v := .tuple #[.agg #[.slice none 0 0, .int .i64 0, .int .i64 0, .int .i64 0], .bool false]) (by simp [results, Tryd.results66, go_sem]) rfl ⟨none, 0, rfl, ⟨Nat.le_refl 0, C_nil _ _⟩, hG, by repeat (first | with_reducible exact HB.out | with_reducible apply below_alloc | with_reducible apply pw_below_drewN | with_reducible apply below_drew1 | (with_reducible refine below_set ?_ (by first | omega | (simp; omega))))⟩
  · obtain ⟨j, rfl⟩ : ∃ j : Nat, k = (j : Int) := ⟨k.toNat, by omega⟩
    have HE : Aside0 (findS l (j : Int) = some (sp l j)) := ⟨by unfold findS; rw [if_neg (by omega), Int.toNat_natCast]⟩
    have b1 : j < l.length := by omega
    obtain ⟨ad, A1, c1, rfl, x0, x1, x2, x3, hS, hGA⟩ := at_specG HR.out j (by omega)
    have hb0 := below_alloc (Below.refl w.heap.size w) (.cells #[.slice none 0 0, .int .i64 0, .int .i64 0, .int .i64 0] 66)
    replace x0 := pw_cell_below hb0 x0
    replace x1 := pw_cell_below hb0 x1
    replace x2 := pw_cell_below hb0 x2
    replace x3 := pw_cell_below hb0 x3
    clear hb0
    have HS := Aside0.mk hS
    clear hS
    go_enter Tryd.func66, Tryd.ntmps66
    go_wp2
    rw [HE.out]
    exact bodyPost_ret (v := .tuple #[.agg #[.slice A1 (sp l j).ints.length c1, .int .i64 (sp l j).texts, .int .i64 (sp l j).least, .int .i64 (sp l j).most], .bool true]) (by simp [results, Tryd.results66, go_sem]) rfl ⟨_, _, rfl, HS.out.below (by repeat (first | with_reducible exact HB.out | with_reducible apply below_alloc | with_reducible apply pw_below_drewN | with_reducible apply below_drew1 | (with_reducible refine below_set ?_ (by first | omega | (simp; omega))))), hGA, by repeat (first | with_reducible exact HB.out | with_reducible apply below_alloc | with_reducible apply pw_below_drewN | with_reducible apply below_drew1 | (with_reducible refine below_set ?_ (by first | omega | (simp; omega))))⟩
end Go.Proofs.YtglfebpgdghlfaaDoor.L
end
section
namespace Go.Proofs.YtglfebpgdghlfaaDoor.L
open Go.RowKit Go.ChangeShapes Go.WideShapes Go.Proofs.YtglfebpgdghlfaaDoorW.PrintWords Go.Proofs.YtglfebpgdghlfaaDoorW.PrintLast Go.Proofs.YtglfebpgdghlfaaDoorW.PrintMore
attribute [local go_sem] max2_int min2_int max_two min_two max_three min_three max_four min_four
def textsOk (l : List ByteArray) : Bool := decide (∀ j, j < l.length → utfOk (str l j) = true)
theorem textsOk_bad {l : List ByteArray} {j : Nat} (hj : j < l.length) (h : utfOk (str l j) = false) : textsOk l = false := decide_eq_false (fun h' => by have := h' j hj; rw [h] at this; cases this)
theorem ok70 (s : ByteArray) : decide ((0 : Int) ≤ utfFirst s) = !utfOk s := by
  unfold utfOk
  by_cases h : utfFirst s < 0
  · rw [decide_eq_false (by omega), decide_eq_true h]; rfl
  · rw [decide_eq_true (by omega), decide_eq_false h]; rfl
set_option maxRecDepth 100000 in
set_option maxHeartbeats 1000000 in
theorem bad_any (s : ByteArray) (w : World) (hs : s.size ≤ 1000000) (hT : Tabs w) : Calls Tryd.prog 70 #[.string s] w fun e w' => e = .returned (.bool (!utfOk s)) ∧ Below w.heap.size w w' := by
  have HT := Aside0.mk hT
  have HE := Aside0.mk (ok70 s)
  clear hT
  go_enter Tryd.func70, Tryd.ntmps70
  go_wp2_with fail
  refine (first_any s _ hs HT.out).mono ?_
  rintro e w' ⟨rfl, hB⟩
  have HB := Aside0.mk hB
  clear hB
  go_wp2
  go_ret
  exact ⟨ret_bool HE.out, HB.out⟩
def IdxPost (l : List ByteArray) (w : World) (e : Ending) (w' : World) : Prop := ∃ i : Int, e = .returned (.int .i64 i) ∧ decide (0 ≤ i) = !textsOk l ∧ Below w.heap.size w w'
set_option maxRecDepth 100000 in
set_option maxHeartbeats 1000000 in
theorem badIdx_any (A : Option Addr) (c : Nat) (l : List ByteArray) (w : World) (h : Kd.string.C w A l.length l) (hs : ∀ j, j < l.length → (str l j).size ≤ 1000000) (hT : Tabs w) :
    Calls Tryd.prog 104 #[.slice A l.length c, .func (.func 70) #[] #[]] w (IdxPost l w) := by
  have HR := Aside0.mk h
  have HT := Aside0.mk hT
  have HS := Aside0.mk hs
  have HB := Aside0.mk (Below.refl w.heap.size w)
  have b0 := h.2.1
  clear h hT hs
  go_enter Tryd.func104, Tryd.ntmps104
  go_wp2
  go_loopw [5, 8] (fun _ v8 W => ∃ k : Nat, k ≤ l.length ∧ v8 = .int .i64 k ∧ Aside0 (∀ j, j < k → utfOk (str l j) = true) ∧ Aside0 (Below w.heap.size w W)) (fun _ v8 _ => l.length - (intOf v8).toNat)
  case atStart => exact ⟨0, by omega, rfl, ⟨fun j hj => by omega⟩, HB⟩
  case round =>
    obtain ⟨k, hk, rfl, HP, HB1⟩ := hrel
    by_cases hlt : k < l.length
    · obtain ⟨ad0, rfl, hx0⟩ := at_str (Kd.C_below HR.out HB1.out) k (by omega)
      go_wp2_with fail
      refine (bad_any (str l k) _ (HS.out k hlt) (HT.out.below HB1.out)).mono ?_
      rintro e w' ⟨rfl, hB⟩
      have HB2 := Aside0.mk (below_step HB1.out hB)
      clear hB
      by_cases hi : utfOk (str l k) = true
      · have HI := Aside0.mk hi
        clear hi
        rw [HI.out]
        go_wp2
        go_roundw
        case rel => exact ⟨k + 1, by omega, by go_num, ⟨ext_lt HP.out HI.out⟩, HB2⟩
        case measure => simp [intOf]; omega
      · have HI := Aside0.mk (Bool.eq_false_iff.2 hi)
        clear hi
        rw [HI.out]
        go_wp2
        go_ret
        exact ⟨k, rfl, by rw [textsOk_bad hlt HI.out]; exact decide_eq_true (by omega), HB2.out⟩
    · have HE : Aside0 (textsOk l = true) := ⟨decide_eq_true (fun j hj => HP.out j (by omega))⟩
      go_wp2
      go_ret
      exact ⟨-1, rfl, by rw [HE.out]; rfl, HB1.out⟩
set_option maxRecDepth 100000 in
set_option maxHeartbeats 1000000 in
theorem badTexts_any (A : Option Addr) (c : Nat) (l : List ByteArray) (w : World) (h : Kd.string.C w A l.length l) (hs : ∀ j, j < l.length → (str l j).size ≤ 1000000) (hT : Tabs w) :
    Calls Tryd.prog 69 #[.slice A l.length c, .func (.func 70) #[] #[]] w fun e w' => e = .returned (.bool (!textsOk l)) ∧ Below w.heap.size w w' := by
  have HR := Aside0.mk h
  have HT := Aside0.mk hT
  have HS := Aside0.mk hs
  clear h hT hs
  go_enter Tryd.func69, Tryd.ntmps69
  go_wp2_with fail
  refine (badIdx_any A c l _ HR.out HS.out HT.out).mono ?_
  rintro e w' ⟨i, rfl, hi, hB⟩
  have HI := Aside0.mk hi
  have HB := Aside0.mk hB
  clear hi hB
  go_wp2
  go_ret
  exact ⟨ret_bool HI.out, HB.out⟩
end Go.Proofs.YtglfebpgdghlfaaDoor.L
end
section
namespace Go.Proofs.YtglfebpgdghlfaaDoor.L
open Go.RowKit Go.ChangeShapes Go.WideShapes Go.Proofs.YtglfebpgdghlfaaDoorW.PrintWords Go.Proofs.YtglfebpgdghlfaaDoorW.PrintLast Go.Proofs.YtglfebpgdghlfaaDoorW.PrintMore
attribute [local go_sem] max2_int min2_int max_two min_two max_three min_three max_four min_four
def nodeErr (n : Node) (s : Spec) : Int :=
  if numsOk n.ints s.ints = false then 10 else if ¬ (n.texts.length : Int) = s.texts ∨ textsOk n.texts = false then 11
  else if (n.kids.length : Int) < s.least ∨ 0 ≤ s.most ∧ s.most < n.kids.length then 12 else 0
def TextsSmall (n : Node) : Prop := ∀ j, j < n.texts.length → (str n.texts j).size ≤ 1000000
set_option maxRecDepth 100000 in
set_option maxHeartbeats 2000000 in
theorem check_any (n : Node) (A1 : Option Addr) (c1 : Nat) (A2 : Option Addr) (c2 : Nat) (A3 : Option Addr) (c3 : Nat) (s : Spec) (A4 : Option Addr) (c4 : Nat) (w : World) (h : NodeC w n A1 c1 A2 c2 A3 c3) (h4 : SpecC w s A4 c4) (hs : TextsSmall n) (hT : Tabs w) :
    Calls Tryd.prog 37 #[.agg #[.int .i64 n.kind, .slice A1 n.ints.length c1, .slice A2 n.texts.length c2, .slice A3 n.kids.length c3], .agg #[.slice A4 s.ints.length c4, .int .i64 s.texts, .int .i64 s.least, .int .i64 s.most]] w
      fun e w' => e = .returned (.int .i64 (nodeErr n s)) ∧ Below w.heap.size w w' := by
  have HN := Aside0.mk h
  have H4 := Aside0.mk h4
  have HS := Aside0.mk hs
  have HT := Aside0.mk hT
  have HB := Aside0.mk (below_alloc (below_alloc (Below.refl w.heap.size w) (.cells #[.int .i64 n.kind, .slice A1 n.ints.length c1, .slice A2 n.texts.length c2, .slice A3 n.kids.length c3] 26)) (.cells #[.slice A4 s.ints.length c4, .int .i64 s.texts, .int .i64 s.least, .int .i64 s.most] 66))
  have b3 := h.k.2.1
  have b2 := h.t.2.1
  clear h h4 hs hT
  have HE := Aside0.mk (show nodeErr n s = if numsOk n.ints s.ints = false then 10 else if ¬ (n.texts.length : Int) = s.texts ∨ textsOk n.texts = false then 11
    else if (n.kids.length : Int) < s.least ∨ 0 ≤ s.most ∧ s.most < n.kids.length then 12 else 0 from rfl)
  have HC := Aside0.mk (And.intro (box_cell2 w _ rfl #[.int .i64 n.kind, .slice A1 n.ints.length c1, .slice A2 n.texts.length c2, .slice A3 n.kids.length c3] 26 (.cells #[.slice A4 s.ints.length c4, .int .i64 s.texts, .int .i64 s.least, .int .i64 s.most] 66) 3 _ rfl)
    (And.intro (box_cell (w.alloc (.cells #[.int .i64 n.kind, .slice A1 n.ints.length c1, .slice A2 n.texts.length c2, .slice A3 n.kids.length c3] 26)) (w.heap.size + 1) (by simp) #[.slice A4 s.ints.length c4, .int .i64 s.texts, .int .i64 s.least, .int .i64 s.most] 66 2 _ rfl)
      (box_cell (w.alloc (.cells #[.int .i64 n.kind, .slice A1 n.ints.length c1, .slice A2 n.texts.length c2, .slice A3 n.kids.length c3] 26)) (w.heap.size + 1) (by simp) #[.slice A4 s.ints.length c4, .int .i64 s.texts, .int .i64 s.least, .int .i64 s.most] 66 3 _ rfl)))
  go_enter Tryd.func37, Tryd.ntmps37
  go_wp2_with fail
  refine (numbers_any A1 c1 n.ints A4 c4 s.ints _ (Kd.C_below HN.out.i HB.out) (Kd.C_below H4.out.i HB.out)).mono ?_
  rintro e w1 ⟨rfl, ⟨m, rfl⟩⟩
  have HB1 := Aside0.mk (pw_below_drewN HB.out m)
  by_cases q1 : numsOk n.ints s.ints = true
  · have Q1 := Aside0.mk q1
    rw [Q1.out]
    clear q1
    by_cases q2 : (n.texts.length : Int) = s.texts
    · have Q2 := Aside0.mk q2
      have q2b : ((n.texts.length : Int) != s.texts) = false := by simp [q2]
      clear q2
      go_wp2_with fail
      refine (badTexts_any A2 c2 n.texts _ (Kd.C_below HN.out.t HB1.out) HS.out (HT.out.below HB1.out)).mono ?_
      rintro e w2 ⟨rfl, hB2⟩
      have HB2 := Aside0.mk (below_step HB1.out hB2)
      have k3 := pw_cell_below hB2 (show (((w.alloc _).alloc _).drewN m).cell? _ = _ from HC.out.1)
      have s2 := pw_cell_below hB2 (show (((w.alloc _).alloc _).drewN m).cell? _ = _ from HC.out.2.1)
      have s3 := pw_cell_below hB2 (show (((w.alloc _).alloc _).drewN m).cell? _ = _ from HC.out.2.2)
      clear hB2
      by_cases q3 : textsOk n.texts = true
      · have Q3 := Aside0.mk q3
        rw [Q3.out]
        clear q3
        by_cases q4 : (n.kids.length : Int) < s.least
        · have Q4 := Aside0.mk q4
          have q4b : decide ((n.kids.length : Int) < s.least) = true := decide_eq_true q4
          clear q4
          go_wp2
          go_ret
          exact ⟨ret_int (by rw [HE.out, if_neg (by rw [Q1.out]; simp), if_neg (by rw [Q3.out]; simp [Q2.out]), if_pos (.inl Q4.out)]), HB2.out⟩
        · have Q4 := Aside0.mk q4
          have q4b : decide ((n.kids.length : Int) < s.least) = false := decide_eq_false q4
          clear q4
          by_cases q5 : 0 ≤ s.most
          · by_cases q6 : s.most < n.kids.length
            · have Q6 := Aside0.mk (show 0 ≤ s.most ∧ s.most < n.kids.length from ⟨q5, q6⟩)
              have q5b : decide (0 ≤ s.most) = true := decide_eq_true q5
              have q6b : decide (s.most < (n.kids.length : Int)) = true := decide_eq_true q6
              clear q5 q6
              go_wp2
              go_ret
              exact ⟨ret_int (by rw [HE.out, if_neg (by rw [Q1.out]; simp), if_neg (by rw [Q3.out]; simp [Q2.out]), if_pos (.inr Q6.out)]), HB2.out⟩
            · have Q6 := Aside0.mk (show ¬ (0 ≤ s.most ∧ s.most < n.kids.length) from fun h => q6 h.2)
              have q5b : decide (0 ≤ s.most) = true := decide_eq_true q5
              have q6b : decide (s.most < (n.kids.length : Int)) = false := decide_eq_false q6
              clear q5 q6
              go_wp2
              go_ret
              exact ⟨ret_int (by rw [HE.out, if_neg (by rw [Q1.out]; simp), if_neg (by rw [Q3.out]; simp [Q2.out]), if_neg (fun h => h.elim (fun h0 => by have := Q4.out; omega) Q6.out)]), HB2.out⟩
          · have Q6 := Aside0.mk (show ¬ (0 ≤ s.most ∧ s.most < n.kids.length) from fun h => q5 h.1)
            have q5b : decide (0 ≤ s.most) = false := decide_eq_false q5
            clear q5
            go_wp2
            go_ret
            exact ⟨ret_int (by rw [HE.out, if_neg (by rw [Q1.out]; simp), if_neg (by rw [Q3.out]; simp [Q2.out]), if_neg (fun h => h.elim (fun h0 => by have := Q4.out; omega) Q6.out)]), HB2.out⟩
      · have Q3 := Aside0.mk (Bool.eq_false_iff.2 q3)
        clear q3
        rw [Q3.out]
        go_wp2
        go_ret
        exact ⟨ret_int (by rw [HE.out, if_neg (by rw [Q1.out]; simp), if_pos (.inr Q3.out)]), HB2.out⟩
    · have Q2 := Aside0.mk q2
      have q2b : ((n.texts.length : Int) != s.texts) = true := by simp [q2]
      clear q2
      go_wp2
      go_ret
      exact ⟨ret_int (by rw [HE.out, if_neg (by rw [Q1.out]; simp), if_pos (.inl Q2.out)]), HB1.out⟩
  · have Q1 := Aside0.mk (Bool.eq_false_iff.2 q1)
    clear q1
    rw [Q1.out]
    go_wp2
    go_ret
    exact ⟨ret_int (by rw [HE.out, if_pos Q1.out]), HB1.out⟩
end Go.Proofs.YtglfebpgdghlfaaDoor.L
end
section
namespace Go.Proofs.YtglfebpgdghlfaaDoor.L
open Go.RowKit Go.ChangeShapes Go.WideShapes Go.Proofs.YtglfebpgdghlfaaDoorW.PrintWords Go.Proofs.YtglfebpgdghlfaaDoorW.PrintLast Go.Proofs.YtglfebpgdghlfaaDoorW.PrintMore
attribute [local go_sem] max2_int min2_int max_two min_two max_three min_three max_four min_four
open Go.Proofs.YtglfebpgdghlfaaDoor.PUpgradeUps
theorem in_f (c n : Int) : dioramaref07_In.f c n = some (inC c n) := by
  unfold dioramaref07_In.f
  by_cases c1 : c = 1
  · subst c1; rfl
  · rw [if_neg c1]
    by_cases c2 : c = 2
    · subst c2
      rw [if_pos rfl, inC_2]
      by_cases h0 : n ≥ 0
      · rw [if_pos h0]
        by_cases h1 : n ≤ 140737488355328
        · rw [if_pos h1, decide_eq_true (by omega), decide_eq_true h1]; rfl
        · rw [if_neg h1, if_neg (by omega), decide_eq_false h1, Bool.and_false]
      · rw [if_neg h0, if_pos (by omega), decide_eq_true (show n ≤ 140737488355328 by omega), Bool.and_true]
    · rw [if_neg c2]
      by_cases c3 : c = 3
      · subst c3
        rw [if_pos rfl, inC_3]
        by_cases h0 : n ≥ 0
        · rw [if_pos h0, decide_eq_true h0]; rfl
        · rw [if_neg h0, decide_eq_false h0]; rfl
      · rw [if_neg c3]
        by_cases c4 : c = 4
        · subst c4
          rw [if_pos rfl, inC_4]
          by_cases h0 : n ≥ 0
          · rw [if_pos h0, decide_eq_true h0, Bool.true_and]; congr 1; exact decide_eq_decide.2 (by omega)
          · rw [if_neg h0, decide_eq_false h0]; rfl
        · rw [if_neg c4]
          by_cases c5 : c = 5
          · subst c5
            rw [if_pos rfl, inC_5]
            by_cases h0 : n = 0
            · subst h0; rw [if_pos (show wrap64 (0 * 0) = 0 from wrap64_in _ (by decide)), if_pos (by decide)]; rfl
            · by_cases h1 : n = 1
              · subst h1; rw [if_pos (show wrap64 (1 * 1) = 1 from wrap64_in _ (by decide)), if_pos (by decide)]; rfl
              · have hr : ((n == 0) || (n == 1)) = false := by simp [h0, h1]
                rw [hr]
                split
                · split
                  · rw [decide_eq_false (by omega)]
                  · rfl
                · rfl
          · rw [if_neg c5, inC_no c1 c2 c3 c4 c5]
def tailErr (n : Node) (s : Spec) : Int := if (n.kids.length : Int) < s.least ∨ 0 ≤ s.most ∧ s.most < n.kids.length then 12 else 0
theorem check_l1 (n : Node) (s : Spec) (hs : TextsSmall n) (hl : n.texts.length ≤ 1000000) : ∀ (m i K : Nat), n.texts.length ≤ i + m → i ≤ n.texts.length → (∀ j, j < i → utfOk (str n.texts j) = true) →
    dioramaref08_Check.l1 (K + 1000034 + m) (i : Int) n.kind n.ints n.texts n.kids s.ints s.texts s.least s.most = some (if textsOk n.texts = false then 11 else tailErr n s)
  | 0, i, K, h1, h2, h3 => by
    have hi : i = n.texts.length := by omega
    have ht : textsOk n.texts = true := decide_eq_true (fun j hj => h3 j (by omega))
    rw [show K + 1000034 + 0 = (K + 1000033) + 1 by omega, dioramaref08_Check.l1, if_neg (by omega), ht, if_neg (show ¬ (true = false) by decide)]
    unfold tailErr
    by_cases h : (n.kids.length : Int) < s.least
    · rw [if_pos h, if_pos (.inl h)]
    · rw [if_neg h]
      by_cases h' : s.most ≥ 0
      · rw [if_pos h']
        by_cases h'' : (n.kids.length : Int) > s.most
        · rw [if_pos h'', if_pos (.inr ⟨h', h''⟩)]
        · rw [if_neg h'', if_neg (by omega)]
      · rw [if_neg h', if_neg (by omega)]
  | m + 1, i, K, h1, h2, h3 => by
    by_cases hi : i < n.texts.length
    · rw [show K + 1000034 + (m + 1) = (K + 1000034 + m) + 1 by omega, dioramaref08_Check.l1, if_pos (by omega), if_pos (Int.natCast_nonneg i)]
      have hrd : rdOf ByteArray.empty n.texts (i : Int) = str n.texts i := by unfold rdOf str; rw [Int.toNat_natCast]
      rw [hrd, right_f (str n.texts i) (hs i hi) _ (by have := hs i hi; omega), Option.bind_some]
      by_cases hu : utfOk (str n.texts i) = true
      · rw [if_pos hu, wrap64_in ((i : Int) + 1) (by omega), show (i : Int) + 1 = ((i + 1 : Nat) : Int) from rfl]
        exact check_l1 n s hs hl m (i + 1) K (by omega) (by omega) (ext_lt (P := fun j => utfOk (str n.texts j) = true) h3 hu)
      · rw [if_neg hu, textsOk_bad hi (Bool.eq_false_iff.2 hu), if_pos rfl]
    · have := check_l1 n s hs hl m i (K + 1) (by omega) h2 h3
      rw [show K + 1 + 1000034 + m = K + 1000034 + (m + 1) by omega] at this
      exact this
theorem check_l0 (n : Node) (s : Spec) (hs : TextsSmall n) (hl : n.texts.length ≤ 1000000) (hn : n.ints.length ≤ 1000000) (he : n.ints.length = s.ints.length) : ∀ (m i K : Nat), n.ints.length ≤ i + m → i ≤ n.ints.length → (∀ j, j < i → inC (rd s.ints j) (rd n.ints j) = true) →
    dioramaref08_Check.l0 (K + 2000035 + m) (i : Int) n.kind n.ints n.texts n.kids s.ints s.texts s.least s.most = some (nodeErr n s)
  | 0, i, K, h1, h2, h3 => by
    have hi : i = n.ints.length := by omega
    have ht : numsOk n.ints s.ints = true := decide_eq_true ⟨he, fun j hj => h3 j (by omega)⟩
    rw [show K + 2000035 + 0 = (K + 2000034) + 1 by omega, dioramaref08_Check.l0, if_neg (by omega)]
    unfold nodeErr
    rw [ht, if_neg (show ¬ (true = false) by decide)]
    by_cases h : (n.texts.length : Int) = s.texts
    · rw [if_pos h]
      have h1 := check_l1 n s hs hl n.texts.length 0 (K + 1000000 - n.texts.length) (by omega) (by omega) (fun j hj => by omega)
      rw [show K + 1000000 - n.texts.length + 1000034 + n.texts.length = K + 2000034 by omega] at h1
      refine h1.trans ?_
      congr 1
      by_cases hk : textsOk n.texts = false
      · rw [if_pos hk, if_pos (.inr hk)]
      · rw [if_neg hk, if_neg (fun hh => hh.elim (fun h' => h' h) hk)]; rfl
    · rw [if_neg h, if_pos (.inl h)]
  | m + 1, i, K, h1, h2, h3 => by
    by_cases hi : i < n.ints.length
    · rw [show K + 2000035 + (m + 1) = (K + 2000035 + m) + 1 by omega, dioramaref08_Check.l0, if_pos (by omega), if_pos (Int.natCast_nonneg i), if_pos (by omega), in_f, Option.bind_some]
      by_cases hu : inC (rd s.ints i) (rd n.ints i) = true
      · rw [if_pos hu, wrap64_in ((i : Int) + 1) (by omega), show (i : Int) + 1 = ((i + 1 : Nat) : Int) from rfl]
        exact check_l0 n s hs hl hn he m (i + 1) K (by omega) (by omega) (ext_lt (P := fun j => inC (rd s.ints j) (rd n.ints j) = true) h3 hu)
      · rw [if_neg hu]
        unfold nodeErr
        rw [if_pos (numsOk_bad hi (Bool.eq_false_iff.2 hu))]
    · have := check_l0 n s hs hl hn he m i (K + 1) (by omega) h2 h3
      rw [show K + 1 + 2000035 + m = K + 2000035 + (m + 1) by omega] at this
      exact this
theorem check_f (n : Node) (s : Spec) (hs : TextsSmall n) (hm : Small n) : dioramaref08_Check.f 3000035 n.kind n.ints n.texts n.kids s.ints s.texts s.least s.most = some (nodeErr n s) := by
  unfold dioramaref08_Check.f
  by_cases h : n.ints.length = s.ints.length
  · rw [if_pos (by omega)]
    have h1 := check_l0 n s hs hm.2.1 hm.1 h n.ints.length 0 (1000000 - n.ints.length) (by omega) (by omega) (fun j hj => by omega)
    rw [show 1000000 - n.ints.length + 2000035 + n.ints.length = 3000035 by have := hm.1; omega] at h1
    exact h1
  · rw [if_neg (by omega)]
    unfold nodeErr
    rw [if_pos (numsOk_len h)]
theorem rcheck_any (n : Node) (A1 : Option Addr) (c1 : Nat) (A2 : Option Addr) (c2 : Nat) (A3 : Option Addr) (c3 : Nat) (s : Spec) (A4 : Option Addr) (c4 : Nat) (w : World) (h : NodeC w n A1 c1 A2 c2 A3 c3) (h4 : SpecC w s A4 c4) (hs : TextsSmall n) (hm : Small n) :
    Calls Tryd.prog 41 #[.agg #[.int .i64 n.kind, .slice A1 n.ints.length c1, .slice A2 n.texts.length c2, .slice A3 n.kids.length c3], .agg #[.slice A4 s.ints.length c4, .int .i64 s.texts, .int .i64 s.least, .int .i64 s.most]] w
      fun e w' => e = .returned (.int .i64 (nodeErr n s)) ∧ Below w.heap.size w w' :=
  dioramaref08_Check.calls 3000035 n.kind A1 c1 n.ints A2 c2 n.texts A3 c3 n.kids A4 c4 s.ints s.texts s.least s.most _ w h.i h.l1 h.t h.l2 h.k h.l3 h4.i h4.l (check_f n s hs hm)
end Go.Proofs.YtglfebpgdghlfaaDoor.L
end
section
namespace Go.Proofs.YtglfebpgdghlfaaDoor.L
open Go.RowKit Go.ChangeShapes Go.WideShapes Go.Proofs.YtglfebpgdghlfaaDoorW.PrintWords Go.Proofs.YtglfebpgdghlfaaDoorW.PrintLast Go.Proofs.YtglfebpgdghlfaaDoorW.PrintMore
attribute [local go_sem] max2_int min2_int max_two min_two max_three min_three max_four min_four
theorem own_block {W : World} {base e g n : Nat} {xs : List Value} (h : W.ownsRow base e 1 (.slice (some ⟨g, 0, none⟩) n n) n xs) : W.heap[g]? = some (.cells xs.toArray e (0, 0)) ∧ base ≤ g := by
  rcases h.2 with ⟨hv, _⟩ | ⟨g', cap, cur, hv, hb, hh, hnc, hcm, hcs, htake⟩
  · cases hv
  · injection hv with ha _ hc
    injection ha with ha
    injection ha with hg'
    subst hg'; subst hc
    refine ⟨?_, hb⟩
    have : xs.toArray = cur := by
      apply Array.toList_inj.1
      rw [← htake, List.take_of_length_le (by rw [Array.length_toList]; omega)]
    rw [this]; exact hh
theorem R_of_block {W : World} {base e g : Nat} {xs : List Int} (h : W.heap[g]? = some (.cells (xs.map (Value.int .i64)).toArray e (0, 0))) (hb : base ≤ g) (hm : xs.length ≤ 9223372036854775807) :
    (Kd.int .i64).R e W base (fun _ => True) (.slice (some ⟨g, 0, none⟩) xs.length xs.length) xs := by
  refine Kd.R_of_own (enc := Value.int .i64) (h1 := fun _ => rfl) ⟨by simp [encs], .inr ⟨g, xs.length, _, rfl, hb, h, Nat.le_refl _, by unfold maxLen; omega, by simp, by rw [List.take_of_length_le (by simp)]; rfl⟩⟩ (fun _ _ => trivial)
theorem made_zero (m : Nat) : (madeCells (Value.int .i64 0).cells (m * 1)).toList = List.replicate m (.int .i64 0) := by
  rw [List.eq_replicate_iff]
  refine ⟨by simp [size_madeCells], fun b hb => ?_⟩
  unfold madeCells at hb
  simp only [Array.toList_map, List.mem_map] at hb
  obtain ⟨j, _, rfl⟩ := hb
  show (#[Value.int .i64 0])[j % 1]! = _
  rw [Nat.mod_one]
  rfl
theorem src_one {W : World} {ad : Addr} {x : Value} (h : W.cell? ad = some x) : ∀ j u, [x][j]? = some u → W.cell? (ad.add j) = some u := by
  intro j u hu
  match j with
  | 0 =>
    have : u = x := by simpa using hu.symm
    subst this
    have e : ad.add 0 = ad := by unfold Addr.add; split <;> simp_all
    rw [e]; exact h
  | j + 1 => simp at hu
theorem copy_run {P : Program} {w : World} (dT sT ty : TypeId) (elem : TypeId) (hu : P.underlying dT = some (.slice elem)) (hsz : (P.info? elem).map (·.size) = some 1)
    (dLen dCap : Nat) (ad : Addr) (sLen sCap : Nat) (g off : Nat) (cur : List Value) (t : TypeId) (hg : w.heap[g]? = some (.cells cur.toArray t (0, 0))) (cs : List Value) (hn : cs.length = Nat.min sLen dLen)
    (hsrc : ∀ j v, cs[j]? = some v → w.cell? (ad.add j) = some v) (hfit : off + cs.length ≤ cur.length) (h1 : ∀ v ∈ cs, v.oneCell' = true) (B : Nat) (w0 : World) (hb : Below B w0 w) (hBg : B ≤ g) :
    ∃ w', (Builtin.copy_ #[dT, sT] ty #[.slice (some ⟨g, off, none⟩) dLen dCap, .slice (some ad) sLen sCap]).run P w = .ok (goInt cs.length) w' ∧ w'.heap[g]? = some (.cells (splice cur off cs).toArray t (0, 0)) ∧ Below B w0 w' :=
  ⟨_, run_copy_row (P := P) w dT sT ty elem g off dLen dCap ad sLen sCap cur.toArray t cs hu hsz hg hn hsrc (by simpa using hfit) h1, by simpa [splice] using setRow_heap w g _ _ t _ hg, below_setRow hb hBg _⟩
theorem src_block {W : World} {g : Nat} {t : TypeId} {cur : List Value} (h : W.heap[g]? = some (.cells cur.toArray t (0, 0))) {cs : List Value} (hc : ∀ (j : Nat) (u : Value), cs[j]? = some u → cur[j]? = some u) : ∀ (j : Nat) (u : Value), cs[j]? = some u → W.cell? ((⟨g, 0, none⟩ : Addr).add j) = some u := by
  intro j u hu
  rw [Go.Proofs.YtglfebpgdghlfaaDoorW.PrintWords.add_plain, blk_cell h j]
  simpa using hc j u hu
def repl (n m : Nat) (v : Int) : List Int := List.replicate n v ++ List.replicate (m - n) 0
theorem repl_full (m : Nat) (v : Int) : repl m m v = List.replicate m v := by simp [repl]
theorem repl_length {n m : Nat} (h : n ≤ m) (v : Int) : (repl n m v).length = m := by simp [repl]; omega
theorem repl_src {n m : Nat} (h : n ≤ m) (v : Int) : ∀ (j : Nat) (u : Value), ((List.replicate (min n (m - n)) v).map (Value.int .i64))[j]? = some u → ((repl n m v).map (Value.int .i64))[j]? = some u := by
  intro j u hu
  rw [List.map_replicate, List.getElem?_replicate] at hu
  split at hu
  · rw [repl, List.map_append, List.getElem?_append_left (by simp; omega), List.map_replicate, List.getElem?_replicate, if_pos (by omega)]
    exact hu
  · cases hu
theorem repl_splice {n m : Nat} (h : n ≤ m) (v : Int) : splice ((repl n m v).map (Value.int .i64)) n ((List.replicate (min n (m - n)) v).map (Value.int .i64)) = (repl (n + min n (m - n)) m v).map (Value.int .i64) := by
  unfold splice repl
  simp only [List.map_append, List.map_replicate, List.length_replicate]
  rw [List.take_append_of_le_length (by simp), List.take_of_length_le (by simp), List.drop_append, List.drop_eq_nil_of_le (by simp)]
  simp only [List.length_replicate, List.drop_replicate, List.nil_append, ← List.append_assoc, List.replicate_append_replicate]
  congr 2
  omega
theorem repl_first {m : Nat} (h : 1 ≤ m) (v : Int) : splice ((repl 0 m v).map (Value.int .i64)) 0 [.int .i64 v] = (repl 1 m v).map (Value.int .i64) := by
  obtain ⟨m, rfl⟩ : ∃ j, m = j + 1 := ⟨m - 1, by omega⟩
  simp [splice, repl, List.replicate_succ]
def repeat_intRel (g m n : Nat) (v : Int) (w W : World) : Prop := W.heap[g]? = some (.cells ((repl n m v).map (Value.int .i64)).toArray 3 (0, 0)) ∧ Below w.heap.size w W
set_option maxRecDepth 100000 in
set_option maxHeartbeats 1000000 in
theorem repeat_int (ad : Addr) (c : Nat) (v : Int) (m : Nat) (w : World) (hx : w.cell? ad = some (.int .i64 v)) (h1 : 1 ≤ m) (h2 : m ≤ 1000000) :
    Calls Tryd.prog 102 #[.slice (some ad) 1 c, .int .i64 m] w (RowPost (Kd.int .i64) 3 (List.replicate m v) w) := by
  have HB := Aside0.mk (Below.refl w.heap.size w)
  have HX := Aside0.mk hx
  clear hx
  obtain ⟨i0, hi, hz0, hz1, hz2⟩ := info_parts info_int
  have hm0 : ¬ (m : Int) < 0 := by omega
  go_enter Tryd.func102, Tryd.ntmps102
  go_wp2_with fail
  refine (Tryd.bits_Mul 1 m (by omega) (by omega) _).mono ?_
  rintro e w' ⟨rfl, hw⟩
  obtain rfl : w = w' := hw.symm
  have e1 : 1 * m / 18446744073709551616 = 0 := by omega
  have e2 : 1 * m % 18446744073709551616 = m := by omega
  rw [e1, e2]
  clear e1 e2
  go_wp2_with (refine wpList_make_full _ rfl (.tmp 29) (.tmp 29) 24 rfl w.heap.size 3 i0 (.int .i64 0) 1 Tryd.underlying24 hi hz0 hz1 .i64 .i64 (m : Int) (m : Int) m rfl rfl rfl rfl (by rw [hz2]; omega) (by unfold maxLen; omega) (Nat.le_refl _) ?_; intro w1 hown hg1; have HO := Aside0.mk (show w1.heap[w.heap.size]? = some (.cells ((repl 0 m v).map (Value.int .i64)).toArray 3 (0, 0)) from by rw [(own_block hown).1, made_zero]; simp [repl]); have HB1 := Aside0.mk (below_step HB.out ⟨hg1.os, hg1.tape, hg1.output, hg1.size, fun i hi => hg1.block i hi (by simp)⟩); clear hown hg1; obtain ⟨w2, hcp, hg2, hb2⟩ := copy_run (P := Tryd.prog) 24 24 3 3 Tryd.underlying24 (by rw [hi]; exact congrArg some hz1) m m ad 1 c w.heap.size 0 _ 3 HO.out [.int .i64 v] (Nat.min_eq_left h1).symm (src_one (pw_cell_below HB1.out HX.out)) (by rw [List.length_map, repl_length (Nat.zero_le _)]; exact h1) (by simp [Value.oneCell']) w.heap.size w HB1.out (Nat.le_refl _); have HG := Aside0.mk (show repeat_intRel w.heap.size m 1 v w w2 from ⟨by rw [← repl_first h1]; exact hg2, hb2⟩); clear hg2 hb2)
  go_loopw [8] (fun v8 W => ∃ n : Nat, 1 ≤ n ∧ n ≤ m ∧ v8 = .int .i64 n ∧ Aside0 (repeat_intRel w.heap.size m n v w W)) (fun v8 _ => m - (intOf v8).toNat)
  case atStart => exact ⟨1, by omega, h1, rfl, HG⟩
  case round =>
    obtain ⟨n, hn1, hn2, rfl, HR⟩ := hrel
    by_cases hlt : n < m
    · have HW := Aside0.mk (show IntKind.i64.wrap ((n : Int) + ((min n (m - n) : Nat) : Int)) = ((n + min n (m - n) : Nat) : Int) from by rw [wrap_i (by omega) (by omega)]; push_cast; rfl)
      have hmn : ¬ m = n := by omega
      obtain ⟨w3, hcp3, hg3, hb3⟩ := copy_run (P := Tryd.prog) (w := wr.drew) 24 24 3 3 Tryd.underlying24 (by rw [hi]; exact congrArg some hz1) (m - n) (m - n) ⟨w.heap.size, 0, none⟩ n m w.heap.size n _ 3 HR.out.1 ((List.replicate (min n (m - n)) v).map (Value.int .i64)) (by simp) (src_block HR.out.1 (repl_src hn2 v)) (by simp only [List.length_map, List.length_replicate]; rw [repl_length hn2]; omega) (fun x hx => by simp only [List.mem_map] at hx; obtain ⟨y, _, rfl⟩ := hx; rfl) w.heap.size w (below_drew1 HR.out.2) (Nat.le_refl _)
      have HG3 := Aside0.mk (show repeat_intRel w.heap.size m (n + min n (m - n)) v w w3 from ⟨by rw [← repl_splice hn2]; exact hg3, hb3⟩)
      rw [List.length_map, List.length_replicate] at hcp3
      clear hg3 hb3
      have hw3 := HW.out
      go_wp2
      go_region
      go_wp2
      go_roundw
      case rel => exact ⟨n + min n (m - n), by omega, by omega, rfl, HG3⟩
      case measure => simp [intOf]; omega
    · obtain rfl : n = m := by omega
      go_wp2
      go_ret
      exact RowPost.mk (v := .slice (some ⟨w.heap.size, 0, none⟩) n n) (by
        have h := HR.out.1
        rw [repl_full] at h
        have := R_of_block h (Nat.le_refl _) (by simp; omega)
        simpa using this) HR.out.2
def repeat_i64Rel (g m n : Nat) (v : Int) (w W : World) : Prop := W.heap[g]? = some (.cells ((repl n m v).map (Value.int .i64)).toArray 2 (0, 0)) ∧ Below w.heap.size w W
set_option maxRecDepth 100000 in
set_option maxHeartbeats 1000000 in
theorem repeat_i64 (ad : Addr) (c : Nat) (v : Int) (m : Nat) (w : World) (hx : w.cell? ad = some (.int .i64 v)) (h1 : 1 ≤ m) (h2 : m ≤ 1000000) :
    Calls Tryd.prog 106 #[.slice (some ad) 1 c, .int .i64 m] w (RowPost (Kd.int .i64) 2 (List.replicate m v) w) := by
  have HB := Aside0.mk (Below.refl w.heap.size w)
  have HX := Aside0.mk hx
  clear hx
  obtain ⟨i0, hi, hz0, hz1, hz2⟩ := info_parts info_i64
  have hm0 : ¬ (m : Int) < 0 := by omega
  go_enter Tryd.func106, Tryd.ntmps106
  go_wp2_with fail
  refine (Tryd.bits_Mul 1 m (by omega) (by omega) _).mono ?_
  rintro e w' ⟨rfl, hw⟩
  obtain rfl : w = w' := hw.symm
  have e1 : 1 * m / 18446744073709551616 = 0 := by omega
  have e2 : 1 * m % 18446744073709551616 = m := by omega
  rw [e1, e2]
  clear e1 e2
  go_wp2_with (refine wpList_make_full _ rfl (.tmp 29) (.tmp 29) 22 rfl w.heap.size 2 i0 (.int .i64 0) 1 Tryd.underlying22 hi hz0 hz1 .i64 .i64 (m : Int) (m : Int) m rfl rfl rfl rfl (by rw [hz2]; omega) (by unfold maxLen; omega) (Nat.le_refl _) ?_; intro w1 hown hg1; have HO := Aside0.mk (show w1.heap[w.heap.size]? = some (.cells ((repl 0 m v).map (Value.int .i64)).toArray 2 (0, 0)) from by rw [(own_block hown).1, made_zero]; simp [repl]); have HB1 := Aside0.mk (below_step HB.out ⟨hg1.os, hg1.tape, hg1.output, hg1.size, fun i hi => hg1.block i hi (by simp)⟩); clear hown hg1; obtain ⟨w2, hcp, hg2, hb2⟩ := copy_run (P := Tryd.prog) 22 22 3 2 Tryd.underlying22 (by rw [hi]; exact congrArg some hz1) m m ad 1 c w.heap.size 0 _ 2 HO.out [.int .i64 v] (Nat.min_eq_left h1).symm (src_one (pw_cell_below HB1.out HX.out)) (by rw [List.length_map, repl_length (Nat.zero_le _)]; exact h1) (by simp [Value.oneCell']) w.heap.size w HB1.out (Nat.le_refl _); have HG := Aside0.mk (show repeat_i64Rel w.heap.size m 1 v w w2 from ⟨by rw [← repl_first h1]; exact hg2, hb2⟩); clear hg2 hb2)
  go_loopw [8] (fun v8 W => ∃ n : Nat, 1 ≤ n ∧ n ≤ m ∧ v8 = .int .i64 n ∧ Aside0 (repeat_i64Rel w.heap.size m n v w W)) (fun v8 _ => m - (intOf v8).toNat)
  case atStart => exact ⟨1, by omega, h1, rfl, HG⟩
  case round =>
    obtain ⟨n, hn1, hn2, rfl, HR⟩ := hrel
    by_cases hlt : n < m
    · have HW := Aside0.mk (show IntKind.i64.wrap ((n : Int) + ((min n (m - n) : Nat) : Int)) = ((n + min n (m - n) : Nat) : Int) from by rw [wrap_i (by omega) (by omega)]; push_cast; rfl)
      have hmn : ¬ m = n := by omega
      obtain ⟨w3, hcp3, hg3, hb3⟩ := copy_run (P := Tryd.prog) (w := wr.drew) 22 22 3 2 Tryd.underlying22 (by rw [hi]; exact congrArg some hz1) (m - n) (m - n) ⟨w.heap.size, 0, none⟩ n m w.heap.size n _ 2 HR.out.1 ((List.replicate (min n (m - n)) v).map (Value.int .i64)) (by simp) (src_block HR.out.1 (repl_src hn2 v)) (by simp only [List.length_map, List.length_replicate]; rw [repl_length hn2]; omega) (fun x hx => by simp only [List.mem_map] at hx; obtain ⟨y, _, rfl⟩ := hx; rfl) w.heap.size w (below_drew1 HR.out.2) (Nat.le_refl _)
      have HG3 := Aside0.mk (show repeat_i64Rel w.heap.size m (n + min n (m - n)) v w w3 from ⟨by rw [← repl_splice hn2]; exact hg3, hb3⟩)
      rw [List.length_map, List.length_replicate] at hcp3
      clear hg3 hb3
      have hw3 := HW.out
      go_wp2
      go_region
      go_wp2
      go_roundw
      case rel => exact ⟨n + min n (m - n), by omega, by omega, rfl, HG3⟩
      case measure => simp [intOf]; omega
    · obtain rfl : n = m := by omega
      go_wp2
      go_ret
      exact RowPost.mk (v := .slice (some ⟨w.heap.size, 0, none⟩) n n) (by
        have h := HR.out.1
        rw [repl_full] at h
        have := R_of_block h (Nat.le_refl _) (by simp; omega)
        simpa using this) HR.out.2
end Go.Proofs.YtglfebpgdghlfaaDoor.L
end
section
namespace Go.Proofs.YtglfebpgdghlfaaDoor.L
open Go.RowKit Go.ChangeShapes Go.WideShapes Go.Proofs.YtglfebpgdghlfaaDoorW.PrintWords Go.Proofs.YtglfebpgdghlfaaDoorW.PrintLast Go.Proofs.YtglfebpgdghlfaaDoorW.PrintMore
attribute [local go_sem] max2_int min2_int max_two min_two max_three min_three max_four min_four
def RowsPost (l : List Node) (w : World) (e : Ending) (w' : World) : Prop := ∃ g c, e = .returned (.slice (some ⟨g, 0, none⟩) l.length c) ∧ Kd.S kNode 26 w' w.heap.size (fun _ => True) (.slice (some ⟨g, 0, none⟩) l.length c) l ∧ Below w.heap.size w w'
theorem S_of_lits {α : Type} (d : Kd α) (W : World) (base e : Nat) (xs : List α) (inner : List Value) (okj : Nat → Nat → Prop) (hap : ∀ i j k, okj i k → okj j k → i = j) (hl : inner.length = xs.length * d.sz)
    (hrep : ∀ j x, xs[j]? = some x → d.M W base (okj j) x ((inner.drop (j * d.sz)).take d.sz)) (hb : base ≤ W.heap.size) (hm : xs.length ≤ 9223372036854775807) :
    Kd.S d e (W.alloc (.cells inner.toArray e)) base (fun _ => True) (.slice (some ⟨W.heap.size, 0, none⟩) xs.length xs.length) xs := by
  obtain ⟨f, hr⟩ := Kd.reps_tag (d := d) (w := W) (base := base) (ok := fun k => True ∧ k < W.heap.size) (okj := fun j k => okj j k ∧ k < W.heap.size) (fun i j k h1 h2 => hap i j k h1.1 h2.1) (fun _ _ h => ⟨trivial, h.2⟩) hl (fun j x hj => d.M_mono (fun k hk => ⟨hk.1, hk.2.2.1⟩) (d.M_bound (hrep j x hj)))
  have h1 := OwnRow.lit (e := e) W base hr hb (by rw [List.length_zipIdx]; exact hm)
  rw [List.length_zipIdx] at h1
  refine ⟨f, fun _ _ => trivial, OwnRow.imp_ h1 (fun p c hp => (Kd.tag f d).M_mono (fun k hk => ⟨trivial, fun e => ?_⟩) (Kd.M_alloc hp _))⟩
  have : k = W.heap.size := by simpa [Value.ownBlock] using e
  have := hk.2
  omega
theorem S_one (W : World) (base B : Nat) (n : Node) (v1 v2 v3 : Value) (hM : kNode.M W B (fun _ => True) n [.int .i64 n.kind, v1, v2, v3]) (hb : base ≤ B) (hB : B ≤ W.heap.size) {cs : Array Value} (hcs : cs = #[.int .i64 n.kind, v1, v2, v3]) :
    Kd.S kNode 26 (W.alloc (.cells cs 26)) base (fun _ => True) (.slice (some ⟨W.heap.size, 0, none⟩) 1 1) [n] := by
  subst hcs
  obtain ⟨x1, x2, x3, e, h1, h2, h3⟩ := kNode_openM hM
  injection e with _ e
  injection e with e1 e
  injection e with e2 e
  injection e with e3 _
  subst e1 e2 e3
  exact S_of_lits kNode W base 26 [n] [.int .i64 n.kind, v1, v2, v3] (fun j _ => j = 0) (fun i j k h1 h2 => h1.trans h2.symm) rfl (fun j x hj => by
    cases j with
    | zero =>
      injection hj with hj
      subst hj
      exact kNode_mkM (Kd.R_mono (Kd.R_lower h1 hb) (fun _ _ => rfl)) (Kd.R_mono (Kd.R_lower h2 hb) (fun _ _ => rfl)) (Kd.R_mono (Kd.R_lower h3 hb) (fun _ _ => rfl))
    | succ j => simp at hj) (Nat.le_trans hb hB) (by simp)
set_option maxRecDepth 100000 in
set_option maxHeartbeats 1000000 in
theorem like_any (n : Int) (count : Nat) (w : World) (h0 : 1 ≤ count) (h1 : count ≤ 1000) : Calls Tryd.prog 75 #[.int .i64 n, .int .i64 (count : Int)] w (RowPost (Kd.int .i64) 2 (List.replicate count n) w) := by
  have HB := Aside0.mk (below_alloc (Below.refl w.heap.size w) (.cells #[.int .i64 n] 2))
  go_enter Tryd.func75, Tryd.ntmps75
  go_wp2_with fail
  refine (repeat_i64 ⟨w.heap.size, 0, none⟩ 1 n count _ (box_cell w _ rfl #[.int .i64 n] 2 0 _ rfl) (by omega) (by omega)).mono ?_
  rintro e w1 ⟨A, c, rfl, hR, hB⟩
  have HR := Aside0.mk (Kd.R_lower hR HB.out.size)
  have HB1 := Aside0.mk (below_step HB.out hB)
  clear hR hB
  go_wp2
  go_ret
  exact RowPost.mk (v := .slice A count c) (by have h := HR.out; rwa [List.length_replicate] at h) HB1.out
end Go.Proofs.YtglfebpgdghlfaaDoor.L
end
section
namespace Go.Proofs.YtglfebpgdghlfaaDoor.L
open Go.RowKit Go.ChangeShapes Go.WideShapes Go.Proofs.YtglfebpgdghlfaaDoorW.PrintWords Go.Proofs.YtglfebpgdghlfaaDoorW.PrintLast Go.Proofs.YtglfebpgdghlfaaDoorW.PrintMore
attribute [local go_sem] max2_int min2_int max_two min_two max_three min_three max_four min_four
theorem R_strs (W : World) (base g : Nat) (hg : W.heap.size = g) (ps : List ByteArray) (hb : base ≤ W.heap.size) (hm : ps.length ≤ 9223372036854775807) {cs : Array Value} (hcs : cs = (ps.flatMap fun x => [.string x]).toArray) : Kd.string.R 9 (W.alloc (.cells cs 9)) base (fun _ => True) (.slice (some ⟨g, 0, none⟩) ps.length ps.length) ps := by
  subst hg
  exact R_lits Kd.string 9 (fun x => [.string x]) W base ps (fun _ => rfl) (fun _ => rfl) hb hm hcs
theorem R_nums (T : TypeId) (W : World) (base g : Nat) (hg : W.heap.size = g) (ps : List Int) (hb : base ≤ W.heap.size) (hm : ps.length ≤ 9223372036854775807) {cs : Array Value} (hcs : cs = (ps.flatMap fun x => [.int .i64 x]).toArray) : (Kd.int .i64).R T (W.alloc (.cells cs T)) base (fun _ => True) (.slice (some ⟨g, 0, none⟩) ps.length ps.length) ps := by
  subst hg
  exact R_lits (Kd.int .i64) T (fun x => [.int .i64 x]) W base ps (fun _ => rfl) (fun _ => rfl) hb hm hcs
theorem RowsPost.one {w W : World} {n : Node} {v1 v2 v3 : Value} {g : Nat} (hM : kNode.M W w.heap.size (fun _ => True) n [.int .i64 n.kind, v1, v2, v3]) (hB : Below w.heap.size w W) (hg : W.heap.size = g) : RowsPost [n] w (.returned (.slice (some ⟨g, 0, none⟩) 1 1)) (W.alloc (.cells #[.int .i64 n.kind, v1, v2, v3] 26)) := by
  subst hg
  exact ⟨_, _, rfl, S_one W w.heap.size w.heap.size n v1 v2 v3 hM (Nat.le_refl _) hB.size rfl, below_step hB (below_alloc (Below.refl _ _) _)⟩
set_option maxRecDepth 100000 in
set_option maxHeartbeats 1000000 in
theorem up1_any (n : Node) (A1 : Option Addr) (c1 : Nat) (A2 : Option Addr) (c2 : Nat) (A3 : Option Addr) (c3 : Nat) (w : World) :
    Calls Tryd.prog 72 #[.agg #[.int .i64 n.kind, .slice A1 n.ints.length c1, .slice A2 n.texts.length c2, .slice A3 n.kids.length c3]] w (RowsPost [⟨1, [], [ByteArray.empty], []⟩] w) := by
  have hu := Tryd.underlying26
  go_enter Tryd.func72, Tryd.ntmps72
  go_wp2
  go_ret
  exact RowsPost.one (n := ⟨1, [], [ByteArray.empty], []⟩) (kNode_mkM (Kd.R_nil _ _ _ _ _) (R_strs _ _ _ (by simp) [ByteArray.empty] (by simp) (by simp) rfl) (Kd.R_nil _ _ _ _ _)) (below_alloc (below_alloc (Below.refl _ _) _) _) (by simp)
set_option maxRecDepth 100000 in
set_option maxHeartbeats 1000000 in
theorem up6_any (n : Node) (A1 : Option Addr) (c1 : Nat) (A2 : Option Addr) (c2 : Nat) (A3 : Option Addr) (c3 : Nat) (w : World) (h : NodeC w n A1 c1 A2 c2 A3 c3) (hl : 0 < n.ints.length) :
    Calls Tryd.prog 80 #[.agg #[.int .i64 n.kind, .slice A1 n.ints.length c1, .slice A2 n.texts.length c2, .slice A3 n.kids.length c3]] w (RowsPost [⟨7, [rd n.ints 0, rd n.ints 0, rd n.ints 0, 1], [], []⟩] w) := by
  have hu := Tryd.underlying26
  have hB := below_alloc (Below.refl w.heap.size w) (.cells #[.int .i64 n.kind, .slice A1 n.ints.length c1, .slice A2 n.texts.length c2, .slice A3 n.kids.length c3] 26)
  have HB := Aside0.mk hB
  obtain ⟨ad, rfl, x0⟩ := at_nat (Kd.C_below h.i hB) 0 hl
  have k1 := box_cell w _ rfl #[.int .i64 n.kind, .slice (some ad) n.ints.length c1, .slice A2 n.texts.length c2, .slice A3 n.kids.length c3] 26 1 _ rfl
  rw [show ad.add 0 = ad from rfl] at x0
  have hr : rd n.ints ((0 : Nat) : Int) = rd n.ints 0 := rfl
  rw [hr] at x0
  clear h hB
  go_enter Tryd.func80, Tryd.ntmps80
  go_wp2_with fail
  refine (like_any (rd n.ints 0) 3 _ (by omega) (by omega)).mono ?_
  rintro e w1 ⟨A4, c4, rfl, hR1, hB1⟩
  have HR1 := Aside0.mk (show (Kd.int .i64).R 2 w1 w.heap.size (fun _ => True) (.slice A4 3 c4) [rd n.ints 0, rd n.ints 0, rd n.ints 0] from Kd.R_lower hR1 HB.out.size)
  have HB1 := Aside0.mk (below_step HB.out hB1)
  clear hR1 hB1 x0 k1
  go_wp2_with (at_builtin; refine Kd.R_append (Kd.int .i64) (w0 := w) w.heap.size rfl (.tmp 7) (.tmp 8) 22 2 (.int .i64 0) 8 rfl Tryd.underlying22 info_i64 rfl (by decide) (by omega) (.slice A4 3 c4) [rd n.ints 0, rd n.ints 0, rd n.ints 0] 1 [.int .i64 1] (fun _ => True) (fun _ => False) rfl (by go_simp) rfl (fun _ h => h.elim) (fun _ _ => trivial) HR1.out HB1.out HB1.out.size (by simp) ?_; intro v2 w2 hR2 hB2 hg2 hat2; obtain ⟨A5, c5, hv2⟩ := Kd.R_slice hR2; replace hv2 : v2 = .slice A5 4 c5 := hv2; subst hv2; have HR2 := Aside0.mk (show (Kd.int .i64).R 2 w2 w.heap.size (fun _ => True) (.slice A5 4 c5) [rd n.ints 0, rd n.ints 0, rd n.ints 0, 1] from hR2); have HB2 := Aside0.mk hB2; clear hR2 hB2 hg2 hat2)
  go_ret
  exact RowsPost.one (n := ⟨7, [rd n.ints 0, rd n.ints 0, rd n.ints 0, 1], [], []⟩) (kNode_mkM HR2.out (Kd.R_nil _ _ _ _ _) (Kd.R_nil _ _ _ _ _)) HB2.out rfl
end Go.Proofs.YtglfebpgdghlfaaDoor.L
end
section
namespace Go.Proofs.YtglfebpgdghlfaaDoor.L
open Go.RowKit Go.ChangeShapes Go.WideShapes Go.Proofs.YtglfebpgdghlfaaDoorW.PrintWords Go.Proofs.YtglfebpgdghlfaaDoorW.PrintLast Go.Proofs.YtglfebpgdghlfaaDoorW.PrintMore
attribute [local go_sem] max2_int min2_int max_two min_two max_three min_three max_four min_four
set_option maxRecDepth 100000 in
set_option maxHeartbeats 1000000 in
theorem up4_any (n : Node) (A1 : Option Addr) (c1 : Nat) (A2 : Option Addr) (c2 : Nat) (A3 : Option Addr) (c3 : Nat) (w : World) (h : NodeC w n A1 c1 A2 c2 A3 c3) (hs : Small n) :
    Calls Tryd.prog 78 #[.agg #[.int .i64 n.kind, .slice A1 n.ints.length c1, .slice A2 n.texts.length c2, .slice A3 n.kids.length c3]] w (RowsPost [⟨4, n.ints, n.texts, []⟩] w) := by
  have HN := Aside0.mk h
  have HS := Aside0.mk hs
  have hu := Tryd.underlying26
  have HB := Aside0.mk (below_alloc (Below.refl w.heap.size w) (.cells #[.int .i64 n.kind, .slice A1 n.ints.length c1, .slice A2 n.texts.length c2, .slice A3 n.kids.length c3] 26))
  have k1 := box_cell w _ rfl #[.int .i64 n.kind, .slice A1 n.ints.length c1, .slice A2 n.texts.length c2, .slice A3 n.kids.length c3] 26 1 _ rfl
  have k2 := box_cell w _ rfl #[.int .i64 n.kind, .slice A1 n.ints.length c1, .slice A2 n.texts.length c2, .slice A3 n.kids.length c3] 26 2 _ rfl
  clear h hs
  go_enter Tryd.func78, Tryd.ntmps78
  go_wp2
  go_region_held3 (fun W => W.cell? ⟨w.heap.size, 1, none⟩ = some (.slice A1 n.ints.length c1) ∧ W.cell? ⟨w.heap.size, 2, none⟩ = some (.slice A2 n.texts.length c2))
    (first
      | (go_split_ands
         refine ⟨?_, ?_⟩
         all_goals first
           | with_reducible assumption
           | with_reducible exact pw_cell_below hB (by assumption)
           | with_reducible exact pw_cell_below (below_alloc (Below.refl _ _) _) (by assumption)
           | (simp [*]; done)))
    (first
      | (go_at_call 74; refine (clone_i64 A1 c1 n.ints _ (Kd.C_below HN.out.i (below_drew HB.out)) (Nat.le_trans HS.out.1 (by omega))).mono ?_; rintro e w1 ⟨B1, d1, rfl, hR1, hB1⟩; have HB1 := Aside0.mk (below_step (below_drew HB.out) hB1); have hB := hB1)
      | (go_at_call 77; refine (clone_str A2 c2 n.texts _ (Kd.C_below HN.out.t HB1.out) (Nat.le_trans HS.out.2.1 (by omega))).mono ?_; rintro e w2 ⟨B2, d2, rfl, hR2, hB2⟩; have HB2 := Aside0.mk (below_step HB1.out hB2); have hB := hB2))
  go_wp2
  go_ret
  exact RowsPost.one (n := ⟨4, n.ints, n.texts, []⟩) (kNode_mkM (Kd.R_lower (Kd.R_below hR1 hB2) (below_drew HB.out).size) (Kd.R_lower hR2 HB1.out.size) (Kd.R_nil _ _ _ _ _)) HB2.out rfl
set_option maxRecDepth 100000 in
set_option maxHeartbeats 1000000 in
theorem up3_any (n : Node) (A1 : Option Addr) (c1 : Nat) (A2 : Option Addr) (c2 : Nat) (A3 : Option Addr) (c3 : Nat) (w : World) (h : NodeC w n A1 c1 A2 c2 A3 c3) (hs : Small n) (hl : 0 < n.ints.length) :
    Calls Tryd.prog 76 #[.agg #[.int .i64 n.kind, .slice A1 n.ints.length c1, .slice A2 n.texts.length c2, .slice A3 n.kids.length c3]] w (RowsPost [⟨3, [rd n.ints 0, rd n.ints 0, rd n.ints 0], n.texts, []⟩] w) := by
  have HN := Aside0.mk h
  have HS := Aside0.mk hs
  have hu := Tryd.underlying26
  have HB := Aside0.mk (below_alloc (Below.refl w.heap.size w) (.cells #[.int .i64 n.kind, .slice A1 n.ints.length c1, .slice A2 n.texts.length c2, .slice A3 n.kids.length c3] 26))
  obtain ⟨ad, rfl, x0⟩ := at_nat (Kd.C_below h.i HB.out) 0 hl
  rw [show ad.add 0 = ad from rfl] at x0
  have hr : rd n.ints ((0 : Nat) : Int) = rd n.ints 0 := rfl
  rw [hr] at x0
  have k1 := box_cell w _ rfl #[.int .i64 n.kind, .slice (some ad) n.ints.length c1, .slice A2 n.texts.length c2, .slice A3 n.kids.length c3] 26 1 _ rfl
  have k2 := box_cell w _ rfl #[.int .i64 n.kind, .slice (some ad) n.ints.length c1, .slice A2 n.texts.length c2, .slice A3 n.kids.length c3] 26 2 _ rfl
  clear h hs hr
  go_enter Tryd.func76, Tryd.ntmps76
  go_wp2
  go_region_held3 (fun W => W.cell? ⟨w.heap.size, 1, none⟩ = some (.slice (some ad) n.ints.length c1) ∧ W.cell? ⟨w.heap.size, 2, none⟩ = some (.slice A2 n.texts.length c2) ∧ W.cell? ad = some (.int .i64 (rd n.ints 0)))
    (first
      | (go_split_ands
         refine ⟨?_, ?_, ?_⟩
         all_goals first
           | with_reducible assumption
           | with_reducible exact pw_cell_below hB (by assumption)
           | with_reducible exact pw_cell_below (below_alloc (Below.refl _ _) _) (by assumption)
           | (simp [*]; done)))
    (first
      | (go_at_call 75; refine (like_any (rd n.ints 0) 3 _ (by omega) (by omega)).mono ?_; rintro e w1 ⟨B1, d1, rfl, hR1, hB1⟩; have HB1 := Aside0.mk (below_step (below_drew HB.out) hB1); have hB := hB1)
      | (go_at_call 77; refine (clone_str A2 c2 n.texts _ (Kd.C_below HN.out.t HB1.out) (Nat.le_trans HS.out.2.1 (by omega))).mono ?_; rintro e w2 ⟨B2, d2, rfl, hR2, hB2⟩; have HB2 := Aside0.mk (below_step HB1.out hB2); have hB := hB2))
  go_wp2
  go_ret
  exact RowsPost.one (n := ⟨3, [rd n.ints 0, rd n.ints 0, rd n.ints 0], n.texts, []⟩) (kNode_mkM (Kd.R_lower (Kd.R_below hR1 hB2) (below_drew HB.out).size) (Kd.R_lower hR2 HB1.out.size) (Kd.R_nil _ _ _ _ _)) HB2.out rfl
set_option maxRecDepth 100000 in
set_option maxHeartbeats 1000000 in
theorem up5_any (n : Node) (A1 : Option Addr) (c1 : Nat) (A2 : Option Addr) (c2 : Nat) (A3 : Option Addr) (c3 : Nat) (w : World) (h : NodeC w n A1 c1 A2 c2 A3 c3) (hl : 0 < n.texts.length) :
    Calls Tryd.prog 79 #[.agg #[.int .i64 n.kind, .slice A1 n.ints.length c1, .slice A2 n.texts.length c2, .slice A3 n.kids.length c3]] w (RowsPost [⟨5, [65536], [str n.texts 0, ⟨#[115, 97, 110, 115]⟩], []⟩] w) := by
  have HN := Aside0.mk h
  have hu := Tryd.underlying26
  have HB := Aside0.mk (below_alloc (Below.refl w.heap.size w) (.cells #[.int .i64 n.kind, .slice A1 n.ints.length c1, .slice A2 n.texts.length c2, .slice A3 n.kids.length c3] 26))
  obtain ⟨ad, rfl, x0⟩ := at_str (Kd.C_below h.t HB.out) 0 hl
  rw [show ad.add 0 = ad from rfl] at x0
  have k2 := box_cell w _ rfl #[.int .i64 n.kind, .slice A1 n.ints.length c1, .slice (some ad) n.texts.length c2, .slice A3 n.kids.length c3] 26 2 _ rfl
  clear h
  go_enter Tryd.func79, Tryd.ntmps79
  go_wp2
  go_region_held3 (fun W => W.cell? ⟨w.heap.size, 2, none⟩ = some (.slice (some ad) n.texts.length c2) ∧ W.cell? ad = some (.string (str n.texts 0)))
    (first
      | (go_split_ands
         refine ⟨?_, ?_⟩
         all_goals first
           | with_reducible assumption
           | with_reducible exact pw_cell_below hB (by assumption)
           | with_reducible exact pw_cell_below (below_alloc (Below.refl _ _) _) (by assumption)
           | with_reducible exact pw_cell_below (below_drew (below_alloc (Below.refl _ _) _)) (by assumption)
           | (simp [*]; done)))
    (first
      | (go_at_call 75; refine (like_any 65536 1 _ (by omega) (by omega)).mono ?_; rintro e w1 ⟨B1, d1, rfl, hR1, hB1⟩; have hB := hB1))
  · have hBw := below_step (below_drew HB.out) hB1
    go_wp2
    go_ret
    exact RowsPost.one (n := ⟨5, [65536], [str n.texts 0, ⟨#[115, 97, 110, 115]⟩], []⟩) (kNode_mkM (Kd.R_below (Kd.R_lower hR1 (below_drew HB.out).size) (below_alloc (Below.refl _ _) _)) (R_strs w1 w.heap.size _ rfl [str n.texts 0, ⟨#[115, 97, 110, 115]⟩] hBw.size (by simp) rfl) (Kd.R_nil _ _ _ _ _)) (below_step hBw (below_alloc (Below.refl _ _) _)) (by simp)
  · have hB0 := below_step HB.out (below_alloc (Below.refl _ _) (.cells #[.string (str n.texts 0), .string ⟨#[115, 97, 110, 115]⟩] 9))
    have hBw := below_step (below_drew hB0) hB1
    have hR2 := Kd.R_below (Kd.R_drew (R_strs (w.alloc (.cells #[.int .i64 n.kind, .slice A1 n.ints.length c1, .slice (some ad) n.texts.length c2, .slice A3 n.kids.length c3] 26)) w.heap.size (w.heap.size + 1) (by simp) [str n.texts 0, ⟨#[115, 97, 110, 115]⟩] HB.out.size (by simp) rfl)) hB1
    go_wp2
    go_ret
    exact RowsPost.one (n := ⟨5, [65536], [str n.texts 0, ⟨#[115, 97, 110, 115]⟩], []⟩) (kNode_mkM (Kd.R_lower hR1 (below_drew hB0).size) hR2 (Kd.R_nil _ _ _ _ _)) hBw rfl
end Go.Proofs.YtglfebpgdghlfaaDoor.L
end
