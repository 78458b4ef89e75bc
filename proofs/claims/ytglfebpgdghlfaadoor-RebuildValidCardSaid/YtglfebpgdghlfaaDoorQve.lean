/- Part 5 of the texts that YtglfebpgdghlfaaDoorRowRV rests on, joined by a program: what its functions come to. Conditions: those that each theorem states. -/
import Derived.Test.YtglfebpgdghlfaaDoorQvd
import Derived.Test.YtglfebpgdghlfaaDoorProg
import Derived.Below
import Derived.Deep.Draws
import Derived.Deep.AppendLies
import Derived.Maps.AppendAt
import Derived.OwnWalk
import Derived.Laws.BytesArg
import Derived.Laws.MakeOwn
import Derived.Laws.OwnMore
import Derived.Deep.OwnRows
import Derived.Tactics
import Derived.Lib.ConvBytes
import Derived.Laws.Slices
import Derived.WalkKit
import Derived.KernelRfl
import Derived.RowKit3
import Derived.Deep.LoopGhost
import Derived.Deep.QuietTactic
import Derived.BigQuiet
import Derived.WideLaws
import Derived.Deep.DeepCutAuto
import Derived.Deep.CutBlock
import Derived.Deep.RegionHeld3
import Derived.Laws.Rows
import Derived.Lib.AppendStr
import Derived.ArgAppend
import Derived.Laws.IdiomCopy
import Derived.OrdersHeld
import Derived.Laws.BitsLemmas
import Derived.RowKit
import Derived.Lib.Bytes
import Derived.Lib.MapLaws
import Derived.StillTailTactics
import Derived.StringKeys
set_option linter.unusedVariables false
set_option linter.unusedSimpArgs false
section
-- PRINTED BY print.sh 35421559b90ae4d0a3588c463048766b98c2df88dd9212a6774a882060cdf62d: not written by this session
namespace Go.Proofs.YtglfebpgdghlfaaDoor.PUpgradeUps
open Go.RowKit Go.Proofs.YtglfebpgdghlfaaDoorW.PrintWords Go.Proofs.YtglfebpgdghlfaaDoorW.PrintLast Go.Proofs.YtglfebpgdghlfaaDoorW.PrintMore
attribute [local go_sem] max2_int min2_int max_two min_two max_three min_three max_four min_four   -- for this text's walks alone
set_option linter.unusedVariables false
set_option linter.unusedSimpArgs false
structure S26 where
 f0 : Int
 f1 : (List Int)
 f2 : (List ByteArray)
 f3 : (List Int)
end Go.Proofs.YtglfebpgdghlfaaDoor.PUpgradeUps
end
section
namespace Go.Proofs.YtglfebpgdghlfaaDoor.L
open Go.RowKit Go.ChangeShapes Go.WideShapes Go.Proofs.YtglfebpgdghlfaaDoorW.PrintWords Go.Proofs.YtglfebpgdghlfaaDoorW.PrintLast Go.Proofs.YtglfebpgdghlfaaDoorW.PrintMore
attribute [local go_sem] max2_int min2_int max_two min_two max_three min_three max_four min_four
open Go.Proofs.YtglfebpgdghlfaaDoor.PUpgradeUps
def ofS (x : S26) : Node := ⟨x.f0, x.f1, x.f2, x.f3⟩
end Go.Proofs.YtglfebpgdghlfaaDoor.L
end
section
namespace Go.Proofs.YtglfebpgdghlfaaDoor.L
open Go.RowKit Go.ChangeShapes Go.WideShapes Go.Proofs.YtglfebpgdghlfaaDoorW.PrintWords Go.Proofs.YtglfebpgdghlfaaDoorW.PrintLast Go.Proofs.YtglfebpgdghlfaaDoorW.PrintMore
attribute [local go_sem] max2_int min2_int max_two min_two max_three min_three max_four min_four
open Go.Proofs.YtglfebpgdghlfaaDoor.PUpgradeUps
theorem ob {z : Int} (m : Nat) (h : z = (m : Int)) : UInt8.ofNat z.toNat = UInt8.ofNat m := by rw [h]; rfl
end Go.Proofs.YtglfebpgdghlfaaDoor.L
end
section
namespace Go.Proofs.YtglfebpgdghlfaaDoor.L
open Go.RowKit Go.ChangeShapes Go.WideShapes Go.Proofs.YtglfebpgdghlfaaDoorW.PrintWords Go.Proofs.YtglfebpgdghlfaaDoorW.PrintLast Go.Proofs.YtglfebpgdghlfaaDoorW.PrintMore
attribute [local go_sem] max2_int min2_int max_two min_two max_three min_three max_four min_four
open Go.Proofs.YtglfebpgdghlfaaDoor.PUpgradeUps
def _root_.Go.Proofs.YtglfebpgdghlfaaDoor.PUpgradeUps.dioramaref09_Place.f (xs : List S26) (_ : Int) (a : Int) : Option Bool := some (isPl xs.length a)
def _root_.Go.Proofs.YtglfebpgdghlfaaDoor.PUpgradeUps.dioramaref09_Refs.f (_ : Nat) (xs : List S26) (_ : Int) : Option Int := some (refsAt (xs.map ofS))
theorem _root_.Go.Proofs.YtglfebpgdghlfaaDoor.PUpgradeUps.dioramaref09_Refs.mono : ∀ a0 a1 k, LeO (dioramaref09_Refs.f k a0 a1) (dioramaref09_Refs.f (k + 1) a0 a1) := fun _ _ _ => LeO.refl _
end Go.Proofs.YtglfebpgdghlfaaDoor.L
end
section
namespace Go.Proofs.YtglfebpgdghlfaaDoor.L
open Go.RowKit Go.ChangeShapes Go.WideShapes Go.Proofs.YtglfebpgdghlfaaDoorW.PrintWords Go.Proofs.YtglfebpgdghlfaaDoorW.PrintLast Go.Proofs.YtglfebpgdghlfaaDoorW.PrintMore
attribute [local go_sem] max2_int min2_int max_two min_two max_three min_three max_four min_four
open Go.Proofs.YtglfebpgdghlfaaDoor.PUpgradeUps
structure KidB (f : Int → Int) (n : Node) (v1 v2 v3 : Value) (j g : Nat) (W0 W : World) : Prop where
  below : Below W0.heap.size W0 W
  gb : W0.heap.size ≤ g
  box : W.heap[g]? = some (.cells #[.int .i64 n.kind, v1, v2, v3] 26 (0, 0))
  r1 : (Kd.int .i64).R 2 W W0.heap.size (fun _ => True) v1 n.ints
  r2 : Kd.string.R 9 W W0.heap.size (fun _ => True) v2 n.texts
  r3 : (Kd.int .i64).R 3 W W0.heap.size (fun _ => True) v3 (mapTake f n.kids j)
theorem KidB.drewN {f : Int → Int} {n : Node} {v1 v2 v3 : Value} {j g : Nat} {W0 W : World} (h : KidB f n v1 v2 v3 j g W0 W) (m : Nat) : KidB f n v1 v2 v3 j g W0 (W.drewN m) :=
  ⟨pw_below_drewN h.below m, h.gb, h.box, Kd.R_drewN h.r1 m, Kd.R_drewN h.r2 m, Kd.R_drewN h.r3 m⟩
theorem KidB.set {f : Int → Int} {n : Node} {v1 v2 : Value} {g' g c m : Nat} {j : Nat} {W0 W : World} (h : KidB f n v1 v2 (.slice (some ⟨g, 0, none⟩) m c) j g' W0 W) (hj : j < n.kids.length) :
    W.cell? ⟨g, j, none⟩ = some (.int .i64 (rd n.kids (j : Int))) ∧ W.frozen? ⟨g, j, none⟩ = false ∧ g ≠ g' ∧ KidB f n v1 v2 (.slice (some ⟨g, 0, none⟩) m c) (j + 1) g' W0 (W.setCell ⟨g, j, none⟩ (.int .i64 (f (rd n.kids (j : Int))))) := by
  have hm := (Kd.R_reads' h.r3).1
  rw [mapTake_len] at hm
  obtain ⟨c1, c2⟩ := ints_cell h.r3 j (by omega)
  obtain ⟨s1, s2, s3⟩ := ints_store h.r3 j (by omega) (f (rd n.kids (j : Int)))
  rw [mapTake_rd f _ _ hj] at c1
  rw [mapTake_set f _ _ hj] at s1
  obtain ⟨cells, hc⟩ := Kd.R_typed h.r3 g rfl
  have hne : g ≠ g' := fun e => by
    rw [e, h.box] at hc
    cases hc
  refine ⟨c1, c2, hne, below_set h.below s3, h.gb, blk_grown h.box s2 (fun e => ?_), Kd.R_grown1 h.r1 rfl s2 (Kd.R_ne h.r1 hc (by decide)), Kd.R_grown1 h.r2 rfl s2 (Kd.R_ne h.r2 hc (by decide)), s1⟩
  injection e with e
  exact hne e.symm
theorem KidB.drew {f : Int → Int} {n : Node} {v1 v2 v3 : Value} {j g : Nat} {W0 W : World} (h : KidB f n v1 v2 v3 j g W0 W) : KidB f n v1 v2 v3 j g W0 W.drew := h.drewN 1
end Go.Proofs.YtglfebpgdghlfaaDoor.L
end
section
namespace Go.Proofs.YtglfebpgdghlfaaDoor.L
open Go.RowKit Go.ChangeShapes Go.WideShapes Go.Proofs.YtglfebpgdghlfaaDoorW.PrintWords Go.Proofs.YtglfebpgdghlfaaDoorW.PrintLast Go.Proofs.YtglfebpgdghlfaaDoorW.PrintMore
attribute [local go_sem] max2_int min2_int max_two min_two max_three min_three max_four min_four
open Go.Proofs.YtglfebpgdghlfaaDoor.PUpgradeUps
def B (s : ByteArray) (i : Nat) : Nat := (s.get! i).toNat
end Go.Proofs.YtglfebpgdghlfaaDoor.L
end
section
namespace Go.Proofs.YtglfebpgdghlfaaDoor.L
open Go.RowKit Go.ChangeShapes Go.WideShapes Go.Proofs.YtglfebpgdghlfaaDoorW.PrintWords Go.Proofs.YtglfebpgdghlfaaDoorW.PrintLast Go.Proofs.YtglfebpgdghlfaaDoorW.PrintMore
attribute [local go_sem] max2_int min2_int max_two min_two max_three min_three max_four min_four
set_option maxRecDepth 100000 in
set_option maxHeartbeats 1000000 in
theorem empty_any (n : Node) (A1 : Option Addr) (c1 : Nat) (A2 : Option Addr) (c2 : Nat) (A3 : Option Addr) (c3 : Nat) (w : World) :
    Calls Tryd.prog 111 #[.agg #[.int .i64 n.kind, .slice A1 n.ints.length c1, .slice A2 n.texts.length c2, .slice A3 n.kids.length c3]] w fun e w' => e = .returned (.bool (emptyN n)) ∧ Below w.heap.size w w' := by
  have HB := Aside0.mk (below_alloc (Below.refl w.heap.size w) (.cells #[.int .i64 n.kind, .slice A1 n.ints.length c1, .slice A2 n.texts.length c2, .slice A3 n.kids.length c3] 26))
  have hu := Tryd.underlying26
  by_cases h0 : n.kind = 0
  · by_cases h1 : n.ints.length = 0
    · by_cases h2 : n.texts.length = 0
      · by_cases h3 : n.kids.length = 0
        · have HE := Aside0.mk (show emptyN n = true from decide_eq_true ⟨h0, h1, h2, h3⟩)
          rw [h0, h1, h2, h3] at HB ⊢
          clear h0 h1 h2 h3
          go_enter Tryd.func111, Tryd.ntmps111
          go_wp2
          go_ret
          exact ⟨ret_bool HE.out.symm, HB.out⟩
        · have HE := Aside0.mk (show emptyN n = false from decide_eq_false (fun h => h3 h.2.2.2))
          have d3 : ((n.kids.length : Int) == 0) = false := beq_eq_false_iff_ne.2 (by omega)
          rw [h0, h1, h2] at HB ⊢
          clear h0 h1 h2 h3
          go_enter Tryd.func111, Tryd.ntmps111
          go_wp2
          go_ret
          exact ⟨ret_bool HE.out.symm, HB.out⟩
      · have HE := Aside0.mk (show emptyN n = false from decide_eq_false (fun h => h2 h.2.2.1))
        have d3 : ((n.texts.length : Int) == 0) = false := beq_eq_false_iff_ne.2 (by omega)
        rw [h0, h1] at HB ⊢
        clear h0 h1 h2
        go_enter Tryd.func111, Tryd.ntmps111
        go_wp2
        go_ret
        exact ⟨ret_bool HE.out.symm, HB.out⟩
    · have HE := Aside0.mk (show emptyN n = false from decide_eq_false (fun h => h1 h.2.1))
      have d3 : ((n.ints.length : Int) == 0) = false := beq_eq_false_iff_ne.2 (by omega)
      rw [h0] at HB ⊢
      clear h0 h1
      go_enter Tryd.func111, Tryd.ntmps111
      go_wp2
      go_ret
      exact ⟨ret_bool HE.out.symm, HB.out⟩
  · have HE := Aside0.mk (show emptyN n = false from decide_eq_false (fun h => h0 h.1))
    have d3 : (n.kind == 0) = false := by simpa using h0
    clear h0
    go_enter Tryd.func111, Tryd.ntmps111
    go_wp2
    go_ret
    exact ⟨ret_bool HE.out.symm, HB.out⟩
structure BRel (a : Scene) (A : Option Addr) (c b mb cnt : Nat) (f : Lit → Option Value) (v : Value) (out : List Node) (w W : World) : Prop where
  below : Below w.heap.size w W
  blk : W.heap[b]? = some (.cells #[.slice A a.nodes.length c, .int .i64 a.root, .map (some mb), v] 89 (0, 0))
  map : MapF Tryd.prog 3 W mb cnt f
  rows : kNode.R 26 W w.heap.size (fun _ => True) v out
  bge : w.heap.size ≤ b
  mge : w.heap.size ≤ mb
section
variable {a : Scene} {A : Option Addr} {c b mb cnt : Nat} {f : Lit → Option Value} {v : Value} {out : List Node} {w W W1 : World}
theorem BRel.later (h : BRel a A c b mb cnt f v out w W) (hb : Below W.heap.size W W1) : BRel a A c b mb cnt f v out w W1 :=
  ⟨below_step h.below hb, (hb.block _ (blk_lt h.blk)).trans h.blk, h.map.below hb, Kd.R_below h.rows hb, h.bge, h.mge⟩
theorem BRel.drew (h : BRel a A c b mb cnt f v out w W) : BRel a A c b mb cnt f v out w W.drew := h.later (pw_below_drewN (Below.refl _ _) 1)
theorem BRel.grow {cnt' : Nat} {f' : Lit → Option Value} (h : BRel a A c b mb cnt f v out w W) (hg : W.grownBy W1 (some mb)) (hM : MapF Tryd.prog 3 W1 mb cnt' f') : BRel a A c b mb cnt' f' v out w W1 :=
  ⟨h.below.grown hg h.below.size (fun q hq => by injection hq with hq; have := h.mge; omega), blk_grown h.blk hg (fun e => by injection e with e; exact h.map.not_cells (by rw [← e]; exact h.blk)), hM, R_past_map h.rows h.map hg, h.bge, h.mge⟩
end
def CapB (B N : Nat) (w : World) : Prop := ∃ b A c, w.cell? ⟨B, 0, none⟩ = some (.pointer (some ⟨b, 0, none⟩)) ∧ w.cell? ⟨b, 3, none⟩ = some (.slice A N c) ∧ N ≤ 9223372036854775807
theorem CapB.below {B N : Nat} {w w' : World} (h : CapB B N w) (hb : Below w.heap.size w w') : CapB B N w' := by
  obtain ⟨b, A, c, h1, h2, hN⟩ := h
  exact ⟨b, A, c, pw_cell_below hb h1, pw_cell_below hb h2, hN⟩
set_option maxRecDepth 100000 in
set_option maxHeartbeats 1000000 in
theorem noAhead_any (k : Int) (B b : Nat) (A : Option Addr) (N c : Nat) (w : World) (h : w.cell? ⟨B, 0, none⟩ = some (.pointer (some ⟨b, 0, none⟩))) (h2 : w.cell? ⟨b, 3, none⟩ = some (.slice A N c)) (hN : N ≤ 9223372036854775807) :
    Calls Tryd.prog 94 #[.int .i64 k, .pointer (some ⟨B, 0, none⟩)] w fun e w' => e = .returned (.bool (noPlace N k)) ∧ Drawn0 w w' := by
  have hub := Tryd.underlying89
  by_cases h1 : k < 0
  · have E : Aside0 (noPlace N k = true) := ⟨by unfold noPlace; rw [decide_eq_true h1]; rfl⟩
    have d1 : decide (k < 0) = true := decide_eq_true h1
    clear h1
    go_enter Tryd.func94, Tryd.ntmps94
    go_wp2
    go_ret
    exact ⟨ret_bool E.out.symm, by repeat (first | exact Drawn0.refl _ | apply Drawn0.step)⟩
  · have d1 : decide (k < 0) = false := decide_eq_false h1
    by_cases h3 : (N : Int) ≤ k
    · have E : Aside0 (noPlace N k = true) := ⟨by unfold noPlace; rw [decide_eq_true h3]; simp⟩
      have d2 : decide ((N : Int) ≤ k) = true := decide_eq_true h3
      clear h1 h3
      go_enter Tryd.func94, Tryd.ntmps94
      go_wp2
      go_ret
      exact ⟨ret_bool E.out.symm, by repeat (first | exact Drawn0.refl _ | apply Drawn0.step)⟩
    · have E : Aside0 (noPlace N k = false) := ⟨by unfold noPlace; rw [decide_eq_false h1, decide_eq_false h3]; rfl⟩
      have d2 : decide ((N : Int) ≤ k) = false := decide_eq_false h3
      clear h1 h3
      go_enter Tryd.func94, Tryd.ntmps94
      go_wp2
      go_ret
      exact ⟨ret_bool E.out.symm, by repeat (first | exact Drawn0.refl _ | apply Drawn0.step)⟩
set_option maxRecDepth 100000 in
set_option maxHeartbeats 1000000 in
theorem aheadIdx_any (A : Option Addr) (c : Nat) (l : List Int) (B N : Nat) (w : World) (hl : (Kd.int .i64).C w A l.length l) (h : CapB B N w) :
    Calls Tryd.prog 115 #[.slice A l.length c, .func (.func 94) #[] #[.pointer (some ⟨B, 0, none⟩)]] w (KidIdx N l w) := by
  have HR := Aside0.mk hl
  have HC := Aside0.mk h
  have HB := Aside0.mk (Below.refl w.heap.size w)
  have b0 := hl.2.1
  clear hl h
  go_enter Tryd.func115, Tryd.ntmps115
  go_wp2
  go_loopw [5, 8] (fun _ v8 W => ∃ k : Nat, k ≤ l.length ∧ v8 = .int .i64 k ∧ Aside0 (∀ j, j < k → noPlace N (rd l j) = false) ∧ Aside0 (Below w.heap.size w W)) (fun _ v8 _ => l.length - (intOf v8).toNat)
  case atStart => exact ⟨0, by omega, rfl, ⟨fun j hj => by omega⟩, HB⟩
  case round =>
    obtain ⟨k, hk, rfl, HP, HB1⟩ := hrel
    by_cases hlt : k < l.length
    · obtain ⟨ad0, rfl, hx0⟩ := at_nat (Kd.C_below HR.out HB1.out) k (by omega)
      obtain ⟨bb, AA, cc, h3⟩ := HC.out.below HB1.out
      have h3 := Aside0.mk h3
      go_wp2_with fail
      refine (noAhead_any (rd l k) B _ _ N _ _ h3.out.1 h3.out.2.1 h3.out.2.2).mono ?_
      rintro e w' ⟨rfl, hB⟩
      have HB2 := Aside0.mk (below_step HB1.out hB.below)
      clear hB
      by_cases hi : noPlace N (rd l k) = true
      · have HI := Aside0.mk hi
        clear hi
        rw [HI.out]
        go_wp2
        go_ret
        exact ⟨k, rfl, by rw [kidsBad_at hlt HI.out]; exact decide_eq_true (by omega), HB2.out⟩
      · have HI := Aside0.mk (Bool.eq_false_iff.2 hi)
        clear hi
        rw [HI.out]
        go_wp2
        go_roundw
        case rel => exact ⟨k + 1, by omega, by go_num, ⟨ext_lt HP.out HI.out⟩, HB2⟩
        case measure => simp [intOf]; omega
    · have HE := Aside0.mk (kidsBad_no (by omega) HP.out)
      go_wp2
      go_ret
      exact ⟨-1, rfl, by rw [HE.out]; rfl, HB1.out⟩
set_option maxRecDepth 100000 in
set_option maxHeartbeats 1000000 in
theorem aheadHas_any (A : Option Addr) (c : Nat) (l : List Int) (B N : Nat) (w : World) (hl : (Kd.int .i64).C w A l.length l) (h : CapB B N w) :
    Calls Tryd.prog 93 #[.slice A l.length c, .func (.func 94) #[] #[.pointer (some ⟨B, 0, none⟩)]] w fun e w' => e = .returned (.bool (kidsBad N l)) ∧ Below w.heap.size w w' := by
  have HR := Aside0.mk hl
  have HC := Aside0.mk h
  clear hl h
  go_enter Tryd.func93, Tryd.ntmps93
  go_wp2_with fail
  refine (aheadIdx_any A c l B N _ HR.out HC.out).mono ?_
  rintro e w' ⟨i, rfl, hi, hB⟩
  have HI := Aside0.mk hi
  have HB := Aside0.mk hB
  clear hi hB
  go_wp2
  go_ret
  exact ⟨ret_bool HI.out, HB.out⟩
end Go.Proofs.YtglfebpgdghlfaaDoor.L
end
section
namespace Go.Proofs.YtglfebpgdghlfaaDoor.L
open Go.RowKit Go.ChangeShapes Go.WideShapes Go.Proofs.YtglfebpgdghlfaaDoorW.PrintWords Go.Proofs.YtglfebpgdghlfaaDoorW.PrintLast Go.Proofs.YtglfebpgdghlfaaDoorW.PrintMore
attribute [local go_sem] max2_int min2_int max_two min_two max_three min_three max_four min_four
theorem zeroI (w : World) : (zeroValue 3).run Tryd.prog w = .ok (.int .i64 0) w := by kernel_rfl
abbrev zeroN : Array Value := #[.int .i64 0, .slice none 0 0, .slice none 0 0, .slice none 0 0]
theorem OutRel.landed {P : Program} {k : TypeId} {n mb : Nat} {f : Lit → Option Value} {m : Node} {v1 v2 v3 : Value} {w : World} {rb g : Nat} {W W1 : World} (h : OutRel m v1 v2 v3 w rb g W) (hm : MapF P k W mb n f) (hlt : mb < w.heap.size) (hg : W.grownBy W1 (some mb)) :
    W1.heap[g]? = some (.cells #[.int .i64 m.kind, v1, v2, v3] 26 (0, 0)) ∧ W1.heap[rb]? = some (.cells #[.int .i64 0, .slice none 0 0, .slice none 0 0, .slice none 0 0] 26 (0, 0)) ∧
    ((((W1.setCell ⟨rb, 0, none⟩ (.int .i64 m.kind)).setCell ⟨rb, 1, none⟩ v1).setCell ⟨rb, 2, none⟩ v2).setCell ⟨rb, 3, none⟩ v3).heap[rb]? = some (.cells #[.int .i64 m.kind, v1, v2, v3] 26 (0, 0)) ∧
    kNode.M ((((W1.setCell ⟨rb, 0, none⟩ (.int .i64 m.kind)).setCell ⟨rb, 1, none⟩ v1).setCell ⟨rb, 2, none⟩ v2).setCell ⟨rb, 3, none⟩ v3) w.heap.size (fun _ => True) m [.int .i64 m.kind, v1, v2, v3] ∧
    w.grownBy ((((W1.setCell ⟨rb, 0, none⟩ (.int .i64 m.kind)).setCell ⟨rb, 1, none⟩ v1).setCell ⟨rb, 2, none⟩ v2).setCell ⟨rb, 3, none⟩ v3) (some mb) := by
  have hne : ∀ {q : Nat} {cs : Array Value} {T : TypeId}, W.heap[q]? = some (.cells cs T (0, 0)) → some q ≠ some mb := fun hq e => by
    injection e with e
    exact hm.not_cells (by rw [← e]; exact hq)
  have hb0 := blk_grown h.res hg (hne h.res)
  have hb1 := blk_set hb0 0 (.int .i64 m.kind)
  have hb2 := blk_set hb1 1 v1
  have hb3 := blk_set hb2 2 v2
  refine ⟨blk_grown h.box hg (hne h.box), hb0, box4 hb0 _ _ _ _, kNode_mkM ?_ ?_ ?_, ?_⟩
  · exact R_type (R_type (R_type (R_type (R_past_map h.r1 hm hg) hb0 (by decide) _ _) hb1 (by decide) _ _) hb2 (by decide) _ _) hb3 (by decide) _ _
  · exact R_type (R_type (R_type (R_type (R_past_map h.r2 hm hg) hb0 (by decide) _ _) hb1 (by decide) _ _) hb2 (by decide) _ _) hb3 (by decide) _ _
  · exact R_type (R_type (R_type (R_type (R_past_map h.r3 hm hg) hb0 (by decide) _ _) hb1 (by decide) _ _) hb2 (by decide) _ _) hb3 (by decide) _ _
  · refine ⟨hg.os.trans h.below.os, hg.tape.trans h.below.tape, hg.output.trans h.below.output, ?_, fun i hi hr => ?_⟩
    · have h1 := hg.size
      have h2 := h.below.size
      simpa using Nat.le_trans h2 h1
    · have hr1 : i ≠ rb := by have := h.rge; omega
      rw [Below.heap_setCell _ ⟨rb, 3, none⟩ v3 i hr1, Below.heap_setCell _ ⟨rb, 2, none⟩ v2 i hr1, Below.heap_setCell _ ⟨rb, 1, none⟩ v1 i hr1, Below.heap_setCell _ ⟨rb, 0, none⟩ (.int .i64 m.kind) i hr1, hg.block i (by have := h.below.size; omega) hr]
      exact h.below.block i hi
section
variable {a : Scene} {A : Option Addr} {c b mb cnt : Nat} {base : List Int} {v : Value} {out : List Node} {w : World}
set_option maxRecDepth 100000 in
set_option maxHeartbeats 4000000 in
theorem take_no (W : World) (h : BRel a A c b mb cnt (imgF base) v out w W) (p : Int) (hp0 : -9223372036854775808 ≤ p) (hp1 : p ≤ 9223372036854775807) (hno : takes a.nodes.length base p = false) :
    Calls Tryd.prog 112 #[.pointer (some ⟨b, 0, none⟩), .int .i64 p] W fun e W' => e = .returned (.tuple #[.agg #[.int .i64 0, .slice none 0 0, .slice none 0 0, .slice none 0 0], .bool false]) ∧ Below W.heap.size W W' := by
  have HB := Aside0.mk h
  have HA := Aside0.mk (below_alloc (Below.refl W.heap.size W) (.cells zeroN 26))
  have HM := Aside0.mk (h.map.below HA.out)
  have q0 : W.cell? ⟨b, 0, none⟩ = some (.slice A a.nodes.length c) := (blk_cell h.blk 0).trans rfl
  have q2 : W.cell? ⟨b, 2, none⟩ = some (.map (some mb)) := (blk_cell h.blk 2).trans rfl
  have hb := blk_lt h.blk
  have hub := Tryd.underlying89
  have hun := Tryd.underlying39
  have HK := Aside0.mk (keyI_of hp0 hp1)
  have HNo := Aside0.mk (of_decide_eq_false hno)
  clear h hno
  by_cases hin : 0 ≤ p ∧ p ∈ base
  · have HI := Aside0.mk (imgF_in hin.1 hin.2 (.int .i64 0))
    clear hin HNo
    go_enter Tryd.func112, Tryd.ntmps112
    go_wp2_with (at_lookup; refine wpList_lookup_F_ok _ rfl (.tmp 17) (.tmp 18) 87 rfl 3 3 keyI Tryd.underlying87 (zeroI _) mb cnt (imgF base) rfl HM.out (.int .i64 p) (.int .i64 p) rfl HK.out _ HI.out.1 true HI.out.2 ?_)
    exact bodyPost_ret (v := .tuple #[.agg #[.int .i64 0, .slice none 0 0, .slice none 0 0, .slice none 0 0], .bool false]) (by simp [results, Tryd.results112, go_sem]) rfl ⟨rfl, HA.out⟩
  · have HI := Aside0.mk (imgF_out hin (.int .i64 0))
    by_cases hp : p < 0
    · have d1 : decide (p < 0) = true := decide_eq_true hp
      clear hin HNo hp
      go_enter Tryd.func112, Tryd.ntmps112
      go_wp2_with (at_lookup; refine wpList_lookup_F_ok _ rfl (.tmp 17) (.tmp 18) 87 rfl 3 3 keyI Tryd.underlying87 (zeroI _) mb cnt (imgF base) rfl HM.out (.int .i64 p) (.int .i64 p) rfl HK.out _ HI.out.1 false HI.out.2 ?_)
      exact bodyPost_ret (v := .tuple #[.agg #[.int .i64 0, .slice none 0 0, .slice none 0 0, .slice none 0 0], .bool false]) (by simp [results, Tryd.results112, go_sem]) rfl ⟨rfl, HA.out⟩
    · have d1 : decide (p < 0) = false := decide_eq_false hp
      have d2 : decide ((a.nodes.length : Int) ≤ p) = true := decide_eq_true (Classical.byContradiction fun hh => HNo.out ⟨by omega, by omega, fun hm => hin ⟨by omega, hm⟩⟩)
      clear hin HNo hp
      go_enter Tryd.func112, Tryd.ntmps112
      go_wp2_with (at_lookup; refine wpList_lookup_F_ok _ rfl (.tmp 17) (.tmp 18) 87 rfl 3 3 keyI Tryd.underlying87 (zeroI _) mb cnt (imgF base) rfl HM.out (.int .i64 p) (.int .i64 p) rfl HK.out _ HI.out.1 false HI.out.2 ?_)
      exact bodyPost_ret (v := .tuple #[.agg #[.int .i64 0, .slice none 0 0, .slice none 0 0, .slice none 0 0], .bool false]) (by simp [results, Tryd.results112, go_sem]) rfl ⟨rfl, HA.out⟩
end
end Go.Proofs.YtglfebpgdghlfaaDoor.L
end
section
namespace Go.Proofs.YtglfebpgdghlfaaDoor.L
open Go.RowKit Go.ChangeShapes Go.WideShapes Go.Proofs.YtglfebpgdghlfaaDoorW.PrintWords Go.Proofs.YtglfebpgdghlfaaDoorW.PrintLast Go.Proofs.YtglfebpgdghlfaaDoorW.PrintMore
attribute [local go_sem] max2_int min2_int max_two min_two max_three min_three max_four min_four
def TakePost (a : Scene) (A : Option Addr) (c b mb cnt : Nat) (base : List Int) (v : Value) (out : List Node) (w : World) (i : Nat) (W : World) (e : Ending) (W' : World) : Prop :=
  ∃ v1 v2 v3, e = .returned (.tuple #[.agg #[.int .i64 (imgN base (nd a.nodes i)).kind, v1, v2, v3], .bool true]) ∧ kNode.M W' W.heap.size (fun _ => True) (imgN base (nd a.nodes i)) [.int .i64 (imgN base (nd a.nodes i)).kind, v1, v2, v3] ∧
    BRel a A c b mb (cnt + 1) (imgF (base ++ [(i : Int)])) v out w W' ∧ W.grownBy W' (some mb)
section
variable {a : Scene} {A : Option Addr} {c b mb cnt : Nat} {base : List Int} {v : Value} {out : List Node} {w : World}
set_option maxRecDepth 100000 in
set_option maxHeartbeats 8000000 in
theorem take_yes (W : World) (h : BRel a A c b mb cnt (imgF base) v out w W) (hlen : out.length = base.length) (hc : kNode.C w A a.nodes.length a.nodes) (hS : ∀ i : Nat, i < a.nodes.length → Small (nd a.nodes i)) (hP : Places a.nodes) (hn : a.nodes.length ≤ 1000000) (hcn : cnt ≤ 1000000) (i : Nat) (hi : i < a.nodes.length) (hni : ¬ (i : Int) ∈ base) :
    Calls Tryd.prog 112 #[.pointer (some ⟨b, 0, none⟩), .int .i64 (i : Int)] W (TakePost a A c b mb cnt base v out w i W) := by
  have HB := Aside0.mk h
  have hA0 := below_alloc (Below.refl W.heap.size W) (.cells zeroN 26)
  have HA := Aside0.mk hA0
  have HM := Aside0.mk (h.map.below hA0)
  have q0 : W.cell? ⟨b, 0, none⟩ = some (.slice A a.nodes.length c) := (blk_cell h.blk 0).trans rfl
  have q2 : W.cell? ⟨b, 2, none⟩ = some (.map (some mb)) := (blk_cell h.blk 2).trans rfl
  have hb := blk_lt h.blk
  have hub := Tryd.underlying89
  have hus := Tryd.underlying39
  have hun := Tryd.underlying26
  have HK := Aside0.mk (keyI_of (x := (i : Int)) (by omega) (by omega))
  have HI := Aside0.mk (imgF_out (base := base) (k := (i : Int)) (fun hh => hni hh.2) (.int .i64 0))
  have HNi := Aside0.mk hni
  have HPl := Aside0.mk (hP i hi)
  have HSm := Aside0.mk (hS i hi)
  have HLen := Aside0.mk hlen
  have HRes := Aside0.mk (show (W.alloc (.cells zeroN 26)).heap[W.heap.size]? = some (.cells zeroN 26 (0, 0)) from by simpa using heap_alloc_new W _)
  obtain ⟨adn, A1, c1, A2, c2, A3, c3, rfl, x0, x1, x2, x3, hN⟩ := at_node (Kd.C_below hc h.below) i hi
  have HN := Aside0.mk hN
  replace x0 := pw_cell_below hA0 x0
  replace x1 := pw_cell_below hA0 x1
  replace x2 := pw_cell_below hA0 x2
  replace x3 := pw_cell_below hA0 x3
  have d0 : decide ((i : Int) < 0) = false := decide_eq_false (by omega)
  have d1 : decide ((a.nodes.length : Int) ≤ (i : Int)) = false := decide_eq_false (by omega)
  have d1n : decide (a.nodes.length ≤ i) = false := decide_eq_false (by omega)
  clear h hc hS hP hni hN hA0 hlen
  go_enter Tryd.func112, Tryd.ntmps112
  go_wp2_with (at_lookup; refine wpList_lookup_F_ok _ rfl (.tmp 17) (.tmp 18) 87 rfl 3 3 keyI Tryd.underlying87 (zeroI _) mb cnt (imgF base) rfl HM.out (.int .i64 (i : Int)) (.int .i64 (i : Int)) rfl HK.out _ HI.out.1 false HI.out.2 ?_)
  refine (copy_any (nd a.nodes i) A1 c1 A2 c2 A3 c3 _ (HN.out.below HA.out) HSm.out).mono ?_
  rintro e w6 ⟨v', rfl, ⟨v1, v2, v3, rfl, hM6⟩, hB6⟩
  have HO := Aside0.mk (OutRel.start (w := W) (rb := W.heap.size) (below_step HA.out hB6) (Nat.le_refl _) ((hB6.block _ (blk_lt HRes.out)).trans HRes.out) HA.out.size hM6)
  clear hB6 hM6 HRes
  obtain ⟨A5, c5, hv1⟩ := Kd.R_slice HO.out.r1
  subst hv1
  obtain ⟨A6, c6, hv2⟩ := Kd.R_slice HO.out.r2
  subst hv2
  obtain ⟨A7, c7, hv3⟩ := Kd.R_slice HO.out.r3
  subst hv3
  go_wp2
  generalize w6.alloc (.cells #[.int .i64 (nd a.nodes i).kind, .slice A5 (nd a.nodes i).ints.length c5, .slice A6 (nd a.nodes i).texts.length c6, .slice A7 (nd a.nodes i).kids.length c7] 26) = W7 at HO ⊢
  generalize w6.heap.size = g at HO ⊢
  clear q0 q2 x0 x1 x2 x3
  go_loopw [50] (fun v50 W1 => ∃ j : Nat, j ≤ (nd a.nodes i).kids.length ∧ v50 = .int .i64 j ∧ Aside0 (OutRel ⟨(nd a.nodes i).kind, (nd a.nodes i).ints, (nd a.nodes i).texts, mapTake (img base) (nd a.nodes i).kids j⟩ (.slice A5 (nd a.nodes i).ints.length c5) (.slice A6 (nd a.nodes i).texts.length c6) (.slice A7 (nd a.nodes i).kids.length c7) W W.heap.size g W1)) (fun v50 _ => (nd a.nodes i).kids.length - (intOf v50).toNat)
  case atStart => exact ⟨0, by omega, rfl, ⟨by rw [mapTake_zero]; exact HO.out⟩⟩
  case round =>
    clear HO
    obtain ⟨j, hj, rfl, HJ⟩ := hrel
    have HB1 := Aside0.mk (HB.out.later HJ.out.below)
    have hkl : (nd a.nodes i).kids.length ≤ 1000000 := HSm.out.2.2
    have hbw := blk_lt HB1.out.blk
    have hgw := blk_lt HJ.out.box
    by_cases hjl : j < (nd a.nodes i).kids.length
    · obtain ⟨g7, c7', hv, -⟩ := Kd.R_form HJ.out.r3 (by show 0 < (mapTake _ _ _).length; rw [mapTake_len]; omega)
      injection hv with hA hx hcc
      clear hx
      subst hA hcc
      have HQ := Aside0.mk (HPl.out _ (rd_mem hjl))
      obtain ⟨k, hk⟩ : ∃ k : Nat, rd (nd a.nodes i).kids (j : Int) = (k : Int) := ⟨(rd (nd a.nodes i).kids (j : Int)).toNat, by have := HQ.out.1; omega⟩
      have hkn : k < a.nodes.length := by have := HQ.out.2; omega
      obtain ⟨s1, s2, hs3⟩ := HJ.out.setKid (f := j) (by show j < (mapTake _ _ _).length; rw [mapTake_len]; exact hjl) (img base (rd (nd a.nodes i).kids (j : Int)))
      have hs3 : OutRel ⟨(nd a.nodes i).kind, (nd a.nodes i).ints, (nd a.nodes i).texts, mapTake (img base) (nd a.nodes i).kids (j + 1)⟩ (.slice A5 (nd a.nodes i).ints.length c5) (.slice A6 (nd a.nodes i).texts.length c6) (.slice (some ⟨g7, 0, none⟩) (nd a.nodes i).kids.length c7) W W.heap.size g (wr.setCell ⟨g7, j, none⟩ (.int .i64 (img base (rd (nd a.nodes i).kids (j : Int))))) := by
        have h := hs3
        rw [show (mapTake (img base) (nd a.nodes i).kids j).set j (img base (rd (nd a.nodes i).kids (j : Int))) = mapTake (img base) (nd a.nodes i).kids (j + 1) from mapTake_set _ _ _ hjl] at h
        exact h
      rw [show rd (mapTake (img base) (nd a.nodes i).kids j) (j : Int) = rd (nd a.nodes i).kids (j : Int) from mapTake_rd _ _ _ hjl, hk] at s1
      rw [hk] at hs3
      have q3 : wr.cell? ⟨g, 3, none⟩ = some (.slice (some ⟨g7, 0, none⟩) (nd a.nodes i).kids.length c7) := (blk_cell HJ.out.box 3).trans rfl
      have q2 : wr.cell? ⟨b, 2, none⟩ = some (.map (some mb)) := (blk_cell HB1.out.blk 2).trans rfl
      have HKk := Aside0.mk (keyI_of (x := (k : Int)) (by omega) (by omega))
      clear hk
      by_cases hin : (k : Int) ∈ base
      · have HIk := Aside0.mk (imgF_in (base := base) (k := (k : Int)) (by omega) hin (.int .i64 0))
        have HS3 := Aside0.mk hs3
        clear hin hs3
        generalize img base (k : Int) = im at HIk HS3
        go_wp2_with (at_lookup; refine wpList_lookup_F_ok _ rfl (.tmp 59) (.tmp 60) 87 rfl 3 3 keyI Tryd.underlying87 (zeroI _) mb cnt (imgF base) rfl HB1.out.map (.int .i64 (k : Int)) (.int .i64 (k : Int)) rfl HKk.out _ HIk.out.1 true HIk.out.2 ?_)
        go_roundw
        case rel => exact ⟨j + 1, by omega, by go_num, HS3⟩
        case measure => simp [intOf]; omega
      · have HIk := Aside0.mk (imgF_out (base := base) (k := (k : Int)) (fun hh => hin hh.2) (.int .i64 0))
        rw [show img base (k : Int) = -1 from if_neg hin] at hs3
        have HS3 := Aside0.mk hs3
        clear hin hs3
        go_wp2_with (at_lookup; refine wpList_lookup_F_ok _ rfl (.tmp 59) (.tmp 60) 87 rfl 3 3 keyI Tryd.underlying87 (zeroI _) mb cnt (imgF base) rfl HB1.out.map (.int .i64 (k : Int)) (.int .i64 (k : Int)) rfl HKk.out _ HIk.out.1 false HIk.out.2 ?_)
        go_roundw
        case rel => exact ⟨j + 1, by omega, by go_num, HS3⟩
        case measure => simp [intOf]; omega
    · obtain rfl : j = (nd a.nodes i).kids.length := by omega
      obtain ⟨Av, cv, hv⟩ := Kd.R_slice HB1.out.rows
      subst hv
      have q2 : wr.cell? ⟨b, 2, none⟩ = some (.map (some mb)) := (blk_cell HB1.out.blk 2).trans rfl
      have q3 : wr.cell? ⟨b, 3, none⟩ = some (.slice Av out.length cv) := (blk_cell HB1.out.blk 3).trans rfl
      have HPut := Aside0.mk (imgF_put (base := base) (p := (i : Int)) (by omega) HNi.out)
      go_wp2
      go_still_tail 10, (by kernel_rfl)
      change wpList _ _ _ _ _ wr.drew
      have HJ2 := Aside0.mk (HJ.out.later (pw_below_drewN (Below.refl _ _) 1))
      have HM2 := Aside0.mk HB1.out.drew.map
      have hlt2 := MapF.lt HB.out.map
      go_wp2_with (at_mapUpdate; refine wpList_update_F _ rfl (.tmp 75) (.tmp 76) (.tmp 81) 87 rfl 3 3 keyI Tryd.underlying87 mb cnt (imgF base) rfl HM2.out (by unfold maxLen; omega) (.int .i64 (i : Int)) (.int .i64 (out.length : Int)) (.int .i64 (i : Int)) rfl rfl HK.out ?_; intro w2 hM2 hg2; have HMx := Aside0.mk hM2; have HL := Aside0.mk (HJ2.out.landed HM2.out hlt2 hg2); clear hM2 hg2; have y0 : w2.cell? ⟨g, 0, none⟩ = some (.int .i64 (nd a.nodes i).kind) := (blk_cell HL.out.1 0).trans rfl; have y1 : w2.cell? ⟨g, 1, none⟩ = some (.slice A5 (nd a.nodes i).ints.length c5) := (blk_cell HL.out.1 1).trans rfl; have y2 : w2.cell? ⟨g, 2, none⟩ = some (.slice A6 (nd a.nodes i).texts.length c6) := (blk_cell HL.out.1 2).trans rfl; have y3 : w2.cell? ⟨g, 3, none⟩ = some (.slice A7 (nd a.nodes i).kids.length c7) := (blk_cell HL.out.1 3).trans rfl; have e0 : w2.cell? ⟨W.heap.size, 0, none⟩ = some (.int .i64 0) := (blk_cell HL.out.2.1 0).trans rfl; have e0f := blk_frozen HL.out.2.1 0; have e1 : (w2.setCell ⟨W.heap.size, 0, none⟩ (.int .i64 (nd a.nodes i).kind)).cell? ⟨W.heap.size, 1, none⟩ = some (.slice none 0 0) := (blk_cell (blk_set HL.out.2.1 0 (.int .i64 (nd a.nodes i).kind)) 1).trans rfl; have e1f := blk_frozen (blk_set HL.out.2.1 0 (.int .i64 (nd a.nodes i).kind)) 1; have e2 : ((w2.setCell ⟨W.heap.size, 0, none⟩ (.int .i64 (nd a.nodes i).kind)).setCell ⟨W.heap.size, 1, none⟩ (.slice A5 (nd a.nodes i).ints.length c5)).cell? ⟨W.heap.size, 2, none⟩ = some (.slice none 0 0) := (blk_cell (blk_set (blk_set HL.out.2.1 0 (.int .i64 (nd a.nodes i).kind)) 1 (.slice A5 (nd a.nodes i).ints.length c5)) 2).trans rfl; have e2f := blk_frozen (blk_set (blk_set HL.out.2.1 0 (.int .i64 (nd a.nodes i).kind)) 1 (.slice A5 (nd a.nodes i).ints.length c5)) 2; have e3 : (((w2.setCell ⟨W.heap.size, 0, none⟩ (.int .i64 (nd a.nodes i).kind)).setCell ⟨W.heap.size, 1, none⟩ (.slice A5 (nd a.nodes i).ints.length c5)).setCell ⟨W.heap.size, 2, none⟩ (.slice A6 (nd a.nodes i).texts.length c6)).cell? ⟨W.heap.size, 3, none⟩ = some (.slice none 0 0) := (blk_cell (blk_set (blk_set (blk_set HL.out.2.1 0 (.int .i64 (nd a.nodes i).kind)) 1 (.slice A5 (nd a.nodes i).ints.length c5)) 2 (.slice A6 (nd a.nodes i).texts.length c6)) 3).trans rfl; have e3f := blk_frozen (blk_set (blk_set (blk_set HL.out.2.1 0 (.int .i64 (nd a.nodes i).kind)) 1 (.slice A5 (nd a.nodes i).ints.length c5)) 2 (.slice A6 (nd a.nodes i).texts.length c6)) 3)
      have h4 := res4 HL.out.2.2.1
      refine bodyPost_ret (v := .tuple #[.agg #[.int .i64 (nd a.nodes i).kind, .slice A5 (nd a.nodes i).ints.length c5, .slice A6 (nd a.nodes i).texts.length c6, .slice A7 (nd a.nodes i).kids.length c7], .bool true]) (by simp [results, Tryd.results112, go_sem, h4]) rfl
        ⟨_, _, _, rfl, ?_, HB.out.grow HL.out.2.2.2.2 ?_, HL.out.2.2.2.2⟩
      · have h := HL.out.2.2.2.1
        rw [mapTake_all] at h
        exact h
      · have h := HMx.out
        rw [HLen.out, HPut.out] at h
        have hne : mb ≠ W.heap.size := by omega
        exact (((h.setCell (a := ⟨W.heap.size, 0, none⟩) hne _).setCell (a := ⟨W.heap.size, 1, none⟩) hne _).setCell (a := ⟨W.heap.size, 2, none⟩) hne _).setCell (a := ⟨W.heap.size, 3, none⟩) hne _
end
end Go.Proofs.YtglfebpgdghlfaaDoor.L
end
section
namespace Go.Proofs.YtglfebpgdghlfaaDoor.L
open Go.RowKit Go.ChangeShapes Go.WideShapes Go.Proofs.YtglfebpgdghlfaaDoorW.PrintWords Go.Proofs.YtglfebpgdghlfaaDoorW.PrintLast Go.Proofs.YtglfebpgdghlfaaDoorW.PrintMore
attribute [local go_sem] max2_int min2_int max_two min_two max_three min_three max_four min_four
theorem grown_of_below {W W1 W2 : World} {row : Option Nat} (h : Below W.heap.size W W1) (hg : W1.grownBy W2 row) : W.grownBy W2 row :=
  ⟨hg.os.trans h.os, hg.tape.trans h.tape, hg.output.trans h.output, Nat.le_trans h.size hg.size, fun i hi hr => (hg.block i (Nat.lt_of_lt_of_le hi h.size) hr).trans (h.block i hi)⟩
theorem grown_then {W W1 W2 : World} {row : Option Nat} (hg : W.grownBy W1 row) (h : Below W1.heap.size W1 W2) : W.grownBy W2 row :=
  ⟨h.os.trans hg.os, h.tape.trans hg.tape, h.output.trans hg.output, Nat.le_trans hg.size h.size, fun i hi hr => (h.block i (Nat.lt_of_lt_of_le hi hg.size)).trans (hg.block i hi hr)⟩
theorem grown_set {W W1 : World} {row : Option Nat} (hg : W.grownBy W1 row) {rb i : Nat} (h : W.heap.size ≤ rb) (u : Value) : W.grownBy (W1.setCell ⟨rb, i, none⟩ u) row :=
  ⟨hg.os, hg.tape, hg.output, by have := hg.size; simpa using this, fun k hk hr => (Below.heap_setCell W1 ⟨rb, i, none⟩ u k (by show k ≠ rb; omega)).trans (hg.block k hk hr)⟩
theorem grown_set4 {W W1 : World} {row : Option Nat} (hg : W.grownBy W1 row) {rb i0 i1 i2 i3 : Nat} (h : W.heap.size ≤ rb) (u0 u1 u2 u3 : Value) : W.grownBy ((((W1.setCell ⟨rb, i0, none⟩ u0).setCell ⟨rb, i1, none⟩ u1).setCell ⟨rb, i2, none⟩ u2).setCell ⟨rb, i3, none⟩ u3) row :=
  grown_set (grown_set (grown_set (grown_set hg h u0) h u1) h u2) h u3
theorem grown_alloc {W W1 : World} {row : Option Nat} (hg : W.grownBy W1 row) (o : Obj) : W.grownBy (W1.alloc o) row := grown_then hg (below_alloc (Below.refl _ _) o)
theorem MapF.set4 {P : Program} {k : TypeId} {W : World} {mb n rb i0 i1 i2 i3 : Nat} {f : Lit → Option Value} (h : MapF P k W mb n f) (hne : mb ≠ rb) (u0 u1 u2 u3 : Value) : MapF P k ((((W.setCell ⟨rb, i0, none⟩ u0).setCell ⟨rb, i1, none⟩ u1).setCell ⟨rb, i2, none⟩ u2).setCell ⟨rb, i3, none⟩ u3) mb n f :=
  (((h.setCell (a := ⟨rb, i0, none⟩) hne _).setCell (a := ⟨rb, i1, none⟩) hne _).setCell (a := ⟨rb, i2, none⟩) hne _).setCell (a := ⟨rb, i3, none⟩) hne _
theorem node_landed {W : World} {rb B : Nat} {m : Node} {v1 v2 v3 : Value} (hM : kNode.M W B (fun _ => True) m [.int .i64 m.kind, v1, v2, v3]) (hb0 : W.heap[rb]? = some (.cells zeroN 26 (0, 0))) :
    ((((W.setCell ⟨rb, 0, none⟩ (.int .i64 m.kind)).setCell ⟨rb, 1, none⟩ v1).setCell ⟨rb, 2, none⟩ v2).setCell ⟨rb, 3, none⟩ v3).heap[rb]? = some (.cells #[.int .i64 m.kind, v1, v2, v3] 26 (0, 0)) ∧
    kNode.M ((((W.setCell ⟨rb, 0, none⟩ (.int .i64 m.kind)).setCell ⟨rb, 1, none⟩ v1).setCell ⟨rb, 2, none⟩ v2).setCell ⟨rb, 3, none⟩ v3) B (fun _ => True) m [.int .i64 m.kind, v1, v2, v3] := by
  obtain ⟨x1, x2, x3, e, h1, h2, h3⟩ := kNode_openM hM
  injection e with _ e
  injection e with e1 e
  injection e with e2 e
  injection e with e3 _
  subst e1 e2 e3
  have hb1 := blk_set hb0 0 (.int .i64 m.kind)
  have hb2 := blk_set hb1 1 v1
  have hb3 := blk_set hb2 2 v2
  refine ⟨box4 hb0 _ _ _ _, kNode_mkM ?_ ?_ ?_⟩
  · exact R_type (R_type (R_type (R_type h1 hb0 (by decide) _ _) hb1 (by decide) _ _) hb2 (by decide) _ _) hb3 (by decide) _ _
  · exact R_type (R_type (R_type (R_type h2 hb0 (by decide) _ _) hb1 (by decide) _ _) hb2 (by decide) _ _) hb3 (by decide) _ _
  · exact R_type (R_type (R_type (R_type h3 hb0 (by decide) _ _) hb1 (by decide) _ _) hb2 (by decide) _ _) hb3 (by decide) _ _
theorem M_lower {W : World} {B B' : Nat} {m : Node} {cs : List Value} (h : kNode.M W B (fun _ => True) m cs) (hB : B' ≤ B) : kNode.M W B' (fun _ => True) m cs := by
  obtain ⟨x1, x2, x3, rfl, h1, h2, h3⟩ := kNode_openM h
  exact kNode_mkM (Kd.R_lower h1 hB) (Kd.R_lower h2 hB) (Kd.R_lower h3 hB)
theorem M_below {W W1 : World} {B : Nat} {m : Node} {cs : List Value} (h : kNode.M W B (fun _ => True) m cs) (hb : Below W.heap.size W W1) : kNode.M W1 B (fun _ => True) m cs := by
  obtain ⟨x1, x2, x3, rfl, h1, h2, h3⟩ := kNode_openM h
  exact kNode_mkM (Kd.R_below h1 hb) (Kd.R_below h2 hb) (Kd.R_below h3 hb)
theorem slots4 {W : World} {rb : Nat} {y0 y1 y2 y3 : Value} {T : TypeId} (h : W.heap[rb]? = some (.cells #[y0, y1, y2, y3] T (0, 0))) (u0 u1 u2 : Value) :
    W.cell? ⟨rb, 0, none⟩ = some y0 ∧ W.frozen? ⟨rb, 0, none⟩ = false ∧ (W.setCell ⟨rb, 0, none⟩ u0).cell? ⟨rb, 1, none⟩ = some y1 ∧ (W.setCell ⟨rb, 0, none⟩ u0).frozen? ⟨rb, 1, none⟩ = false ∧
    ((W.setCell ⟨rb, 0, none⟩ u0).setCell ⟨rb, 1, none⟩ u1).cell? ⟨rb, 2, none⟩ = some y2 ∧ ((W.setCell ⟨rb, 0, none⟩ u0).setCell ⟨rb, 1, none⟩ u1).frozen? ⟨rb, 2, none⟩ = false ∧
    (((W.setCell ⟨rb, 0, none⟩ u0).setCell ⟨rb, 1, none⟩ u1).setCell ⟨rb, 2, none⟩ u2).cell? ⟨rb, 3, none⟩ = some y3 ∧ (((W.setCell ⟨rb, 0, none⟩ u0).setCell ⟨rb, 1, none⟩ u1).setCell ⟨rb, 2, none⟩ u2).frozen? ⟨rb, 3, none⟩ = false :=
  ⟨(blk_cell h 0).trans rfl, blk_frozen h 0, (blk_cell (blk_set h 0 u0) 1).trans rfl, blk_frozen (blk_set h 0 u0) 1, (blk_cell (blk_set (blk_set h 0 u0) 1 u1) 2).trans rfl, blk_frozen (blk_set (blk_set h 0 u0) 1 u1) 2, (blk_cell (blk_set (blk_set (blk_set h 0 u0) 1 u1) 2 u2) 3).trans rfl, blk_frozen (blk_set (blk_set (blk_set h 0 u0) 1 u1) 2 u2) 3⟩
theorem M_slices {W : World} {B : Nat} {m : Node} {v1 v2 v3 : Value} (h : kNode.M W B (fun _ => True) m [.int .i64 m.kind, v1, v2, v3]) : ∃ A1 c1 A2 c2 A3 c3, v1 = .slice A1 m.ints.length c1 ∧ v2 = .slice A2 m.texts.length c2 ∧ v3 = .slice A3 m.kids.length c3 := by
  obtain ⟨x1, x2, x3, e, h1, h2, h3⟩ := kNode_openM h
  injection e with _ e
  injection e with e1 e
  injection e with e2 e
  injection e with e3 _
  subst e1 e2 e3
  obtain ⟨A1, c1, r1⟩ := Kd.R_slice h1
  obtain ⟨A2, c2, r2⟩ := Kd.R_slice h2
  obtain ⟨A3, c3, r3⟩ := Kd.R_slice h3
  exact ⟨A1, c1, A2, c2, A3, c3, r1, r2, r3⟩
def OnePost (a : Scene) (A : Option Addr) (c b mb cnt : Nat) (base : List Int) (v : Value) (out : List Node) (w : World) (o : Opn) (r : Node × Int) (W : World) (e : Ending) (W' : World) : Prop :=
  ∃ v1 v2 v3, e = .returned (.tuple #[.agg #[.int .i64 r.1.kind, v1, v2, v3], .int .i64 r.2]) ∧ kNode.M W' W.heap.size (fun _ => True) r.1 [.int .i64 r.1.kind, v1, v2, v3] ∧
    (r.2 = 0 → ∃ cnt', cnt' ≤ cnt + 1 ∧ BRel a A c b mb cnt' (imgF (base ++ [baseOf o])) v out w W') ∧ W.grownBy W' (some mb)
section
variable {a : Scene} {A : Option Addr} {c b mb cnt : Nat} {base : List Int} {v : Value} {out : List Node} {w : World}
theorem OnePost.bad {o : Opn} {r : Node × Int} {W W' : World} (hr : r = (nodez, 21)) (hg : W.grownBy W' (some mb)) : OnePost a A c b mb cnt base v out w o r W (.returned (.tuple #[.agg #[.int .i64 0, .slice none 0 0, .slice none 0 0, .slice none 0 0], .int .i64 21])) W' := by
  subst hr
  exact ⟨_, _, _, rfl, nodez_M _ _, (fun h => absurd h (show ¬ (21 : Int) = 0 by decide)), hg⟩
theorem below_grown {W W1 : World} {row : Option Nat} (h : Below W.heap.size W W1) : W.grownBy W1 row := ⟨h.os, h.tape, h.output, h.size, fun i hi _ => h.block i hi⟩
set_option maxRecDepth 100000 in
set_option maxHeartbeats 4000000 in
theorem fresh_any (W : World) (h : BRel a A c b mb cnt (imgF base) v out w W) (o : Opn) (B1 : Option Addr) (d1 : Nat) (B2 : Option Addr) (d2 : Nat) (A1 : Option Addr) (c1 : Nat) (A2 : Option Addr) (c2 : Nat) (A3 : Option Addr) (c3 : Nat) (hO : OpnC W o B1 d1 B2 d2 A1 c1 A2 c2 A3 c3) (hs : Small o.node) (hk3 : o.kind = 3) :
    Calls Tryd.prog 92 #[.pointer (some ⟨b, 0, none⟩), .agg (opV o B1 d1 B2 d2 A1 c1 A2 c2 A3 c3)] W (OnePost a A c b mb cnt base v out w o (freshN o) W) := by
  have HB := Aside0.mk h
  have HO := Aside0.mk hO
  have HSm := Aside0.mk hs
  have hA0 := below_alloc (below_alloc (Below.refl W.heap.size W) (.cells (opV o B1 d1 B2 d2 A1 c1 A2 c2 A3 c3) 61)) (.cells zeroN 26)
  have HA := Aside0.mk hA0
  have huo := Tryd.underlying61
  have hun := Tryd.underlying26
  clear h hO hs hA0
  have HRes := Aside0.mk (show ((W.alloc (.cells (opV o B1 d1 B2 d2 A1 c1 A2 c2 A3 c3) 61)).alloc (.cells zeroN 26)).heap[W.heap.size + 1]? = some (.cells zeroN 26 (0, 0)) from by
    have := heap_alloc_new (W.alloc (.cells (opV o B1 d1 B2 d2 A1 c1 A2 c2 A3 c3) 61)) (.cells zeroN 26)
    simpa using this)
  by_cases h1 : o.base = 0
  · by_cases h2 : o.sets.length = 0
    · by_cases h3 : o.script.length = 0
      · have HE := Aside0.mk (show freshN o = (o.node, 0) from if_pos ⟨h1, h2, h3⟩)
        have HBase : Aside0 (baseOf o = -2) := ⟨if_pos hk3⟩
        have g1 : (o.base != 0) = false := by simpa using h1
        have g2 : decide (0 < o.sets.length) = false := decide_eq_false (by omega)
        have g3 : decide (0 < o.script.length) = false := decide_eq_false (by omega)
        clear h1 h2 h3
        go_enter Tryd.func92, Tryd.ntmps92
        go_wp2_with fail
        refine (copy_any o.node A1 c1 A2 c2 A3 c3 _ (HO.out.n.below HA.out) HSm.out).mono ?_
        rintro e w6 ⟨v', rfl, ⟨v1, v2, v3, rfl, hM6⟩, hB6⟩
        obtain ⟨A5, c5, A6, c6, A7, c7, rfl, rfl, rfl⟩ := M_slices hM6
        have HM6 := Aside0.mk (M_lower hM6 HA.out.size)
        have HRes6 := Aside0.mk ((hB6.block _ (blk_lt HRes.out)).trans HRes.out)
        have HB6 := Aside0.mk (below_step HA.out hB6)
        obtain ⟨e0, e0f, e1, e1f, e2, e2f, e3, e3f⟩ := slots4 HRes6.out (.int .i64 o.node.kind) (.slice A5 o.node.ints.length c5) (.slice A6 o.node.texts.length c6)
        have HL := Aside0.mk (node_landed HM6.out HRes6.out)
        clear hM6 hB6
        go_wp2
        have h4 := res4 HL.out.1
        have hB := below_set4 (i0 := 0) (i1 := 1) (i2 := 2) (i3 := 3) (u0 := .int .i64 o.node.kind) (u1 := .slice A5 o.node.ints.length c5) (u2 := .slice A6 o.node.texts.length c6) (u3 := .slice A7 o.node.kids.length c7) HB6.out (Nat.le_succ W.heap.size)
        refine bodyPost_ret (v := .tuple #[.agg #[.int .i64 o.node.kind, .slice A5 o.node.ints.length c5, .slice A6 o.node.texts.length c6, .slice A7 o.node.kids.length c7], .int .i64 0]) (by simp [results, Tryd.results92, go_sem, h4]) rfl
          ⟨_, _, _, by rw [HE.out], by rw [HE.out]; exact HL.out.2, fun _ => ⟨cnt, Nat.le_succ _, ?_⟩, below_grown hB⟩
        rw [HBase.out, imgF_fresh]
        exact HB.out.later hB
      · have HE := Aside0.mk (show freshN o = (nodez, 21) from if_neg (fun hh => h3 hh.2.2))
        have g1 : (o.base != 0) = false := by simpa using h1
        have g2 : decide (0 < o.sets.length) = false := decide_eq_false (by omega)
        have g3 : decide (0 < o.script.length) = true := decide_eq_true (by omega)
        clear h1 h2 h3
        go_enter Tryd.func92, Tryd.ntmps92
        go_wp2
        exact bodyPost_ret (v := .tuple #[.agg #[.int .i64 0, .slice none 0 0, .slice none 0 0, .slice none 0 0], .int .i64 21]) (by simp [results, Tryd.results92, go_sem]) rfl (OnePost.bad HE.out (below_grown HA.out))
    · have HE := Aside0.mk (show freshN o = (nodez, 21) from if_neg (fun hh => h2 hh.2.1))
      have g1 : (o.base != 0) = false := by simpa using h1
      have g2 : decide (0 < o.sets.length) = true := decide_eq_true (by omega)
      clear h1 h2
      go_enter Tryd.func92, Tryd.ntmps92
      go_wp2
      exact bodyPost_ret (v := .tuple #[.agg #[.int .i64 0, .slice none 0 0, .slice none 0 0, .slice none 0 0], .int .i64 21]) (by simp [results, Tryd.results92, go_sem]) rfl (OnePost.bad HE.out (below_grown HA.out))
  · have HE := Aside0.mk (show freshN o = (nodez, 21) from if_neg (fun hh => h1 hh.1))
    have g1 : (o.base != 0) = true := by simpa using h1
    clear h1
    go_enter Tryd.func92, Tryd.ntmps92
    go_wp2
    exact bodyPost_ret (v := .tuple #[.agg #[.int .i64 0, .slice none 0 0, .slice none 0 0, .slice none 0 0], .int .i64 21]) (by simp [results, Tryd.results92, go_sem]) rfl (OnePost.bad HE.out (below_grown HA.out))
end
end Go.Proofs.YtglfebpgdghlfaaDoor.L
end
section
namespace Go.Proofs.YtglfebpgdghlfaaDoor.L
open Go.RowKit Go.ChangeShapes Go.WideShapes Go.Proofs.YtglfebpgdghlfaaDoorW.PrintWords Go.Proofs.YtglfebpgdghlfaaDoorW.PrintLast Go.Proofs.YtglfebpgdghlfaaDoorW.PrintMore
attribute [local go_sem] max2_int min2_int max_two min_two max_three min_three max_four min_four
section
variable {a : Scene} {A : Option Addr} {c b mb cnt : Nat} {base : List Int} {v : Value} {out : List Node} {w : World}
set_option maxRecDepth 100000 in
set_option maxHeartbeats 8000000 in
theorem keep_any (W : World) (h : BRel a A c b mb cnt (imgF base) v out w W) (hlen : out.length = base.length) (hc : kNode.C w A a.nodes.length a.nodes) (hS : ∀ i : Nat, i < a.nodes.length → Small (nd a.nodes i)) (hP : Places a.nodes) (hn : a.nodes.length ≤ 1000000) (hcn : cnt ≤ 1000000)
    (o : Opn) (B1 : Option Addr) (d1 : Nat) (B2 : Option Addr) (d2 : Nat) (A1 : Option Addr) (c1 : Nat) (A2 : Option Addr) (c2 : Nat) (A3 : Option Addr) (c3 : Nat) (hO : OpnC W o B1 d1 B2 d2 A1 c1 A2 c2 A3 c3) (hb0 : -9223372036854775808 ≤ o.base) (hb1 : o.base ≤ 9223372036854775807) (hk3 : ¬ o.kind = 3) :
    Calls Tryd.prog 90 #[.pointer (some ⟨b, 0, none⟩), .agg (opV o B1 d1 B2 d2 A1 c1 A2 c2 A3 c3)] W (OnePost a A c b mb cnt base v out w o (keepN a.nodes base o) W) := by
  have HB := Aside0.mk h
  have HO := Aside0.mk hO
  have HC := Aside0.mk hc
  have HSm := Aside0.mk hS
  have HPl := Aside0.mk hP
  have HLen := Aside0.mk hlen
  have hA0 := below_alloc (below_alloc (Below.refl W.heap.size W) (.cells (opV o B1 d1 B2 d2 A1 c1 A2 c2 A3 c3) 61)) (.cells zeroN 26)
  have HA := Aside0.mk hA0
  have huo := Tryd.underlying61
  have hun := Tryd.underlying26
  have hA1 := below_alloc (Below.refl W.heap.size W) (.cells (opV o B1 d1 B2 d2 A1 c1 A2 c2 A3 c3) 61)
  have HRes := Aside0.mk (show ((W.alloc (.cells (opV o B1 d1 B2 d2 A1 c1 A2 c2 A3 c3) 61)).alloc (.cells zeroN 26)).heap[W.heap.size + 1]? = some (.cells zeroN 26 (0, 0)) from by
    have := heap_alloc_new (W.alloc (.cells (opV o B1 d1 B2 d2 A1 c1 A2 c2 A3 c3) 61)) (.cells zeroN 26)
    simpa using this)
  have k1 : ((W.alloc (.cells (opV o B1 d1 B2 d2 A1 c1 A2 c2 A3 c3) 61)).alloc (.cells zeroN 26)).cell? ⟨W.heap.size, 1, none⟩ = some (.int .i64 o.base) := box_cell2 W _ rfl _ _ _ 1 _ rfl
  have HBase : Aside0 (baseOf o = o.base) := ⟨if_neg hk3⟩
  have hrb : W.heap.size + 1 < ((W.alloc (.cells (opV o B1 d1 B2 d2 A1 c1 A2 c2 A3 c3) 61)).alloc (.cells zeroN 26)).heap.size := blk_lt HRes.out
  have HK1 := Aside0.mk k1
  have HRb := Aside0.mk hrb
  clear h hO hA0 hA1 hc hS hP hlen hrb k1
  by_cases h2 : o.sets.length = 0
  · by_cases h3 : o.script.length = 0
    · have g2 : decide (0 < o.sets.length) = false := decide_eq_false (by omega)
      have g3 : decide (0 < o.script.length) = false := decide_eq_false (by omega)
      have HH := Aside0.mk (And.intro h2 h3)
      clear h2 h3
      go_enter Tryd.func90, Tryd.ntmps90
      go_wp2_with fail
      refine (empty_any o.node A1 c1 A2 c2 A3 c3 _).mono ?_
      rintro e w5 ⟨rfl, hB5⟩
      have HRes5 := Aside0.mk ((hB5.block _ (blk_lt HRes.out)).trans HRes.out)
      have k1 := pw_cell_below hB5 HK1.out
      have hrb5 : W.heap.size + 1 < w5.heap.size := blk_lt HRes5.out
      have HB5 := Aside0.mk (below_step HA.out hB5)
      clear hB5 HRes HA HK1 HRb
      by_cases hem : emptyN o.node = true
      · rw [hem]
        by_cases htk : takes a.nodes.length base o.base = true
        · have HE := Aside0.mk (show keepN a.nodes base o = (imgN base (nd a.nodes o.base.toNat), 0) from if_pos ⟨HH.out.1, HH.out.2, hem, htk⟩)
          obtain ⟨ht0, ht1, htn⟩ := of_decide_eq_true htk
          obtain ⟨i, hi⟩ := Int.eq_ofNat_of_zero_le ht0
          rw [hi] at HE HBase k1 ht1 htn
          rw [Int.toNat_natCast] at HE
          have HTn := Aside0.mk htn
          clear hem htk ht0 hi htn hb0 hb1
          go_wp2_with fail
          refine (take_yes w5 (HB.out.later HB5.out) HLen.out HC.out HSm.out HPl.out hn hcn i (by omega) HTn.out).mono ?_
          rintro e w6 ⟨v1, v2, v3, rfl, hM6, hR6, hg6⟩
          generalize imgN base (nd a.nodes i) = m at HE hM6 ⊢
          obtain ⟨A5, c5, A6, c6, A7, c7, rfl, rfl, rfl⟩ := M_slices hM6
          have hM6' := M_lower hM6 HB5.out.size
          have hres6 : w6.heap[W.heap.size + 1]? = some (.cells zeroN 26 (0, 0)) := (hg6.block _ hrb5 (fun e => by injection e with e; exact (HB.out.later HB5.out).map.not_cells (by rw [← e]; exact HRes5.out))).trans HRes5.out
          have HL := Aside0.mk (node_landed hM6' hres6)
          have hrb6 : W.heap.size + 1 < w6.heap.size := blk_lt hres6
          obtain ⟨e0, e0f, e1, e1f, e2, e2f, e3, e3f⟩ := slots4 hres6 (.int .i64 m.kind) (.slice A5 m.ints.length c5) (.slice A6 m.texts.length c6)
          have HG := Aside0.mk (grown_of_below HB5.out hg6)
          have HM := Aside0.mk hR6.map
          have hmb : mb ≠ W.heap.size + 1 := by have := MapF.lt HB.out.map; omega
          clear hM6 hM6' hres6 hR6 hg6 k1
          go_wp2
          have h4 := res4a HL.out.1 (.cells #[.int .i64 m.kind, .slice A5 m.ints.length c5, .slice A6 m.texts.length c6, .slice A7 m.kids.length c7] 26)
          have hG := grown_alloc (grown_set4 (i0 := 0) (i1 := 1) (i2 := 2) (i3 := 3) HG.out (Nat.le_succ W.heap.size) (.int .i64 m.kind) (.slice A5 m.ints.length c5) (.slice A6 m.texts.length c6) (.slice A7 m.kids.length c7)) (.cells #[.int .i64 m.kind, .slice A5 m.ints.length c5, .slice A6 m.texts.length c6, .slice A7 m.kids.length c7] 26)
          refine bodyPost_ret (v := .tuple #[.agg #[.int .i64 m.kind, .slice A5 m.ints.length c5, .slice A6 m.texts.length c6, .slice A7 m.kids.length c7], .int .i64 0]) (by simp [results, Tryd.results90, go_sem, h4]) rfl
            ⟨_, _, _, by rw [HE.out], by rw [HE.out]; exact M_below HL.out.2 (below_alloc (Below.refl _ _) _), fun _ => ⟨cnt + 1, Nat.le_refl _, ?_⟩, hG⟩
          rw [HBase.out]
          exact HB.out.grow hG ((MapF.set4 HM.out hmb _ _ _ _).below (below_alloc (Below.refl _ _) _))
        · have HE := Aside0.mk (show keepN a.nodes base o = (nodez, 21) from if_neg (fun hh => htk hh.2.2.2))
          have HTk := Aside0.mk (Bool.eq_false_iff.2 htk)
          clear hem htk
          go_wp2_with fail
          refine (take_no w5 (HB.out.later HB5.out) o.base hb0 hb1 HTk.out).mono ?_
          rintro e w6 ⟨rfl, hB6⟩
          have hres6 := (hB6.block _ hrb5).trans HRes5.out
          have HZ := Aside0.mk (box4 hres6 (.int .i64 0) (.slice none 0 0) (.slice none 0 0) (.slice none 0 0))
          have HB6 := Aside0.mk (below_alloc (below_set4 (i0 := 0) (i1 := 1) (i2 := 2) (i3 := 3) (u0 := .int .i64 0) (u1 := .slice none 0 0) (u2 := .slice none 0 0) (u3 := .slice none 0 0) (below_step HB5.out hB6) (Nat.le_succ W.heap.size)) (.cells zeroN 26))
          have hrb6 : W.heap.size + 1 < w6.heap.size := blk_lt hres6
          obtain ⟨e0, e0f, e1, e1f, e2, e2f, e3, e3f⟩ := slots4 hres6 (.int .i64 0) (.slice none 0 0) (.slice none 0 0)
          clear hres6 hB6 k1
          go_wp2
          have h4 := res4a HZ.out (.cells zeroN 26)
          exact bodyPost_ret (v := .tuple #[.agg #[.int .i64 0, .slice none 0 0, .slice none 0 0, .slice none 0 0], .int .i64 21]) (by simp [results, Tryd.results90, go_sem, h4]) rfl (OnePost.bad HE.out (below_grown HB6.out))
      · have HE := Aside0.mk (show keepN a.nodes base o = (nodez, 21) from if_neg (fun hh => hem hh.2.2.1))
        rw [Bool.eq_false_iff.2 hem]
        have HZ := Aside0.mk (box4 HRes5.out (.int .i64 0) (.slice none 0 0) (.slice none 0 0) (.slice none 0 0))
        have HB6 := Aside0.mk (below_set4 (i0 := 0) (i1 := 1) (i2 := 2) (i3 := 3) (u0 := .int .i64 0) (u1 := .slice none 0 0) (u2 := .slice none 0 0) (u3 := .slice none 0 0) HB5.out (Nat.le_succ W.heap.size))
        obtain ⟨e0, e0f, e1, e1f, e2, e2f, e3, e3f⟩ := slots4 HRes5.out (.int .i64 0) (.slice none 0 0) (.slice none 0 0)
        clear hem k1
        go_wp2
        have h4 := res4 HZ.out
        exact bodyPost_ret (v := .tuple #[.agg #[.int .i64 0, .slice none 0 0, .slice none 0 0, .slice none 0 0], .int .i64 21]) (by simp [results, Tryd.results90, go_sem, h4]) rfl (OnePost.bad HE.out (below_grown HB6.out))
    · have HE := Aside0.mk (show keepN a.nodes base o = (nodez, 21) from if_neg (fun hh => h3 hh.2.1))
      have g2 : decide (0 < o.sets.length) = false := decide_eq_false (by omega)
      have g3 : decide (0 < o.script.length) = true := decide_eq_true (by omega)
      clear h2 h3
      go_enter Tryd.func90, Tryd.ntmps90
      go_wp2
      exact bodyPost_ret (v := .tuple #[.agg #[.int .i64 0, .slice none 0 0, .slice none 0 0, .slice none 0 0], .int .i64 21]) (by simp [results, Tryd.results90, go_sem]) rfl (OnePost.bad HE.out (below_grown HA.out))
  · have HE := Aside0.mk (show keepN a.nodes base o = (nodez, 21) from if_neg (fun hh => h2 hh.1))
    have g2 : decide (0 < o.sets.length) = true := decide_eq_true (by omega)
    clear h2
    go_enter Tryd.func90, Tryd.ntmps90
    go_wp2
    exact bodyPost_ret (v := .tuple #[.agg #[.int .i64 0, .slice none 0 0, .slice none 0 0, .slice none 0 0], .int .i64 21]) (by simp [results, Tryd.results90, go_sem]) rfl (OnePost.bad HE.out (below_grown HA.out))
end
end Go.Proofs.YtglfebpgdghlfaaDoor.L
end
section
namespace Go.Proofs.YtglfebpgdghlfaaDoor.L
open Go.RowKit Go.ChangeShapes Go.WideShapes Go.Proofs.YtglfebpgdghlfaaDoorW.PrintWords Go.Proofs.YtglfebpgdghlfaaDoorW.PrintLast Go.Proofs.YtglfebpgdghlfaaDoorW.PrintMore
attribute [local go_sem] max2_int min2_int max_two min_two max_three min_three max_four min_four
set_option maxRecDepth 100000 in
set_option maxHeartbeats 8000000 in
theorem fset_any (n : Node) (A1 : Option Addr) (c1 : Nat) (A2 : Option Addr) (c2 : Nat) (A3 : Option Addr) (c3 : Nat) (A4 : Option Addr) (c4 : Nat) (l : List SetV) (w : World) (h : NodeC w n A1 c1 A2 c2 A3 c3) (hs : Small n) (h4 : kSet.C w A4 l.length l) (hl : l.length ≤ 1000000) :
    Calls Tryd.prog 113 #[.agg #[.int .i64 n.kind, .slice A1 n.ints.length c1, .slice A2 n.texts.length c2, .slice A3 n.kids.length c3], .slice A4 l.length c4] w (NodePost (setR n l) w) := by
  have HN := Aside0.mk h
  have HSm := Aside0.mk hs
  have HL := Aside0.mk h4
  have HB := Aside0.mk (below_alloc (below_alloc (Below.refl w.heap.size w) (.cells #[.int .i64 n.kind, .slice A1 n.ints.length c1, .slice A2 n.texts.length c2, .slice A3 n.kids.length c3] 26)) (.cells #[.int .i64 0, .slice none 0 0, .slice none 0 0, .slice none 0 0] 26))
  have k0 := box_cell2 w _ rfl #[.int .i64 n.kind, .slice A1 n.ints.length c1, .slice A2 n.texts.length c2, .slice A3 n.kids.length c3] 26 (.cells #[.int .i64 0, .slice none 0 0, .slice none 0 0, .slice none 0 0] 26) 0 _ rfl
  have k1 := box_cell2 w _ rfl #[.int .i64 n.kind, .slice A1 n.ints.length c1, .slice A2 n.texts.length c2, .slice A3 n.kids.length c3] 26 (.cells #[.int .i64 0, .slice none 0 0, .slice none 0 0, .slice none 0 0] 26) 1 _ rfl
  have k2 := box_cell2 w _ rfl #[.int .i64 n.kind, .slice A1 n.ints.length c1, .slice A2 n.texts.length c2, .slice A3 n.kids.length c3] 26 (.cells #[.int .i64 0, .slice none 0 0, .slice none 0 0, .slice none 0 0] 26) 2 _ rfl
  have k3 := box_cell2 w _ rfl #[.int .i64 n.kind, .slice A1 n.ints.length c1, .slice A2 n.texts.length c2, .slice A3 n.kids.length c3] 26 (.cells #[.int .i64 0, .slice none 0 0, .slice none 0 0, .slice none 0 0] 26) 3 _ rfl
  have HRes := Aside0.mk (show ((w.alloc (.cells #[.int .i64 n.kind, .slice A1 n.ints.length c1, .slice A2 n.texts.length c2, .slice A3 n.kids.length c3] 26)).alloc (.cells #[.int .i64 0, .slice none 0 0, .slice none 0 0, .slice none 0 0] 26)).heap[w.heap.size + 1]? = some (.cells #[.int .i64 0, .slice none 0 0, .slice none 0 0, .slice none 0 0] 26 (0, 0)) from by
    have := heap_alloc_new (w.alloc (.cells #[.int .i64 n.kind, .slice A1 n.ints.length c1, .slice A2 n.texts.length c2, .slice A3 n.kids.length c3] 26)) (.cells #[.int .i64 0, .slice none 0 0, .slice none 0 0, .slice none 0 0] 26)
    simpa using this)
  have hun := Tryd.underlying26
  have hus := Tryd.underlying84
  clear h hs h4
  go_enter Tryd.func113, Tryd.ntmps113
  go_wp2_with fail
  refine (copy_any n A1 c1 A2 c2 A3 c3 _ (HN.out.below HB.out) HSm.out).mono ?_
  rintro e w6 ⟨v, rfl, ⟨v1, v2, v3, rfl, hM6⟩, hB6⟩
  have HO := Aside0.mk (OutRel.start (below_step HB.out hB6) (Nat.le_succ _) ((hB6.block _ (blk_lt HRes.out)).trans HRes.out) HB.out.size hM6)
  clear hB6 hM6 k0 k1 k2 k3
  obtain ⟨A5, c5, hv1⟩ := Kd.R_slice HO.out.r1
  subst hv1
  obtain ⟨A6, c6, hv2⟩ := Kd.R_slice HO.out.r2
  subst hv2
  obtain ⟨A7, c7, hv3⟩ := Kd.R_slice HO.out.r3
  subst hv3
  go_wp2
  generalize w6.alloc (.cells #[.int .i64 n.kind, .slice A5 n.ints.length c5, .slice A6 n.texts.length c6, .slice A7 n.kids.length c7] 26) = W7 at HO ⊢
  generalize w6.heap.size = g at HO ⊢
  go_loopw [13] (fun v13 W => ∃ k : Nat, k ≤ l.length ∧ v13 = .int .i64 k ∧ ∃ m, Aside0 (setAll n (l.take k) = some m ∧ m.kind = n.kind) ∧ Aside0 (OutRel m (.slice A5 n.ints.length c5) (.slice A6 n.texts.length c6) (.slice A7 n.kids.length c7) w (w.heap.size + 1) g W)) (fun v13 _ => l.length - (intOf v13).toNat)
  case atStart => exact ⟨0, by omega, rfl, n, ⟨rfl, rfl⟩, HO⟩
  case round =>
    clear HO
    obtain ⟨k, hk, rfl, m, HS, HO⟩ := hrel
    have q0 : wr.cell? ⟨g, 0, none⟩ = some (.int .i64 m.kind) := (blk_cell HO.out.box 0).trans rfl
    have q1 : wr.cell? ⟨g, 1, none⟩ = some (.slice A5 n.ints.length c5) := (blk_cell HO.out.box 1).trans rfl
    have q2 : wr.cell? ⟨g, 2, none⟩ = some (.slice A6 n.texts.length c6) := (blk_cell HO.out.box 2).trans rfl
    have q3 : wr.cell? ⟨g, 3, none⟩ = some (.slice A7 n.kids.length c7) := (blk_cell HO.out.box 3).trans rfl
    have hl1 := (Kd.R_reads' HO.out.r1).1
    have hl2 := (Kd.R_reads' HO.out.r2).1
    have HLn := Aside0.mk (And.intro hl1 hl2)
    have hwr := blk_lt HO.out.res
    have hgl := blk_lt HO.out.box
    clear hl1 hl2
    by_cases hlt : k < l.length
    · obtain ⟨ad, rfl, x0, x1, x2, x3⟩ := at_set (Kd.C_below HL.out HO.out.below) k hlt
      have HStep := Aside0.mk (setAll_step (n := n) hlt)
      have HBd := Aside0.mk (fun hb => setR_bad hlt HS.out.1 hb)
      generalize st l k = x at x0 x1 x2 x3 HStep HBd
      have e0 : wr.cell? ⟨w.heap.size + 1, 0, none⟩ = some (.int .i64 0) := (blk_cell HO.out.res 0).trans rfl
      have e0f := blk_frozen HO.out.res 0
      have e1 : (wr.setCell ⟨w.heap.size + 1, 0, none⟩ (.int .i64 0)).cell? ⟨w.heap.size + 1, 1, none⟩ = some (.slice none 0 0) := (blk_cell (blk_set HO.out.res 0 (.int .i64 0)) 1).trans rfl
      have e1f := blk_frozen (blk_set HO.out.res 0 (.int .i64 0)) 1
      have e2 : ((wr.setCell ⟨w.heap.size + 1, 0, none⟩ (.int .i64 0)).setCell ⟨w.heap.size + 1, 1, none⟩ (.slice none 0 0)).cell? ⟨w.heap.size + 1, 2, none⟩ = some (.slice none 0 0) := (blk_cell (blk_set (blk_set HO.out.res 0 (.int .i64 0)) 1 (.slice none 0 0)) 2).trans rfl
      have e2f := blk_frozen (blk_set (blk_set HO.out.res 0 (.int .i64 0)) 1 (.slice none 0 0)) 2
      have e3 : (((wr.setCell ⟨w.heap.size + 1, 0, none⟩ (.int .i64 0)).setCell ⟨w.heap.size + 1, 1, none⟩ (.slice none 0 0)).setCell ⟨w.heap.size + 1, 2, none⟩ (.slice none 0 0)).cell? ⟨w.heap.size + 1, 3, none⟩ = some (.slice none 0 0) := (blk_cell (blk_set (blk_set (blk_set HO.out.res 0 (.int .i64 0)) 1 (.slice none 0 0)) 2 (.slice none 0 0)) 3).trans rfl
      have e3f := blk_frozen (blk_set (blk_set (blk_set HO.out.res 0 (.int .i64 0)) 1 (.slice none 0 0)) 2 (.slice none 0 0)) 3
      have HZ := Aside0.mk (box4 HO.out.res (.int .i64 0) (.slice none 0 0) (.slice none 0 0) (.slice none 0 0))
      have HZB := Aside0.mk (below_set4 (i0 := 0) (i1 := 1) (i2 := 2) (i3 := 3) (u0 := .int .i64 0) (u1 := .slice none 0 0) (u2 := .slice none 0 0) (u3 := .slice none 0 0) HO.out.below (show w.heap.size ≤ w.heap.size + 1 by omega))
      cases ht : x.text with
      | true =>
        rw [ht] at x0
        by_cases hok : x.n = 0 ∧ 0 ≤ x.field ∧ x.field < (m.texts.length : Int)
        · obtain ⟨hn, hf0, hf1⟩ := hok
          obtain ⟨f, hf⟩ := Int.eq_ofNat_of_zero_le hf0
          have hfl : f < m.texts.length := by omega
          have HN1 := Aside0.mk (setOne_text ht hn hf hfl)
          have HL2 := HLn.out.2
          obtain ⟨g6, c6', hv, -⟩ := Kd.R_form HO.out.r2 (by omega)
          injection hv with hA _ hc
          subst hA hc
          obtain ⟨⟨y, s1⟩, s2, hs3⟩ := HO.out.setText hfl x.s
          rw [hn] at x2
          rw [hf] at x1
          have HS3 := Aside0.mk hs3
          have hg6 : g6 < wr.heap.size := World.block_lt_of_cell? wr _ s1
          have d1 : decide ((f : Int) < (n.texts.length : Int)) = true := decide_eq_true (by omega)
          clear HL2 hn hf hf0 hf1 hs3 e0 e0f e1 e1f e2 e2f e3 e3f
          go_wp2
          go_roundw
          case rel => exact ⟨k + 1, by omega, by go_num, ⟨m.kind, m.ints, m.texts.set f x.s, m.kids⟩, ⟨by rw [HStep.out, HS.out.1]; exact HN1.out, HS.out.2⟩, ⟨HS3.out.alloc _⟩⟩
          case measure => simp [intOf]; omega
        · have HBad := Aside0.mk (HBd.out (setOne_text_bad ht hok))
          have h3 : ¬ x.n = 0 ∨ (x.n = 0 ∧ ¬ 0 ≤ x.field) ∨ (x.n = 0 ∧ 0 ≤ x.field ∧ ¬ x.field < (m.texts.length : Int)) := by omega
          have HL2 := HLn.out.2
          rcases h3 with hn | ⟨hn, hf0⟩ | ⟨hn, hf0, hf1⟩
          · have d1 : (x.n == 0) = false := by simpa using hn
            clear hn hok ht HL2
            go_wp2
            have h4 := res4a HZ.out (.cells #[.bool true, .int .i64 x.field, .int .i64 x.n, .string x.s] 84)
            exact bodyPost_ret (v := .tuple #[.agg #[.int .i64 0, .slice none 0 0, .slice none 0 0, .slice none 0 0], .int .i64 21]) (by simp [results, Tryd.results113, go_sem, h4]) rfl
              ⟨_, _, _, by rw [HBad.out]; rfl, by rw [HBad.out]; exact nodez_M _ _, below_alloc HZB.out _⟩
          · rw [hn] at x2
            have d1 : decide (0 ≤ x.field) = false := decide_eq_false hf0
            clear hn hok ht hf0 HL2
            go_wp2
            have h4 := res4a HZ.out (.cells #[.bool true, .int .i64 x.field, .int .i64 0, .string x.s] 84)
            exact bodyPost_ret (v := .tuple #[.agg #[.int .i64 0, .slice none 0 0, .slice none 0 0, .slice none 0 0], .int .i64 21]) (by simp [results, Tryd.results113, go_sem, h4]) rfl
              ⟨_, _, _, by rw [HBad.out]; rfl, by rw [HBad.out]; exact nodez_M _ _, below_alloc HZB.out _⟩
          · rw [hn] at x2
            have d1 : decide (0 ≤ x.field) = true := decide_eq_true hf0
            have d2 : decide (x.field < (n.texts.length : Int)) = false := decide_eq_false (by omega)
            clear hn hok ht hf0 hf1 HL2
            go_wp2
            have h4 := res4a HZ.out (.cells #[.bool true, .int .i64 x.field, .int .i64 0, .string x.s] 84)
            exact bodyPost_ret (v := .tuple #[.agg #[.int .i64 0, .slice none 0 0, .slice none 0 0, .slice none 0 0], .int .i64 21]) (by simp [results, Tryd.results113, go_sem, h4]) rfl
              ⟨_, _, _, by rw [HBad.out]; rfl, by rw [HBad.out]; exact nodez_M _ _, below_alloc HZB.out _⟩
      | false =>
        rw [ht] at x0
        by_cases hok : x.s = ByteArray.empty ∧ 0 ≤ x.field ∧ x.field < (m.ints.length : Int)
        · obtain ⟨hn, hf0, hf1⟩ := hok
          obtain ⟨f, hf⟩ := Int.eq_ofNat_of_zero_le hf0
          have hfl : f < m.ints.length := by omega
          have HN1 := Aside0.mk (setOne_int ht hn hf hfl)
          have HL2 := HLn.out.1
          obtain ⟨g6, c6', hv, -⟩ := Kd.R_form HO.out.r1 (by omega)
          injection hv with hA _ hc
          subst hA hc
          obtain ⟨⟨y, s1⟩, s2, hs3⟩ := HO.out.setInt hfl x.n
          rw [hn] at x3
          rw [hf] at x1
          have HS3 := Aside0.mk hs3
          have hg6 : g6 < wr.heap.size := World.block_lt_of_cell? wr _ s1
          have d1 : decide ((f : Int) < (n.ints.length : Int)) = true := decide_eq_true (by omega)
          clear HL2 hn hf hf0 hf1 hs3 e0 e0f e1 e1f e2 e2f e3 e3f
          go_wp2
          go_roundw
          case rel => exact ⟨k + 1, by omega, by go_num, ⟨m.kind, m.ints.set f x.n, m.texts, m.kids⟩, ⟨by rw [HStep.out, HS.out.1]; exact HN1.out, HS.out.2⟩, ⟨HS3.out.alloc _⟩⟩
          case measure => simp [intOf]; omega
        · have HBad := Aside0.mk (HBd.out (setOne_int_bad ht hok))
          have HL2 := HLn.out.1
          have h3 : ¬ x.s = ByteArray.empty ∨ (x.s = ByteArray.empty ∧ ¬ 0 ≤ x.field) ∨ (x.s = ByteArray.empty ∧ 0 ≤ x.field ∧ ¬ x.field < (m.ints.length : Int)) := by
            by_cases h1 : x.s = ByteArray.empty
            · by_cases h2 : 0 ≤ x.field
              · exact .inr (.inr ⟨h1, h2, fun h => hok ⟨h1, h2, h⟩⟩)
              · exact .inr (.inl ⟨h1, h2⟩)
            · exact .inl h1
          rcases h3 with hn | ⟨hn, hf0⟩ | ⟨hn, hf0, hf1⟩
          · have d1 : ¬ x.s.toList = [] := fun h => hn (toList_nil.1 h)
            clear hn hok ht HL2
            go_wp2
            have h4 := res4a HZ.out (.cells #[.bool false, .int .i64 x.field, .int .i64 x.n, .string x.s] 84)
            exact bodyPost_ret (v := .tuple #[.agg #[.int .i64 0, .slice none 0 0, .slice none 0 0, .slice none 0 0], .int .i64 21]) (by simp [results, Tryd.results113, go_sem, h4]) rfl
              ⟨_, _, _, by rw [HBad.out]; rfl, by rw [HBad.out]; exact nodez_M _ _, below_alloc HZB.out _⟩
          · rw [hn] at x3
            have d1 : decide (0 ≤ x.field) = false := decide_eq_false hf0
            clear hn hok ht hf0 HL2
            go_wp2
            have h4 := res4a HZ.out (.cells #[.bool false, .int .i64 x.field, .int .i64 x.n, .string ByteArray.empty] 84)
            exact bodyPost_ret (v := .tuple #[.agg #[.int .i64 0, .slice none 0 0, .slice none 0 0, .slice none 0 0], .int .i64 21]) (by simp [results, Tryd.results113, go_sem, h4]) rfl
              ⟨_, _, _, by rw [HBad.out]; rfl, by rw [HBad.out]; exact nodez_M _ _, below_alloc HZB.out _⟩
          · rw [hn] at x3
            have d1 : decide (0 ≤ x.field) = true := decide_eq_true hf0
            have d2 : decide (x.field < (n.ints.length : Int)) = false := decide_eq_false (by omega)
            clear hn hok ht hf0 hf1 HL2
            go_wp2
            have h4 := res4a HZ.out (.cells #[.bool false, .int .i64 x.field, .int .i64 x.n, .string ByteArray.empty] 84)
            exact bodyPost_ret (v := .tuple #[.agg #[.int .i64 0, .slice none 0 0, .slice none 0 0, .slice none 0 0], .int .i64 21]) (by simp [results, Tryd.results113, go_sem, h4]) rfl
              ⟨_, _, _, by rw [HBad.out]; rfl, by rw [HBad.out]; exact nodez_M _ _, below_alloc HZB.out _⟩
    · obtain rfl : k = l.length := by omega
      have HFin := Aside0.mk (setR_all (l := l) (by have h := HS.out.1; rwa [List.take_length] at h))
      have HD := Aside0.mk HO.out.done
      have e0 : wr.cell? ⟨w.heap.size + 1, 0, none⟩ = some (.int .i64 0) := (blk_cell HO.out.res 0).trans rfl
      have e0f := blk_frozen HO.out.res 0
      have e1 : (wr.setCell ⟨w.heap.size + 1, 0, none⟩ (.int .i64 m.kind)).cell? ⟨w.heap.size + 1, 1, none⟩ = some (.slice none 0 0) := (blk_cell (blk_set HO.out.res 0 (.int .i64 m.kind)) 1).trans rfl
      have e1f := blk_frozen (blk_set HO.out.res 0 (.int .i64 m.kind)) 1
      have e2 : ((wr.setCell ⟨w.heap.size + 1, 0, none⟩ (.int .i64 m.kind)).setCell ⟨w.heap.size + 1, 1, none⟩ (.slice A5 n.ints.length c5)).cell? ⟨w.heap.size + 1, 2, none⟩ = some (.slice none 0 0) := (blk_cell (blk_set (blk_set HO.out.res 0 (.int .i64 m.kind)) 1 (.slice A5 n.ints.length c5)) 2).trans rfl
      have e2f := blk_frozen (blk_set (blk_set HO.out.res 0 (.int .i64 m.kind)) 1 (.slice A5 n.ints.length c5)) 2
      have e3 : (((wr.setCell ⟨w.heap.size + 1, 0, none⟩ (.int .i64 m.kind)).setCell ⟨w.heap.size + 1, 1, none⟩ (.slice A5 n.ints.length c5)).setCell ⟨w.heap.size + 1, 2, none⟩ (.slice A6 n.texts.length c6)).cell? ⟨w.heap.size + 1, 3, none⟩ = some (.slice none 0 0) := (blk_cell (blk_set (blk_set (blk_set HO.out.res 0 (.int .i64 m.kind)) 1 (.slice A5 n.ints.length c5)) 2 (.slice A6 n.texts.length c6)) 3).trans rfl
      have e3f := blk_frozen (blk_set (blk_set (blk_set HO.out.res 0 (.int .i64 m.kind)) 1 (.slice A5 n.ints.length c5)) 2 (.slice A6 n.texts.length c6)) 3
      go_wp2
      have h4 := res4 HD.out.1
      exact bodyPost_ret (v := .tuple #[.agg #[.int .i64 m.kind, .slice A5 n.ints.length c5, .slice A6 n.texts.length c6, .slice A7 n.kids.length c7], .int .i64 0]) (by simp [results, Tryd.results113, go_sem, h4]) rfl
        ⟨_, _, _, by rw [HFin.out], by rw [HFin.out]; exact HD.out.2.1, HD.out.2.2⟩
end Go.Proofs.YtglfebpgdghlfaaDoor.L
end
section
namespace Go.Proofs.YtglfebpgdghlfaaDoor.L
open Go.RowKit Go.ChangeShapes Go.WideShapes Go.Proofs.YtglfebpgdghlfaaDoorW.PrintWords Go.Proofs.YtglfebpgdghlfaaDoorW.PrintLast Go.Proofs.YtglfebpgdghlfaaDoorW.PrintMore
attribute [local go_sem] max2_int min2_int max_two min_two max_three min_three max_four min_four
theorem M_nodeC {W : World} {B : Nat} {m : Node} {A1 A2 A3 : Option Addr} {c1 c2 c3 : Nat} (h : kNode.M W B (fun _ => True) m [.int .i64 m.kind, .slice A1 m.ints.length c1, .slice A2 m.texts.length c2, .slice A3 m.kids.length c3]) : NodeC W m A1 c1 A2 c2 A3 c3 := by
  obtain ⟨x1, x2, x3, e, h1, h2, h3⟩ := kNode_openM h
  injection e with _ e
  injection e with e1 e
  injection e with e2 e
  injection e with e3 _
  subst e1 e2 e3
  exact ⟨(Kd.R_reads' h1).2.1, (Kd.R_reads' h2).2.1, (Kd.R_reads' h3).2.1, (Kd.R_reads' h1).2.2, (Kd.R_reads' h2).2.2, (Kd.R_reads' h3).2.2⟩
theorem blk_set4 {W : World} {q rb i0 i1 i2 i3 : Nat} {o : Obj} (h : W.heap[q]? = some o) (hne : q ≠ rb) (u0 u1 u2 u3 : Value) : ((((W.setCell ⟨rb, i0, none⟩ u0).setCell ⟨rb, i1, none⟩ u1).setCell ⟨rb, i2, none⟩ u2).setCell ⟨rb, i3, none⟩ u3).heap[q]? = some o := by
  rw [Below.heap_setCell _ ⟨rb, i3, none⟩ u3 q hne, Below.heap_setCell _ ⟨rb, i2, none⟩ u2 q hne, Below.heap_setCell _ ⟨rb, i1, none⟩ u1 q hne, Below.heap_setCell _ ⟨rb, i0, none⟩ u0 q hne]
  exact h
theorem blk_at {W : World} {q : Nat} {cs : Array Value} {T : TypeId} (h : W.heap[q]? = some (.cells cs T (0, 0))) (i : Nat) {v : Value} (hv : cs[i]? = some v) : W.cell? ⟨q, i, none⟩ = some v := (blk_cell h i).trans hv
theorem setR_some {n m : Node} {l : List SetV} (h : setAll n l = some m) : setR n l = (m, 0) := by unfold setR; rw [h]
theorem setR_no {n : Node} {l : List SetV} (h : setAll n l = none) : setR n l = (nodez, 21) := by unfold setR; rw [h]
structure EdRel (m : Node) (v1 v2 v3 : Value) (w W : World) (mb cnt : Nat) (f : Lit → Option Value) (g : Nat) (cs : Array Value) (W1 : World) : Prop where
  node : kNode.M W1 W.heap.size (fun _ => True) m [.int .i64 m.kind, v1, v2, v3]
  box : W1.heap[g]? = some (.cells #[.int .i64 m.kind, v1, v2, v3] 26 (0, 0))
  res : W1.heap[W.heap.size + 1]? = some (.cells zeroN 26 (0, 0))
  ob : W1.heap[W.heap.size]? = some (.cells cs 61 (0, 0))
  map : MapF Tryd.prog 3 W1 mb cnt f
  grown : W.grownBy W1 (some mb)
  ge : W.heap.size + 1 < g
section
variable {m : Node} {v1 v2 v3 : Value} {w W : World} {mb cnt : Nat} {f : Lit → Option Value} {g : Nat} {cs : Array Value} {W1 W2 : World}
theorem EdRel.later (h : EdRel m v1 v2 v3 w W mb cnt f g cs W1) (hb : Below W1.heap.size W1 W2) : EdRel m v1 v2 v3 w W mb cnt f g cs W2 :=
  ⟨M_below h.node hb, (hb.block _ (blk_lt h.box)).trans h.box, (hb.block _ (blk_lt h.res)).trans h.res, (hb.block _ (blk_lt h.ob)).trans h.ob, h.map.below hb, grown_then h.grown hb, h.ge⟩
theorem EdRel.put {m2 : Node} {x1 x2 x3 : Value} (h : EdRel m v1 v2 v3 w W mb cnt f g cs W1) (hm : mb < W.heap.size) (hM : kNode.M W1 W.heap.size (fun _ => True) m2 [.int .i64 m2.kind, x1, x2, x3]) :
    EdRel m2 x1 x2 x3 w W mb cnt f g cs ((((W1.setCell ⟨g, 0, none⟩ (.int .i64 m2.kind)).setCell ⟨g, 1, none⟩ x1).setCell ⟨g, 2, none⟩ x2).setCell ⟨g, 3, none⟩ x3) := by
  have hg := h.ge
  obtain ⟨y1, y2, y3, e, r1, r2, r3⟩ := kNode_openM hM
  injection e with _ e
  injection e with e1 e
  injection e with e2 e
  injection e with e3 _
  subst e1 e2 e3
  have hb0 := h.box
  have hb1 := blk_set hb0 0 (.int .i64 m2.kind)
  have hb2 := blk_set hb1 1 x1
  have hb3 := blk_set hb2 2 x2
  refine ⟨kNode_mkM ?_ ?_ ?_, box4 h.box _ _ _ _, blk_set4 h.res (by omega) _ _ _ _, blk_set4 h.ob (by omega) _ _ _ _, MapF.set4 h.map (by omega) _ _ _ _, grown_set4 h.grown (by omega) _ _ _ _, h.ge⟩
  · exact R_type (R_type (R_type (R_type r1 hb0 (by decide) _ _) hb1 (by decide) _ _) hb2 (by decide) _ _) hb3 (by decide) _ _
  · exact R_type (R_type (R_type (R_type r2 hb0 (by decide) _ _) hb1 (by decide) _ _) hb2 (by decide) _ _) hb3 (by decide) _ _
  · exact R_type (R_type (R_type (R_type r3 hb0 (by decide) _ _) hb1 (by decide) _ _) hb2 (by decide) _ _) hb3 (by decide) _ _
theorem EdRel.kid {x3 : Value} {l : List Int} (h : EdRel m v1 v2 v3 w W mb cnt f g cs W1) (hm : mb < W.heap.size) (hR : (Kd.int .i64).R 3 W1 W.heap.size (fun _ => True) x3 l) :
    EdRel ⟨m.kind, m.ints, m.texts, l⟩ v1 v2 x3 w W mb cnt f g cs (W1.setCell ⟨g, 3, none⟩ x3) := by
  have hg := h.ge
  obtain ⟨y1, y2, y3, e, r1, r2, r3⟩ := kNode_openM h.node
  injection e with _ e
  injection e with e1 e
  injection e with e2 e
  injection e with e3 _
  subst e1 e2 e3
  have hb3 := blk_set h.box 3 x3
  refine ⟨kNode_mkM (R_type r1 h.box (by decide) _ _) (R_type r2 h.box (by decide) _ _) (R_type hR h.box (by decide) _ _), by simpa using hb3, ?_, ?_, h.map.setCell (a := ⟨g, 3, none⟩) (by show mb ≠ g; omega) _, grown_set h.grown (by omega) _, h.ge⟩
  · exact (Below.heap_setCell W1 ⟨g, 3, none⟩ x3 _ (by show W.heap.size + 1 ≠ g; omega)).trans h.res
  · exact (Below.heap_setCell W1 ⟨g, 3, none⟩ x3 _ (by show W.heap.size ≠ g; omega)).trans h.ob
theorem EdRel.ret {m2 : Node} {x1 x2 x3 : Value} (h : EdRel m v1 v2 v3 w W mb cnt f g cs W1) (hm : mb < W.heap.size) (hM : kNode.M W1 W.heap.size (fun _ => True) m2 [.int .i64 m2.kind, x1, x2, x3]) :
    ((((W1.setCell ⟨W.heap.size + 1, 0, none⟩ (.int .i64 m2.kind)).setCell ⟨W.heap.size + 1, 1, none⟩ x1).setCell ⟨W.heap.size + 1, 2, none⟩ x2).setCell ⟨W.heap.size + 1, 3, none⟩ x3).heap[W.heap.size + 1]? = some (.cells #[.int .i64 m2.kind, x1, x2, x3] 26 (0, 0)) ∧
    kNode.M ((((W1.setCell ⟨W.heap.size + 1, 0, none⟩ (.int .i64 m2.kind)).setCell ⟨W.heap.size + 1, 1, none⟩ x1).setCell ⟨W.heap.size + 1, 2, none⟩ x2).setCell ⟨W.heap.size + 1, 3, none⟩ x3) W.heap.size (fun _ => True) m2 [.int .i64 m2.kind, x1, x2, x3] ∧
    W.grownBy ((((W1.setCell ⟨W.heap.size + 1, 0, none⟩ (.int .i64 m2.kind)).setCell ⟨W.heap.size + 1, 1, none⟩ x1).setCell ⟨W.heap.size + 1, 2, none⟩ x2).setCell ⟨W.heap.size + 1, 3, none⟩ x3) (some mb) ∧
    MapF Tryd.prog 3 ((((W1.setCell ⟨W.heap.size + 1, 0, none⟩ (.int .i64 m2.kind)).setCell ⟨W.heap.size + 1, 1, none⟩ x1).setCell ⟨W.heap.size + 1, 2, none⟩ x2).setCell ⟨W.heap.size + 1, 3, none⟩ x3) mb cnt f := by
  obtain ⟨h1, h2⟩ := node_landed hM h.res
  exact ⟨h1, h2, grown_set4 h.grown (Nat.le_succ _) _ _ _ _, MapF.set4 h.map (by omega) _ _ _ _⟩
theorem EdRel.retZ (h : EdRel m v1 v2 v3 w W mb cnt f g cs W1) (hm : mb < W.heap.size) :
    ((((W1.setCell ⟨W.heap.size + 1, 0, none⟩ (.int .i64 0)).setCell ⟨W.heap.size + 1, 1, none⟩ (.slice none 0 0)).setCell ⟨W.heap.size + 1, 2, none⟩ (.slice none 0 0)).setCell ⟨W.heap.size + 1, 3, none⟩ (.slice none 0 0)).heap[W.heap.size + 1]? = some (.cells #[.int .i64 0, .slice none 0 0, .slice none 0 0, .slice none 0 0] 26 (0, 0)) ∧
    W.grownBy ((((W1.setCell ⟨W.heap.size + 1, 0, none⟩ (.int .i64 0)).setCell ⟨W.heap.size + 1, 1, none⟩ (.slice none 0 0)).setCell ⟨W.heap.size + 1, 2, none⟩ (.slice none 0 0)).setCell ⟨W.heap.size + 1, 3, none⟩ (.slice none 0 0)) (some mb) :=
  let r := h.ret (m2 := nodez) hm (nodez_M _ _)
  ⟨r.1, r.2.2.1⟩
end
end Go.Proofs.YtglfebpgdghlfaaDoor.L
end
section
namespace Go.Proofs.YtglfebpgdghlfaaDoor.L
open Go.RowKit Go.ChangeShapes Go.WideShapes Go.Proofs.YtglfebpgdghlfaaDoorW.PrintWords Go.Proofs.YtglfebpgdghlfaaDoorW.PrintLast Go.Proofs.YtglfebpgdghlfaaDoorW.PrintMore
attribute [local go_sem] max2_int min2_int max_two min_two max_three min_three max_four min_four
theorem setOne_kids {n m : Node} {x : SetV} (h : setOne n x = some m) : m.kids = n.kids ∧ m.ints.length = n.ints.length ∧ m.texts.length = n.texts.length ∧ m.kind = n.kind := by
  unfold setOne at h
  split at h
  · split at h
    · injection h with h
      subst h
      exact ⟨rfl, rfl, List.length_set, rfl⟩
    · cases h
  · split at h
    · injection h with h
      subst h
      exact ⟨rfl, List.length_set, rfl, rfl⟩
    · cases h
theorem setAll_kids {l : List SetV} : ∀ {n m : Node}, setAll n l = some m → m.kids = n.kids ∧ m.ints.length = n.ints.length ∧ m.texts.length = n.texts.length ∧ m.kind = n.kind := by
  induction l with
  | nil => intro n m h; injection h with h; subst h; exact ⟨rfl, rfl, rfl, rfl⟩
  | cons x l ih =>
    intro n m h
    have h' : l.foldl setStep (setOne n x) = some m := h
    cases hx : setOne n x with
    | none =>
      rw [hx] at h'
      have hn : ∀ r : List SetV, r.foldl setStep none = none := fun r => by
        induction r with
        | nil => rfl
        | cons y r ih => exact ih
      rw [hn] at h'
      cases h'
    | some n1 =>
      rw [hx] at h'
      obtain ⟨h1, h2, h3, h4⟩ := ih (n := n1) h'
      obtain ⟨g1, g2, g3, g4⟩ := setOne_kids hx
      exact ⟨h1.trans g1, h2.trans g2, h3.trans g3, h4.trans g4⟩
section
variable {a : Scene} {A : Option Addr} {c b mb cnt : Nat} {base : List Int} {v : Value} {out : List Node} {w : World}
set_option maxRecDepth 100000 in
set_option maxHeartbeats 8000000 in
theorem edit_any (W : World) (h : BRel a A c b mb cnt (imgF base) v out w W) (hlen : out.length = base.length) (hc : kNode.C w A a.nodes.length a.nodes) (hS : ∀ i : Nat, i < a.nodes.length → Small (nd a.nodes i)) (hKl : ∀ i : Nat, i < a.nodes.length → (nd a.nodes i).kids.length ≤ 400000) (hP : Places a.nodes) (hn : a.nodes.length ≤ 1000000) (hcn : cnt ≤ 1000000)
    (o : Opn) (B1 : Option Addr) (d1 : Nat) (B2 : Option Addr) (d2 : Nat) (A1 : Option Addr) (c1 : Nat) (A2 : Option Addr) (c2 : Nat) (A3 : Option Addr) (c3 : Nat) (hO : OpnC w o B1 d1 B2 d2 A1 c1 A2 c2 A3 c3) (hls : o.sets.length ≤ 1000000) (hle : o.script.length ≤ 1000000) (hb0 : -9223372036854775808 ≤ o.base) (hb1 : o.base ≤ 9223372036854775807) (hk3 : ¬ o.kind = 3) :
    Calls Tryd.prog 91 #[.pointer (some ⟨b, 0, none⟩), .agg (opV o B1 d1 B2 d2 A1 c1 A2 c2 A3 c3)] W (OnePost a A c b mb cnt base v out w o (changeN a.nodes base o) W) := by
  have HB := Aside0.mk h
  have HO := Aside0.mk hO
  have HC := Aside0.mk hc
  have HSm := Aside0.mk hS
  have HKl := Aside0.mk hKl
  have HPl := Aside0.mk hP
  have HLen := Aside0.mk hlen
  have HLs := Aside0.mk (And.intro hls hle)
  have hA0 := below_alloc (below_alloc (Below.refl W.heap.size W) (.cells (opV o B1 d1 B2 d2 A1 c1 A2 c2 A3 c3) 61)) (.cells zeroN 26)
  have HA := Aside0.mk hA0
  have huo := Tryd.underlying61
  have hun := Tryd.underlying26
  have HRes := Aside0.mk (show ((W.alloc (.cells (opV o B1 d1 B2 d2 A1 c1 A2 c2 A3 c3) 61)).alloc (.cells zeroN 26)).heap[W.heap.size + 1]? = some (.cells zeroN 26 (0, 0)) from by
    have := heap_alloc_new (W.alloc (.cells (opV o B1 d1 B2 d2 A1 c1 A2 c2 A3 c3) 61)) (.cells zeroN 26)
    simpa using this)
  have HOb := Aside0.mk (show ((W.alloc (.cells (opV o B1 d1 B2 d2 A1 c1 A2 c2 A3 c3) 61)).alloc (.cells zeroN 26)).heap[W.heap.size]? = some (.cells (opV o B1 d1 B2 d2 A1 c1 A2 c2 A3 c3) 61 (0, 0)) from by
    refine ((below_alloc (Below.refl _ _) (.cells zeroN 26)).block _ (by simp)).trans ?_
    simpa using heap_alloc_new W (.cells (opV o B1 d1 B2 d2 A1 c1 A2 c2 A3 c3) 61))
  have HBase : Aside0 (baseOf o = o.base) := ⟨if_neg hk3⟩
  have HMb := Aside0.mk (MapF.lt h.map)
  clear h hO hA0 hc hS hP hlen hKl hls hle
  go_enter Tryd.func91, Tryd.ntmps91
  go_wp2_with fail
  refine (empty_any o.node A1 c1 A2 c2 A3 c3 _).mono ?_
  rintro e w5 ⟨rfl, hB5⟩
  have HRes5 := Aside0.mk ((hB5.block _ (blk_lt HRes.out)).trans HRes.out)
  have HOb5 := Aside0.mk ((hB5.block _ (blk_lt HOb.out)).trans HOb.out)
  have k1 : w5.cell? ⟨W.heap.size, 1, none⟩ = some (.int .i64 o.base) := blk_at HOb5.out 1 rfl
  have hrb5 : W.heap.size + 1 < w5.heap.size := blk_lt HRes5.out
  have HB5 := Aside0.mk (below_step HA.out hB5)
  clear hB5 HRes HA HOb
  by_cases hem : emptyN o.node = true
  · rw [hem]
    by_cases htk : takes a.nodes.length base o.base = true
    · have HE := Aside0.mk (show changeN a.nodes base o = editN (imgN base (nd a.nodes o.base.toNat)) o from if_pos ⟨hem, htk⟩)
      obtain ⟨ht0, ht1, htn⟩ := of_decide_eq_true htk
      obtain ⟨i, hi⟩ := Int.eq_ofNat_of_zero_le ht0
      rw [hi] at HE HBase k1 ht1 htn
      rw [Int.toNat_natCast] at HE
      have HTn := Aside0.mk htn
      clear hem htk ht0 hi htn hb0 hb1
      go_wp2_with fail
      refine (take_yes w5 (HB.out.later HB5.out) HLen.out HC.out HSm.out HPl.out hn hcn i (by omega) HTn.out).mono ?_
      rintro e w6 ⟨v1, v2, v3, rfl, hM6, hR6, hg6⟩
      have HMs := Aside0.mk (show Small (imgN base (nd a.nodes i)) ∧ (imgN base (nd a.nodes i)).kids.length ≤ 400000 from by
        have h1 := HSm.out i (by omega)
        have h2 := HKl.out i (by omega)
        exact ⟨⟨h1.1, h1.2.1, by show (List.map _ _).length ≤ _; rw [List.length_map]; exact h1.2.2⟩, by show (List.map _ _).length ≤ _; rw [List.length_map]; exact h2⟩)
      generalize imgN base (nd a.nodes i) = m at HE hM6 HMs ⊢
      obtain ⟨A5, c5, A6, c6, A7, c7, rfl, rfl, rfl⟩ := M_slices hM6
      have hne : ∀ {q : Nat} {cs : Array Value} {T : TypeId}, w5.heap[q]? = some (.cells cs T (0, 0)) → some q ≠ some mb := fun hq e => by
        injection e with e
        exact (HB.out.later HB5.out).map.not_cells (by rw [← e]; exact hq)
      have HR7 := Aside0.mk (show EdRel m (.slice A5 m.ints.length c5) (.slice A6 m.texts.length c6) (.slice A7 m.kids.length c7) w W mb (cnt + 1) (imgF (base ++ [(i : Int)])) w6.heap.size (opV o B1 d1 B2 d2 A1 c1 A2 c2 A3 c3) (w6.alloc (.cells #[.int .i64 m.kind, .slice A5 m.ints.length c5, .slice A6 m.texts.length c6, .slice A7 m.kids.length c7] 26)) from by
        have hb := below_alloc (Below.refl w6.heap.size w6) (.cells #[.int .i64 m.kind, .slice A5 m.ints.length c5, .slice A6 m.texts.length c6, .slice A7 m.kids.length c7] 26)
        have r6 := (hg6.block _ hrb5 (hne HRes5.out)).trans HRes5.out
        have o6 := (hg6.block _ (blk_lt HOb5.out) (hne HOb5.out)).trans HOb5.out
        exact ⟨M_below (M_lower hM6 HB5.out.size) hb, by simpa using heap_alloc_new w6 _, (hb.block _ (blk_lt r6)).trans r6, (hb.block _ (blk_lt o6)).trans o6, hR6.map.below hb, grown_then (grown_of_below HB5.out hg6) hb, blk_lt r6⟩)
      have k2 : (w6.alloc (.cells #[.int .i64 m.kind, .slice A5 m.ints.length c5, .slice A6 m.texts.length c6, .slice A7 m.kids.length c7] 26)).cell? ⟨W.heap.size, 2, none⟩ = some (.slice B1 o.sets.length d1) := blk_at HR7.out.ob 2 rfl
      clear hM6 hR6 hg6 k1 hne
      go_wp2_with fail
      generalize w6.alloc (.cells #[.int .i64 m.kind, .slice A5 m.ints.length c5, .slice A6 m.texts.length c6, .slice A7 m.kids.length c7] 26) = W7 at HR7 ⊢
      generalize w6.heap.size = g at HR7 ⊢
      clear k2
      have HBl7 := Aside0.mk (HB.out.below.grown HR7.out.grown HB.out.below.size (fun q hq => by injection hq with hq; have := HB.out.mge; omega))
      refine (fset_any m A5 c5 A6 c6 A7 c7 B1 d1 o.sets W7 (M_nodeC HR7.out.node) HMs.out.1 (Kd.C_below HO.out.s HBl7.out) HLs.out.1).mono ?_
      have hge := HR7.out.ge
      have hmb := HMb.out
      have hne2 : W.heap.size + 1 ≠ g := by omega
      cases hsa : setAll m o.sets with
      | none =>
        rw [setR_no hsa]
        have HE2 := Aside0.mk (show changeN a.nodes base o = (nodez, 21) from by rw [HE.out]; unfold editN; rw [hsa])
        generalize nodez = z
        rintro e w8 ⟨y1, y2, y3, rfl, hM8, hB8⟩
        dsimp only at hM8 ⊢
        obtain ⟨A8, c8, A9, c9, A10, c10, rfl, rfl, rfl⟩ := M_slices hM8
        have hR8' := HR7.out.later hB8
        have HR8 := Aside0.mk (hR8'.put hmb (M_lower hM8 HR7.out.grown.size))
        have HZ := Aside0.mk (HR8.out.retZ hmb)
        obtain ⟨f0, f0f, f1, f1f, f2, f2f, f3, f3f⟩ := slots4 hR8'.box (.int .i64 z.kind) (.slice A8 z.ints.length c8) (.slice A9 z.texts.length c9)
        obtain ⟨e0, e0f, e1, e1f, e2, e2f, e3, e3f⟩ := slots4 HR8.out.res (.int .i64 0) (.slice none 0 0) (.slice none 0 0)
        clear hsa hR8' hM8 hB8
        go_wp2
        have h4 := res4 HZ.out.1
        exact bodyPost_ret (v := .tuple #[.agg #[.int .i64 0, .slice none 0 0, .slice none 0 0, .slice none 0 0], .int .i64 21]) (by simp [results, Tryd.results91, go_sem, h4]) rfl (OnePost.bad HE2.out HZ.out.2)
      | some m2 =>
        rw [setR_some hsa]
        obtain ⟨hk2, -, -, -⟩ := setAll_kids hsa
        have HKl2 := Aside0.mk (show m2.kids.length ≤ 400000 from by rw [hk2]; exact HMs.out.2)
        have HE2 := Aside0.mk (show changeN a.nodes base o = if (app m2.kids o.script).2 = true then (⟨m2.kind, m2.ints, m2.texts, (app m2.kids o.script).1⟩, 0) else (nodez, 21) from by rw [HE.out]; unfold editN; rw [hsa])
        rintro e w8 ⟨y1, y2, y3, rfl, hM8, hB8⟩
        obtain ⟨A8, c8, A9, c9, A10, c10, rfl, rfl, rfl⟩ := M_slices hM8
        have hR8' := HR7.out.later hB8
        have HR8 := Aside0.mk (hR8'.put hmb (M_lower hM8 HR7.out.grown.size))
        obtain ⟨f0, f0f, f1, f1f, f2, f2f, f3, f3f⟩ := slots4 hR8'.box (.int .i64 m2.kind) (.slice A8 m2.ints.length c8) (.slice A9 m2.texts.length c9)
        have k2 : w8.cell? ⟨W.heap.size, 3, none⟩ = some (.slice B2 o.script.length d2) := blk_at hR8'.ob 3 rfl
        have k3 : ((((w8.setCell ⟨g, 0, none⟩ (.int .i64 m2.kind)).setCell ⟨g, 1, none⟩ (.slice A8 m2.ints.length c8)).setCell ⟨g, 2, none⟩ (.slice A9 m2.texts.length c9)).setCell ⟨g, 3, none⟩ (.slice A10 m2.kids.length c10)).cell? ⟨W.heap.size, 3, none⟩ = some (.slice B2 o.script.length d2) := blk_at HR8.out.ob 3 rfl
        have k4 : ((((w8.setCell ⟨g, 0, none⟩ (.int .i64 m2.kind)).setCell ⟨g, 1, none⟩ (.slice A8 m2.ints.length c8)).setCell ⟨g, 2, none⟩ (.slice A9 m2.texts.length c9)).setCell ⟨g, 3, none⟩ (.slice A10 m2.kids.length c10)).cell? ⟨g, 3, none⟩ = some (.slice A10 m2.kids.length c10) := blk_at HR8.out.box 3 rfl
        have hnew : W.heap.size ≠ g := by omega
        clear hsa hk2 hR8' hM8 hB8
        go_wp2_with fail
        clear f0 f0f f1 f1f f2 f2f f3 f3f k2 k3 k4
        generalize ((((w8.setCell ⟨g, 0, none⟩ (.int .i64 m2.kind)).setCell ⟨g, 1, none⟩ (.slice A8 m2.ints.length c8)).setCell ⟨g, 2, none⟩ (.slice A9 m2.texts.length c9)).setCell ⟨g, 3, none⟩ (.slice A10 m2.kids.length c10)) = W9 at HR8 ⊢
        have HBl9 := Aside0.mk (HB.out.below.grown HR8.out.grown HB.out.below.size (fun q hq => by injection hq with hq; have := HB.out.mge; omega))
        have hN9 := M_nodeC HR8.out.node
        refine (apply_any A10 c10 m2.kids B2 d2 o.script W9 hN9.k hN9.l3 (Kd.C_below HO.out.e HBl9.out) HKl2.out HLs.out.2).mono ?_
        rintro e w10 ⟨y, rfl, hR10, hB10⟩
        have HR10 := Aside0.mk (HR8.out.later hB10)
        have hK10 := Kd.R_lower hR10 HR8.out.grown.size
        generalize app m2.kids o.script = q at HE2 hK10 ⊢
        obtain ⟨ql, qb⟩ := q
        obtain ⟨A11, c11, hy⟩ := Kd.R_slice hK10
        subst hy
        have HR11 := Aside0.mk (HR10.out.kid hmb hK10)
        have f3 : w10.cell? ⟨g, 3, none⟩ = some (.slice A10 m2.kids.length c10) := blk_at HR10.out.box 3 rfl
        have f3f := blk_frozen HR10.out.box 3
        clear hN9 hR10 hB10 hK10
        cases qb with
        | true =>
          have HE3 := Aside0.mk (HE2.out.trans (if_pos rfl))
          have HZ := Aside0.mk (HR11.out.ret hmb HR11.out.node)
          obtain ⟨e0, e0f, e1, e1f, e2, e2f, e3, e3f⟩ := slots4 HR11.out.res (.int .i64 m2.kind) (.slice A8 m2.ints.length c8) (.slice A9 m2.texts.length c9)
          have b0 : (w10.setCell ⟨g, 3, none⟩ (.slice A11 ql.length c11)).cell? ⟨g, 0, none⟩ = some (.int .i64 m2.kind) := blk_at HR11.out.box 0 rfl
          have b1 : (w10.setCell ⟨g, 3, none⟩ (.slice A11 ql.length c11)).cell? ⟨g, 1, none⟩ = some (.slice A8 m2.ints.length c8) := blk_at HR11.out.box 1 rfl
          have b2 : (w10.setCell ⟨g, 3, none⟩ (.slice A11 ql.length c11)).cell? ⟨g, 2, none⟩ = some (.slice A9 m2.texts.length c9) := blk_at HR11.out.box 2 rfl
          have b3 : (w10.setCell ⟨g, 3, none⟩ (.slice A11 ql.length c11)).cell? ⟨g, 3, none⟩ = some (.slice A11 ql.length c11) := blk_at HR11.out.box 3 rfl
          go_wp2
          have h4 := res4 HZ.out.1
          refine bodyPost_ret (v := .tuple #[.agg #[.int .i64 m2.kind, .slice A8 m2.ints.length c8, .slice A9 m2.texts.length c9, .slice A11 ql.length c11], .int .i64 0]) (by simp [results, Tryd.results91, go_sem, h4]) rfl
            ⟨_, _, _, by rw [HE3.out], by rw [HE3.out]; exact HZ.out.2.1, fun _ => ⟨cnt + 1, Nat.le_refl _, ?_⟩, HZ.out.2.2.1⟩
          rw [HBase.out]
          exact HB.out.grow HZ.out.2.2.1 HZ.out.2.2.2
        | false =>
          have HE3 := Aside0.mk (HE2.out.trans (if_neg Bool.false_ne_true))
          have HZ := Aside0.mk (HR11.out.retZ hmb)
          obtain ⟨e0, e0f, e1, e1f, e2, e2f, e3, e3f⟩ := slots4 HR11.out.res (.int .i64 0) (.slice none 0 0) (.slice none 0 0)
          go_wp2
          have h4 := res4 HZ.out.1
          exact bodyPost_ret (v := .tuple #[.agg #[.int .i64 0, .slice none 0 0, .slice none 0 0, .slice none 0 0], .int .i64 21]) (by simp [results, Tryd.results91, go_sem, h4]) rfl (OnePost.bad HE3.out HZ.out.2)
    · have HE := Aside0.mk (show changeN a.nodes base o = (nodez, 21) from if_neg (fun hh => htk hh.2))
      have HTk := Aside0.mk (Bool.eq_false_iff.2 htk)
      clear hem htk
      go_wp2_with fail
      refine (take_no w5 (HB.out.later HB5.out) o.base hb0 hb1 HTk.out).mono ?_
      rintro e w6 ⟨rfl, hB6⟩
      have hres6 := (hB6.block _ hrb5).trans HRes5.out
      have HZ := Aside0.mk (box4 hres6 (.int .i64 0) (.slice none 0 0) (.slice none 0 0) (.slice none 0 0))
      have HB6 := Aside0.mk (below_alloc (below_set4 (i0 := 0) (i1 := 1) (i2 := 2) (i3 := 3) (u0 := .int .i64 0) (u1 := .slice none 0 0) (u2 := .slice none 0 0) (u3 := .slice none 0 0) (below_step HB5.out hB6) (Nat.le_succ W.heap.size)) (.cells zeroN 26))
      have hrb6 : W.heap.size + 1 < w6.heap.size := blk_lt hres6
      obtain ⟨e0, e0f, e1, e1f, e2, e2f, e3, e3f⟩ := slots4 hres6 (.int .i64 0) (.slice none 0 0) (.slice none 0 0)
      clear hres6 hB6 k1
      go_wp2
      have h4 := res4a HZ.out (.cells zeroN 26)
      exact bodyPost_ret (v := .tuple #[.agg #[.int .i64 0, .slice none 0 0, .slice none 0 0, .slice none 0 0], .int .i64 21]) (by simp [results, Tryd.results91, go_sem, h4]) rfl (OnePost.bad HE.out (below_grown HB6.out))
  · have HE := Aside0.mk (show changeN a.nodes base o = (nodez, 21) from if_neg (fun hh => hem hh.1))
    rw [Bool.eq_false_iff.2 hem]
    have HZ := Aside0.mk (box4 HRes5.out (.int .i64 0) (.slice none 0 0) (.slice none 0 0) (.slice none 0 0))
    have HB6 := Aside0.mk (below_set4 (i0 := 0) (i1 := 1) (i2 := 2) (i3 := 3) (u0 := .int .i64 0) (u1 := .slice none 0 0) (u2 := .slice none 0 0) (u3 := .slice none 0 0) HB5.out (Nat.le_succ W.heap.size))
    obtain ⟨e0, e0f, e1, e1f, e2, e2f, e3, e3f⟩ := slots4 HRes5.out (.int .i64 0) (.slice none 0 0) (.slice none 0 0)
    clear hem k1
    go_wp2
    have h4 := res4 HZ.out
    exact bodyPost_ret (v := .tuple #[.agg #[.int .i64 0, .slice none 0 0, .slice none 0 0, .slice none 0 0], .int .i64 21]) (by simp [results, Tryd.results91, go_sem, h4]) rfl (OnePost.bad HE.out (below_grown HB6.out))
end
end Go.Proofs.YtglfebpgdghlfaaDoor.L
end
section
namespace Go.Proofs.YtglfebpgdghlfaaDoor.L
open Go.RowKit Go.ChangeShapes Go.WideShapes Go.Proofs.YtglfebpgdghlfaaDoorW.PrintWords Go.Proofs.YtglfebpgdghlfaaDoorW.PrintLast Go.Proofs.YtglfebpgdghlfaaDoorW.PrintMore
attribute [local go_sem] max2_int min2_int max_two min_two max_three min_three max_four min_four
def OkN (b : Nat) (n : Node) : Prop := n.ints.length ≤ 1000000 ∧ n.texts.length ≤ 1000000 ∧ n.kids.length ≤ b ∧ ∀ x ∈ n.texts, x.size ≤ 1000000
theorem OkN.small {b : Nat} {n : Node} (h : OkN b n) (hb : b ≤ 1000000) : Small n := ⟨h.1, h.2.1, Nat.le_trans h.2.2.1 hb⟩
theorem OkN.texts {b : Nat} {n : Node} (h : OkN b n) : TextsSmall n := fun j hj => by
  have h1 : str n.texts j = n.texts[j] := by unfold str; rw [List.getD_eq_getElem?_getD, List.getElem?_eq_getElem hj]; rfl
  rw [h1]
  exact h.2.2.2 _ (List.getElem_mem hj)
structure OpOk (o : Opn) : Prop where
  node : OkN 5000 o.node
  sets : o.sets.length ≤ 1000000
  script : o.script.length ≤ 1000
  strs : ∀ x ∈ o.sets, x.s.size ≤ 1000000
  k0 : -9223372036854775808 ≤ o.kind
  k1 : o.kind ≤ 9223372036854775807
  b0 : -9223372036854775808 ≤ o.base
  b1 : o.base ≤ 9223372036854775807
theorem setOne_texts {n m : Node} {x : SetV} (h : setOne n x = some m) : ∀ y ∈ m.texts, y ∈ n.texts ∨ y = x.s := by
  unfold setOne at h
  split at h
  · split at h
    · injection h with h
      subst h
      intro y hy
      rcases List.mem_or_eq_of_mem_set hy with h | h
      · exact .inl h
      · exact .inr h
    · cases h
  · split at h
    · injection h with h
      subst h
      exact fun y hy => .inl hy
    · cases h
theorem setAll_texts {l : List SetV} : ∀ {n m : Node}, setAll n l = some m → ∀ y ∈ m.texts, y ∈ n.texts ∨ ∃ x ∈ l, y = x.s := by
  induction l with
  | nil => intro n m h; injection h with h; subst h; exact fun y hy => .inl hy
  | cons x l ih =>
    intro n m h
    have h' : l.foldl setStep (setOne n x) = some m := h
    cases hx : setOne n x with
    | none =>
      rw [hx] at h'
      have hn : ∀ r : List SetV, r.foldl setStep none = none := fun r => by
        induction r with
        | nil => rfl
        | cons y r ih => exact ih
      rw [hn] at h'
      cases h'
    | some n1 =>
      rw [hx] at h'
      intro y hy
      rcases ih (n := n1) h' y hy with h1 | ⟨z, hz, e⟩
      · rcases setOne_texts hx y h1 with h2 | h2
        · exact .inl h2
        · exact .inr ⟨x, by simp, h2⟩
      · exact .inr ⟨z, by simp [hz], e⟩
theorem runE_len {a : List Int} {l : List Ed} : ∀ k, k ≤ l.length → ∀ o r, runE a (l.take k) = some (o, r) → o.length + r.length ≤ a.length + k := fun k => by
  induction k with
  | zero => intro _ o r h; rw [List.take_zero] at h; injection h with h; injection h with h1 h2; subst h1 h2; simp
  | succ k ih =>
    intro hk o r h
    rw [runE_step (by omega)] at h
    cases hp : runE a (l.take k) with
    | none => rw [hp] at h; cases h
    | some q =>
      obtain ⟨o1, r1⟩ := q
      have h1 := ih (by omega) o1 r1 hp
      rw [hp] at h
      unfold stepE at h
      simp only [] at h
      split at h
      · injection h with h; injection h with h2 h3; subst h2 h3; simp; omega
      · split at h
        · rename_i hh
          injection h with h; injection h with h2 h3; subst h2 h3
          rw [List.length_append, List.length_drop]
          split
          · rw [List.length_take]; omega
          · simp; omega
        · cases h
theorem app_len (a : List Int) (l : List Ed) : (app a l).1.length ≤ a.length + l.length := by
  unfold app
  split
  · rename_i o h
    have := runE_len (a := a) (l := l) l.length (Nat.le_refl _) o [] (by rw [List.take_length]; exact h)
    simpa using this
  · simp
theorem oneN_ok {a : List Node} {base : List Int} {o : Opn} (ha : ∀ i : Nat, i < a.length → OkN 4000 (nd a i)) (ho : OpOk o) (h0 : (oneN a base o).2 = 0) : OkN 5000 (oneN a base o).1 := by
  have img_ok : ∀ p : Int, takes a.length base p = true → OkN 4000 (imgN base (nd a p.toNat)) := fun p hp => by
    obtain ⟨h1, h2, _⟩ := of_decide_eq_true hp
    have h3 := ha p.toNat (by omega)
    exact ⟨h3.1, h3.2.1, by show (List.map _ _).length ≤ _; rw [List.length_map]; exact h3.2.2.1, h3.2.2.2⟩
  have bad : ∀ {b : Nat}, OkN b nodez := fun {b} => ⟨by simp [nodez], by simp [nodez], by simp [nodez], fun x hx => by simp [nodez] at hx⟩
  unfold oneN
  split
  · unfold keepN
    split
    · rename_i h
      have h1 := img_ok _ h.2.2.2
      exact ⟨h1.1, h1.2.1, Nat.le_trans h1.2.2.1 (by omega), h1.2.2.2⟩
    · exact bad
  · split
    · unfold changeN
      split
      · rename_i h
        have h1 := img_ok _ h.2
        unfold editN
        split
        · exact bad
        · rename_i m hm
          obtain ⟨g1, g2, g3, g4⟩ := setAll_kids hm
          have gt := setAll_texts hm
          split
          · refine ⟨by show m.ints.length ≤ _; rw [g2]; exact h1.1, by show m.texts.length ≤ _; rw [g3]; exact h1.2.1, ?_, fun x hx => ?_⟩
            · have := app_len m.kids o.script
              rw [g1] at this
              have h2 := h1.2.2.1
              have h3 := ho.script
              show (app m.kids o.script).1.length ≤ 5000
              rw [g1]
              omega
            · rcases gt x hx with h2 | ⟨y, hy, e⟩
              · exact h1.2.2.2 x h2
              · rw [e]; exact ho.strs y hy
          · exact bad
      · exact bad
    · split
      · unfold freshN
        split
        · exact ho.node
        · exact bad
      · exact bad
theorem rows_ok {out : List Node} (h : ∀ i : Nat, i < out.length → OkN 5000 (nd out i)) (hn : out.length ≤ 60) : rows out ≤ 400000 := by
  have h1 : rows out ≤ out.length * (5000 + 1) := by
    unfold rows
    have key : ∀ l : List Nat, (∀ x ∈ l, wt out x ≤ 5001) → (l.map (wt out)).sum ≤ l.length * 5001 := fun l => by
      induction l with
      | nil => intro _; simp
      | cons x l ih =>
        intro hl
        have h2 := ih (fun y hy => hl y (by simp [hy]))
        have h3 := hl x (by simp)
        rw [List.map_cons, List.sum_cons, List.length_cons, Nat.succ_mul]
        omega
    have := key (List.range out.length) (fun x hx => by
      have := (h x (List.mem_range.1 hx)).2.2.1
      unfold wt
      omega)
    rwa [List.length_range] at this
  have h2 : out.length * 5001 ≤ 60 * 5001 := Nat.mul_le_mul hn (Nat.le_refl _)
  omega
theorem nd_snoc {out : List Node} {m : Node} {P : Node → Prop} (h : ∀ i : Nat, i < out.length → P (nd out i)) (hm : P m) : ∀ i : Nat, i < (out ++ [m]).length → P (nd (out ++ [m]) i) := fun i hi => by
  rw [List.length_append, List.length_singleton] at hi
  by_cases e : i < out.length
  · have : nd (out ++ [m]) i = nd out i := by unfold nd; rw [List.getD_eq_getElem?_getD, List.getD_eq_getElem?_getD, List.getElem?_append_left e]
    rw [this]; exact h i e
  · have e' : i = out.length := by omega
    have : nd (out ++ [m]) i = m := by unfold nd; rw [List.getD_eq_getElem?_getD, List.getElem?_append_right (by omega), e']; simp
    rw [this]; exact hm
end Go.Proofs.YtglfebpgdghlfaaDoor.L
end
section
namespace Go.Proofs.YtglfebpgdghlfaaDoor.L
open Go.RowKit Go.ChangeShapes Go.WideShapes Go.Proofs.YtglfebpgdghlfaaDoorW.PrintWords Go.Proofs.YtglfebpgdghlfaaDoorW.PrintLast Go.Proofs.YtglfebpgdghlfaaDoorW.PrintMore
attribute [local go_sem] max2_int min2_int max_two min_two max_three min_three max_four min_four
theorem NodePost.bad {r : Node × Int} {w w' : World} (hr : r = (nodez, 21)) (hB : Below w.heap.size w w') : NodePost r w (.returned (.tuple #[.agg #[.int .i64 0, .slice none 0 0, .slice none 0 0, .slice none 0 0], .int .i64 21])) w' := by
  subst hr
  exact ⟨_, _, _, rfl, nodez_M _ _, hB⟩
structure OneBx (w : World) (A : Option Addr) (c : Nat) (a : Scene) (cs : Array Value) (W : World) : Prop where
  below : Below w.heap.size w W
  sb : W.heap[w.heap.size]? = some (.cells #[.slice A a.nodes.length c, .int .i64 a.root] 39 (0, 0))
  ob : W.heap[w.heap.size + 1]? = some (.cells cs 61 (0, 0))
  res : W.heap[w.heap.size + 2]? = some (.cells zeroN 26 (0, 0))
  non : W.heap[w.heap.size + 3]? = some (.cells zeroN 26 (0, 0))
theorem OneBx.later {w : World} {A : Option Addr} {c : Nat} {a : Scene} {cs : Array Value} {W W1 : World} (h : OneBx w A c a cs W) (hb : Below W.heap.size W W1) : OneBx w A c a cs W1 :=
  ⟨below_step h.below hb, (hb.block _ (blk_lt h.sb)).trans h.sb, (hb.block _ (blk_lt h.ob)).trans h.ob, (hb.block _ (blk_lt h.res)).trans h.res, (hb.block _ (blk_lt h.non)).trans h.non⟩
theorem OneBx.far {w : World} {A : Option Addr} {c : Nat} {a : Scene} {cs : Array Value} {W : World} {g i : Nat} (h : OneBx w A c a cs W) (hg : w.heap.size + 3 < g) (u : Value) : OneBx w A c a cs (W.setCell ⟨g, i, none⟩ u) :=
  ⟨below_set h.below (by omega), (Below.heap_setCell W ⟨g, i, none⟩ u _ (by show w.heap.size ≠ g; omega)).trans h.sb, (Below.heap_setCell W ⟨g, i, none⟩ u _ (by show w.heap.size + 1 ≠ g; omega)).trans h.ob, (Below.heap_setCell W ⟨g, i, none⟩ u _ (by show w.heap.size + 2 ≠ g; omega)).trans h.res, (Below.heap_setCell W ⟨g, i, none⟩ u _ (by show w.heap.size + 3 ≠ g; omega)).trans h.non⟩
theorem OneBx.far4 {w : World} {A : Option Addr} {c : Nat} {a : Scene} {cs : Array Value} {W : World} {g i0 i1 i2 i3 : Nat} (h : OneBx w A c a cs W) (hg : w.heap.size + 3 < g) (u0 u1 u2 u3 : Value) : OneBx w A c a cs ((((W.setCell ⟨g, i0, none⟩ u0).setCell ⟨g, i1, none⟩ u1).setCell ⟨g, i2, none⟩ u2).setCell ⟨g, i3, none⟩ u3) :=
  (((h.far hg u0).far hg u1).far hg u2).far hg u3
theorem OutRel.m {m : Node} {v1 v2 v3 : Value} {w : World} {rb g : Nat} {W : World} (h : OutRel m v1 v2 v3 w rb g W) : kNode.M W w.heap.size (fun _ => True) m [.int .i64 m.kind, v1, v2, v3] := kNode_mkM h.r1 h.r2 h.r3
end Go.Proofs.YtglfebpgdghlfaaDoor.L
end
section
namespace Go.Proofs.YtglfebpgdghlfaaDoor.L
open Go.RowKit Go.ChangeShapes Go.WideShapes Go.Proofs.YtglfebpgdghlfaaDoorW.PrintWords Go.Proofs.YtglfebpgdghlfaaDoorW.PrintLast Go.Proofs.YtglfebpgdghlfaaDoorW.PrintMore
attribute [local go_sem] max2_int min2_int max_two min_two max_three min_three max_four min_four
open Go.Proofs.YtglfebpgdghlfaaDoor.PUpgradeUps
structure LedInv (ns : List Node) (K : List Int) (met : List Bool) (vs work : List Int) : Prop where
  len : met.length = ns.length
  tell : ∀ i : Nat, i < ns.length → rdOf false met (i : Int) = decide ((i : Int) ∈ vs)
  vpl : ∀ x ∈ vs, 0 ≤ x ∧ x < (ns.length : Int)
  wpl : ∀ x ∈ work, 0 ≤ x ∧ x < (ns.length : Int)
  vin : ∀ x ∈ vs, Rch ns K x
  win : ∀ x ∈ work, Rch ns K x
  k0 : ∀ k ∈ K, k ∈ vs ∨ k ∈ work
  clo : ∀ x ∈ vs, ∀ k ∈ kids ns x, k ∈ vs ∨ k ∈ work
theorem LedInv.done {ns : List Node} {K : List Int} {met : List Bool} {vs : List Int} (h : LedInv ns K met vs []) (x : Int) : Rch ns K x ↔ x ∈ vs := by
  refine ⟨fun hr => ?_, h.vin x⟩
  induction hr with
  | base hk => exact (h.k0 _ hk).resolve_right (by simp)
  | step _ hk ih => exact (h.clo _ ih _ hk).resolve_right (by simp)
theorem LedInv.meet {ns : List Node} {K : List Int} {met : List Bool} {vs work : List Int} {x : Int} (hP : Places ns) (h : LedInv ns K met vs (x :: work)) (hx : ¬ x ∈ vs) : LedInv ns K (met.set x.toNat true) (x :: vs) (work ++ kids ns x) := by
  have hxp := h.wpl x (by simp)
  obtain ⟨q, rfl⟩ : ∃ q : Nat, x = (q : Int) := ⟨x.toNat, by omega⟩
  have hkp : ∀ k ∈ kids ns q, 0 ≤ k ∧ k < (ns.length : Int) := fun k hk => hP q (by omega) k hk
  refine ⟨by rw [List.length_set]; exact h.len, fun i hi => ?_, fun y hy => ?_, fun y hy => ?_, fun y hy => ?_, fun y hy => ?_, fun k hk => ?_, fun y hy k hk => ?_⟩
  · have ht := h.tell i hi
    unfold rdOf at ht ⊢
    rw [Int.toNat_natCast] at ht ⊢
    rw [Int.toNat_natCast, List.getD_eq_getElem?_getD, List.getElem?_set]
    rw [List.getD_eq_getElem?_getD] at ht
    by_cases e : q = i
    · subst e
      rw [if_pos rfl, if_pos (by rw [h.len]; exact hi)]
      simp
    · rw [if_neg e, ht]
      have : ((i : Int) ∈ (q : Int) :: vs) ↔ (i : Int) ∈ vs := by
        rw [List.mem_cons]
        exact ⟨fun h => h.resolve_left (fun e' => e (by omega)), .inr⟩
      exact decide_eq_decide.2 this.symm
  · rcases List.mem_cons.1 hy with rfl | hy
    · exact hxp
    · exact h.vpl y hy
  · rcases List.mem_append.1 hy with hy | hy
    · exact h.wpl y (by simp [hy])
    · exact hkp y hy
  · rcases List.mem_cons.1 hy with rfl | hy
    · exact h.win _ (by simp)
    · exact h.vin y hy
  · rcases List.mem_append.1 hy with hy | hy
    · exact h.win y (by simp [hy])
    · exact .step (h.win _ (List.mem_cons_self)) hy
  · rcases h.k0 k hk with hm | hm
    · exact .inl (by simp [hm])
    · rcases List.mem_cons.1 hm with rfl | hm
      · exact .inl (by simp)
      · exact .inr (by simp [hm])
  · rcases List.mem_cons.1 hy with rfl | hy
    · exact .inr (by simp [hk])
    · rcases h.clo y hy k hk with hm | hm
      · exact .inl (by simp [hm])
      · rcases List.mem_cons.1 hm with rfl | hm
        · exact .inl (by simp)
        · exact .inr (by simp [hm])
end Go.Proofs.YtglfebpgdghlfaaDoor.L
end
section
namespace Go.Proofs.YtglfebpgdghlfaaDoor.L
open Go.RowKit Go.ChangeShapes Go.WideShapes Go.Proofs.YtglfebpgdghlfaaDoorW.PrintWords Go.Proofs.YtglfebpgdghlfaaDoorW.PrintLast Go.Proofs.YtglfebpgdghlfaaDoorW.PrintMore
attribute [local go_sem] max2_int min2_int max_two min_two max_three min_three max_four min_four
open Go.Proofs.YtglfebpgdghlfaaDoor.PUpgradeUps
structure Iso (ns ms : List Node) (f : Int → Int) : Prop where
  len : ns.length = ms.length
  pl : ∀ x, Pl ms x → Pl ns (f x)
  inj : ∀ x y, Pl ms x → Pl ms y → f x = f y → x = y
  nd : ∀ x, Pl ms x → nd ns (f x).toNat = ⟨(nd ms x.toNat).kind, (nd ms x.toNat).ints, (nd ms x.toNat).texts, (kids ms x).map f⟩
theorem Iso.kids {ns ms : List Node} {f : Int → Int} (h : Iso ns ms f) {x : Int} (hx : Pl ms x) : L.kids ns (f x) = (L.kids ms x).map f := by
  show (L.nd ns (f x).toNat).kids = _
  rw [h.nd x hx]
theorem Iso.mem {ns ms : List Node} {f : Int → Int} (h : Iso ns ms f) {x : Int} (hx : Pl ms x) {l : List Int} (hl : ∀ y ∈ l, Pl ms y) : f x ∈ l.map f ↔ x ∈ l := by
  refine ⟨fun hm => ?_, fun hm => List.mem_map_of_mem hm⟩
  obtain ⟨y, hy, e⟩ := List.mem_map.1 hm
  rw [h.inj x y hx (hl y hy) e.symm]; exact hy
theorem kids_pl {ms : List Node} (hP : Places ms) {x : Int} (hx : Pl ms x) : ∀ k ∈ kids ms x, Pl ms k := fun k hk => hP x.toNat (by have := hx.1; have := hx.2; omega) k hk
theorem Iso.meet {ns ms : List Node} {f : Int → Int} (h : Iso ns ms f) (hP : Places ms) : ∀ (m : Nat) (a : Int) (met : List Int), Pl ms a → (∀ x ∈ met, Pl ms x) →
    L.meet ns m (f a) (met.map f) = (L.meet ms m a met).map f ∧ ∀ x ∈ L.meet ms m a met, Pl ms x
  | 0, a, met, _, hm => ⟨rfl, hm⟩
  | m + 1, a, met, ha, hm => by
    unfold L.meet
    by_cases hin : a ∈ met
    · rw [if_pos hin, if_pos ((h.mem ha hm).2 hin)]
      exact ⟨rfl, hm⟩
    · rw [if_neg hin, if_neg (fun e => hin ((h.mem ha hm).1 e)), h.kids ha, List.foldl_map]
      have key : ∀ (l met : List Int), (∀ k ∈ l, Pl ms k) → (∀ x ∈ met, Pl ms x) →
          l.foldl (fun v k => L.meet ns m (f k) v) (met.map f) = (l.foldl (fun v k => L.meet ms m k v) met).map f ∧ ∀ x ∈ l.foldl (fun v k => L.meet ms m k v) met, Pl ms x := by
        intro l
        induction l with
        | nil => intro met _ hm; exact ⟨rfl, hm⟩
        | cons k l ih =>
          intro met hl hm
          obtain ⟨e1, e2⟩ := Iso.meet h hP m k met (hl k (by simp)) hm
          rw [List.foldl_cons, List.foldl_cons, e1]
          exact ih _ (fun y hy => hl y (by simp [hy])) e2
      obtain ⟨e1, e2⟩ := key (L.kids ms a) met (kids_pl hP ha) hm
      refine ⟨?_, fun x hx => ?_⟩
      · rw [List.map_append, ← e1]; rfl
      · rcases List.mem_append.1 hx with hx | hx
        · exact e2 x hx
        · rw [List.mem_singleton.1 hx]; exact ha
theorem Iso.rch {ns ms : List Node} {f : Int → Int} (h : Iso ns ms f) (hP : Places ms) {l : List Int} (hl : ∀ k ∈ l, Pl ms k) {x : Int} (hr : Rch ms l x) : Rch ns (l.map f) (f x) ∧ Pl ms x := by
  induction hr with
  | base hk => exact ⟨.base (List.mem_map_of_mem hk), hl _ hk⟩
  | step _ hk ih => exact ⟨.step ih.1 (by rw [h.kids ih.2]; exact List.mem_map_of_mem hk), kids_pl hP ih.2 _ hk⟩
theorem Iso.dag {ns ms : List Node} {f : Int → Int} (h : Iso ns ms f) (hP : Places ms) (hc : ∀ p : Nat, p < ns.length → ¬ Cyc ns p) : Dag ms := by
  refine ⟨hP, fun p hp hcy => ?_⟩
  have hx : Pl ms (p : Int) := ⟨by omega, by omega⟩
  have h1 := (h.rch hP (kids_pl hP hx) hcy).1
  rw [← h.kids hx] at h1
  have hpl := h.pl _ hx
  obtain ⟨q, hq⟩ : ∃ q : Nat, f (p : Int) = (q : Int) := ⟨(f p).toNat, by have := hpl.1; omega⟩
  rw [hq] at h1 hpl
  exact hc q (by have := hpl.2; omega) h1
theorem idxOf_map {f : Int → Int} {P : Int → Prop} (hf : ∀ x y, P x → P y → f x = f y → x = y) {k : Int} (hk : P k) : ∀ l : List Int, (∀ y ∈ l, P y) → (l.map f).idxOf (f k) = l.idxOf k
  | [], _ => rfl
  | y :: l, h => by
    rw [List.map_cons, List.idxOf_cons, List.idxOf_cons, idxOf_map hf hk l (fun z hz => h z (by simp [hz]))]
    by_cases e : y = k
    · rw [e]; simp
    · have : ¬ f y = f k := fun e' => e (hf y k (h y (by simp)) hk e')
      rw [beq_eq_false_iff_ne.2 e, beq_eq_false_iff_ne.2 this]
theorem Iso.ord {s t : Scene} {f : Int → Int} (h : Iso s.nodes t.nodes f) (hP : Places t.nodes) (hr : Pl t.nodes t.root) (he : s.root = f t.root) : L.ord s = (L.ord t).map f ∧ ∀ x ∈ L.ord t, Pl t.nodes x := by
  unfold L.ord M
  rw [he, h.len]
  exact h.meet hP _ _ [] hr (fun x hx => by simp at hx)
theorem Iso.canonL {s t : Scene} {f : Int → Int} (h : Iso s.nodes t.nodes f) (hP : Places t.nodes) (hr : Pl t.nodes t.root) (he : s.root = f t.root) : L.canonL s = L.canonL t := by
  obtain ⟨ho, hop⟩ := h.ord hP hr he
  unfold L.canonL
  rw [ho, List.map_map]
  refine List.map_congr_left (fun a ha => ?_)
  have hap := hop a ha
  show relab s (L.nd s.nodes (f a).toNat) = relab t (L.nd t.nodes a.toNat)
  unfold relab
  rw [h.nd a hap]
  show Node.mk _ _ _ _ = Node.mk _ _ _ _
  congr 1
  rw [List.map_map]
  refine List.map_congr_left (fun k hk => ?_)
  show ((idx s (f k) : Nat) : Int) = (idx t k : Int)
  unfold idx
  rw [ho, idxOf_map (P := Pl t.nodes) h.inj (kids_pl hP hap k hk) _ hop]
theorem Shut.len {ns : List Node} {m : List Int} (h : Shut ns m) : m.length ≤ ns.length := nodup_len h.nd h.pl
end Go.Proofs.YtglfebpgdghlfaaDoor.L
end
section
namespace Go.Proofs.YtglfebpgdghlfaaDoor.L
open Go.RowKit Go.ChangeShapes Go.WideShapes Go.Proofs.YtglfebpgdghlfaaDoorW.PrintWords Go.Proofs.YtglfebpgdghlfaaDoorW.PrintLast Go.Proofs.YtglfebpgdghlfaaDoorW.PrintMore
attribute [local go_sem] max2_int min2_int max_two min_two max_three min_three max_four min_four
open Go.Proofs.YtglfebpgdghlfaaDoor.PUpgradeUps
def isTr (n : Node) : Bool := decide (n.kind = 2)
def lows (ns : List Node) (n : Nat) : List Nat := (List.range n).filter (fun p => isTr (nd ns p))
def cnt (ns : List Node) (n : Nat) : Nat := (lows ns n).length
end Go.Proofs.YtglfebpgdghlfaaDoor.L
end
section
namespace Go.Proofs.YtglfebpgdghlfaaDoor.L
open Go.RowKit Go.ChangeShapes Go.WideShapes Go.Proofs.YtglfebpgdghlfaaDoorW.PrintWords Go.Proofs.YtglfebpgdghlfaaDoorW.PrintLast Go.Proofs.YtglfebpgdghlfaaDoorW.PrintMore
attribute [local go_sem] max2_int min2_int max_two min_two max_three min_three max_four min_four
def maxl (l : List Nat) : Nat := l.foldl max 0
theorem maxl_snoc (l : List Nat) (x : Nat) : maxl (l ++ [x]) = max (maxl l) x := by unfold maxl; rw [List.foldl_append]; rfl
theorem foldl_max_le {l : List Nat} {b x : Nat} (hb : b ≤ x) (h : ∀ y ∈ l, y ≤ x) : l.foldl max b ≤ x := by
  induction l generalizing b with
  | nil => exact hb
  | cons y l ih => exact ih (Nat.max_le.2 ⟨hb, h y (by simp)⟩) (fun z hz => h z (by simp [hz]))
theorem maxl_le {l : List Nat} {x : Nat} (h : ∀ y ∈ l, y ≤ x) : maxl l ≤ x := foldl_max_le (Nat.zero_le _) h
def hgt (ns : List Node) : Nat → Int → Nat
  | 0, _ => 0
  | f + 1, a => maxl ((kids ns a).map (hgt ns f)) + 1
theorem hgt_fuel {ns : List Node} (h : Dag ns) : ∀ (f g : Nat) (a : Int), Pl ns a → reachN ns a < f → reachN ns a < g → hgt ns f a = hgt ns g a
  | 0, _, _, _, hf, _ => by omega
  | f + 1, 0, _, _, _, hg => by omega
  | f + 1, g + 1, a, ha, hf, hg => by
    unfold hgt
    congr 2
    exact List.map_congr_left (fun k hk => hgt_fuel h f g k (h.kid ha hk) (by have := h.lower ha hk; omega) (by have := h.lower ha hk; omega))
def H (ns : List Node) (a : Int) : Nat := hgt ns (ns.length + 1) a
theorem H_eq {ns : List Node} (h : Dag ns) {a : Int} (ha : Pl ns a) : H ns a = maxl ((kids ns a).map (H ns)) + 1 := by
  unfold H
  conv => lhs; unfold hgt
  congr 2
  refine List.map_congr_left (fun k hk => hgt_fuel h _ _ k (h.kid ha hk) ?_ ?_)
  · have := h.lower ha hk; have := reachN_le ns a; omega
  · have := reachN_le ns k; omega
theorem H_le {ns : List Node} (h : Dag ns) : ∀ (N : Nat) (a : Int), reachN ns a < N → Pl ns a → H ns a ≤ N
  | 0, _, hN, _ => by omega
  | N + 1, a, hN, ha => by
    rw [H_eq h ha]
    refine Nat.succ_le_succ (maxl_le (fun y hy => ?_))
    obtain ⟨k, hk, rfl⟩ := List.mem_map.1 hy
    exact H_le h N k (by have := h.lower ha hk; omega) (h.kid ha hk)
theorem H_bound {ns : List Node} (h : Dag ns) {a : Int} (ha : Pl ns a) : H ns a ≤ ns.length + 1 := H_le h _ a (Nat.lt_succ_of_le (reachN_le ns a)) ha
noncomputable def depthS (s : Scene) : Int := if (gcheck s).1 = 0 then (H s.nodes s.root : Int) else 0
structure DpInv (ns : List Node) (L : List Int) (i j : Nat) (deep : List Int) : Prop where
  len : deep.length = ns.length
  tell : ∀ p : Nat, p < ns.length → (p : Int) ∈ L.take i → rd deep (p : Int) = (H ns (p : Int) : Int)
  rest : ∀ p : Nat, p < ns.length → ¬ (p : Int) ∈ L.take i → rd deep (p : Int) = if rd L (i : Int) = (p : Int) ∧ i < L.length then (maxl (((kids ns (p : Int)).take j).map (H ns)) : Int) else 0
theorem rd_setN {l : List Int} {q p : Nat} {v : Int} (hq : q < l.length) : rd (l.set q v) (p : Int) = if p = q then v else rd l (p : Int) := by
  unfold rd
  rw [Int.toNat_natCast, List.getD_eq_getElem?_getD, List.getD_eq_getElem?_getD, List.getElem?_set]
  by_cases e : p = q
  · subst e; rw [if_pos rfl, if_pos rfl, if_pos hq]; rfl
  · rw [if_neg e, if_neg (fun h => e h.symm)]
theorem DpInv.start (ns : List Node) (L : List Int) : DpInv ns L 0 0 (List.replicate ns.length 0) := by
  have hz : ∀ p : Nat, rd (List.replicate ns.length 0) (p : Int) = 0 := fun p => by
    unfold rd
    rw [Int.toNat_natCast, List.getD_eq_getElem?_getD, List.getElem?_replicate]
    split <;> rfl
  refine ⟨by simp, fun p _ h => by simp at h, fun p _ _ => ?_⟩
  rw [hz]
  split
  · rw [List.take_zero]; rfl
  · rfl
theorem take_not {L : List Int} (hnd : L.Nodup) {i : Nat} (hi : i < L.length) : ¬ rd L (i : Int) ∈ L.take i := fun hm => by
  obtain ⟨m, hm', e⟩ := List.getElem_of_mem hm
  rw [List.length_take] at hm'
  rw [List.getElem_take, rd_eq hi] at e
  have := (List.getElem_inj hnd).1 e
  omega
theorem DpInv.kid {ns : List Node} {L : List Int} {i j q k : Nat} {deep : List Int} (hT : Topo ns L) (h : DpInv ns L i j deep) (hi : i < L.length) (hq : rd L (i : Int) = (q : Int)) (hqn : q < ns.length) (hj : j < (kids ns (q : Int)).length) (hk : rd (kids ns (q : Int)) (j : Int) = (k : Int)) (hkn : k < ns.length) :
    rd deep (q : Int) = (maxl (((kids ns (q : Int)).take j).map (H ns)) : Int) ∧ rd deep (k : Int) = (H ns (k : Int) : Int) ∧ DpInv ns L i (j + 1) (deep.set q ((max (maxl (((kids ns (q : Int)).take j).map (H ns))) (H ns (k : Int)) : Nat) : Int)) := by
  have hnq : ¬ (q : Int) ∈ L.take i := by rw [← hq]; exact take_not hT.nd hi
  have h1 := h.rest q hqn hnq
  rw [if_pos ⟨hq, hi⟩] at h1
  have hkm : (k : Int) ∈ L.take i := by
    refine hT.ahead i hi _ ?_
    rw [hq, ← hk]
    exact rd_mem hj
  refine ⟨h1, h.tell k hkn hkm, by rw [List.length_set]; exact h.len, fun p hp hm => ?_, fun p hp hm => ?_⟩
  · rw [rd_setN (by rw [h.len]; exact hqn), if_neg (fun e => hnq (by rw [← e]; exact hm))]
    exact h.tell p hp hm
  · rw [rd_setN (by rw [h.len]; exact hqn)]
    by_cases e : p = q
    · subst e
      rw [if_pos rfl, if_pos ⟨hq, hi⟩, take_succ_rd hj, List.map_append, hk]
      show _ = ((maxl (_ ++ [H ns (k : Int)]) : Nat) : Int)
      rw [maxl_snoc]
    · have h2 := h.rest p hp hm
      rw [if_neg (fun hh => e (by have := hh.1; rw [hq] at this; omega))] at h2
      rw [if_neg e, if_neg (fun hh => e (by have := hh.1; rw [hq] at this; omega))]
      exact h2
theorem DpInv.node {ns : List Node} {L : List Int} {i q : Nat} {deep : List Int} (hd : Dag ns) (hT : Topo ns L) (h : DpInv ns L i (kids ns (q : Int)).length deep) (hi : i < L.length) (hq : rd L (i : Int) = (q : Int)) (hqn : q < ns.length) :
    rd deep (q : Int) + 1 = (H ns (q : Int) : Int) ∧ DpInv ns L (i + 1) 0 (deep.set q (H ns (q : Int) : Int)) := by
  have hnq : ¬ (q : Int) ∈ L.take i := by rw [← hq]; exact take_not hT.nd hi
  have h1 := h.rest q hqn hnq
  rw [if_pos ⟨hq, hi⟩, List.take_length] at h1
  have hH := H_eq hd (a := (q : Int)) ⟨by omega, by omega⟩
  have htk : L.take (i + 1) = L.take i ++ [(q : Int)] := by rw [take_succ_rd hi, hq]
  refine ⟨by rw [h1, hH]; rfl, by rw [List.length_set]; exact h.len, fun p hp hm => ?_, fun p hp hm => ?_⟩
  · rw [rd_setN (by rw [h.len]; exact hqn)]
    by_cases e : p = q
    · subst e; rw [if_pos rfl]
    · rw [if_neg e]
      rw [htk] at hm
      rcases List.mem_append.1 hm with hm | hm
      · exact h.tell p hp hm
      · exact absurd (List.mem_singleton.1 hm) (fun e' => e (by omega))
  · rw [htk] at hm
    have e : ¬ p = q := fun e => hm (by rw [e]; simp)
    rw [rd_setN (by rw [h.len]; exact hqn), if_neg e, List.take_zero]
    have h2 := h.rest p hp (fun hh => hm (List.mem_append_left _ hh))
    rw [if_neg (fun hh => e (by have := hh.1; rw [hq] at this; omega))] at h2
    rw [h2]
    split <;> rfl
structure DpRel (s : Scene) (L : List Int) (w : World) (A : Option Addr) (c g cd : Nat) (Ao : Option Addr) (co i j : Nat) (deep : List Int) (W : World) : Prop where
  inv : DpInv s.nodes L i j deep
  row : (Kd.int .i64).R 3 W w.heap.size (fun _ => True) (.slice (some ⟨g, 0, none⟩) s.nodes.length cd) deep
  ord : (Kd.int .i64).R 3 W w.heap.size (fun k => k ≠ g) (.slice Ao L.length co) L
  box : W.heap[w.heap.size]? = some (.cells #[.slice A s.nodes.length c, .int .i64 s.root] 39 (0, 0))
  below : Below w.heap.size w W
theorem DpRel.drew {s : Scene} {L : List Int} {w : World} {A : Option Addr} {c g cd : Nat} {Ao : Option Addr} {co i j : Nat} {deep : List Int} {W : World} (h : DpRel s L w A c g cd Ao co i j deep W) : DpRel s L w A c g cd Ao co i j deep W.drew :=
  ⟨h.inv, Kd.R_drew h.row, Kd.R_drew h.ord, h.box, below_drew h.below⟩
theorem DpRel.put {s : Scene} {L : List Int} {w : World} {A : Option Addr} {c g cd : Nat} {Ao : Option Addr} {co i j i' j' q : Nat} {deep : List Int} {W : World} {v : Int} (h : DpRel s L w A c g cd Ao co i j deep W) (hq : q < s.nodes.length) (hi : DpInv s.nodes L i' j' (deep.set q v)) :
    DpRel s L w A c g cd Ao co i' j' (deep.set q v) (W.setCell ⟨g, q, none⟩ (.int .i64 v)) := by
  obtain ⟨s1, s2, s3⟩ := ints_store h.row q hq v
  exact ⟨hi, s1, Kd.R_far (p := ⟨g, q, none⟩) h.ord (fun k hk => hk) _, blk_grown h.box s2 (Kd.R_ne h.row h.box (by decide)), below_set h.below s3⟩
set_option maxRecDepth 100000 in
set_option maxHeartbeats 8000000 in
theorem depth_any (A : Option Addr) (c : Nat) (s : Scene) (w : World) (h : kNode.C w A s.nodes.length s.nodes) (hM : rows s.nodes ≤ 400000) :
    Calls Tryd.prog 52 #[.agg #[.slice A s.nodes.length c, .int .i64 s.root]] w fun e w' => e = .returned (.int .i64 (depthS s)) ∧ Below w.heap.size w w' := by
  have HR := Aside0.mk h
  have HM := Aside0.mk hM
  have b0 := h.2.1
  have HB := Aside0.mk (below_alloc (Below.refl w.heap.size w) (.cells #[.slice A s.nodes.length c, .int .i64 s.root] 39))
  have HX := Aside0.mk (show (w.alloc (.cells #[.slice A s.nodes.length c, .int .i64 s.root] 39)).heap[w.heap.size]? = some (.cells #[.slice A s.nodes.length c, .int .i64 s.root] 39 (0, 0)) from by simpa using heap_alloc_new w _)
  have k0 := box_cell w _ rfl #[.slice A s.nodes.length c, .int .i64 s.root] 39 0 (.slice A s.nodes.length c) rfl
  have k1 := box_cell w _ rfl #[.slice A s.nodes.length c, .int .i64 s.root] 39 1 (.int .i64 s.root) rfl
  have hu := Tryd.underlying39
  have hun := Tryd.underlying26
  clear h hM
  go_enter Tryd.func52, Tryd.ntmps52
  go_wp2_with fail
  refine (gcheck_any A c s _ (Kd.C_below HR.out HB.out) HM.out).mono ?_
  rintro e w1 ⟨rfl, hB1⟩
  have HB1 := Aside0.mk (below_step HB.out hB1)
  have HX1 := Aside0.mk ((hB1.block _ (blk_lt HX.out)).trans HX.out)
  replace k0 := pw_cell_below hB1 k0
  replace k1 := pw_cell_below hB1 k1
  clear hB1 HX
  by_cases hz : (gcheck s).1 = 0
  · have HRt := Aside0.mk (gcheck_right.1 hz)
    have HE : Aside0 (depthS s = (H s.nodes s.root : Int)) := ⟨by unfold depthS; rw [if_pos hz]⟩
    have hnM : s.nodes.length ≤ 400000 := Nat.le_trans (len_rows _) HM.out
    have hn0 : 0 < s.nodes.length := by have := HRt.out.r0; have := HRt.out.r1; omega
    rw [hz]
    clear hz
    go_wp2_with (first
      | (refine Kd.R_make (Kd.int .i64) (w0 := w) w.heap.size 3 rfl (N := 20) rfl 24 _ _ rfl (s.nodes.length : Int) rfl rfl Tryd.underlying24 (.int .i64 0) 8 info_int rfl (by decide) (by omega) 0 (ok := fun _ => True) (okp := fun _ => True) rfl (fun _ hk => hk) trivial (by omega) (by omega) HB1.out HB1.out.size ?_; intro v2 w2 ho2 hb2 hg2 hn2; rw [Int.toNat_natCast] at ho2; obtain ⟨go, co, hv2, -, hgo, -⟩ := Kd.R_form ho2 (by rw [List.length_replicate]; exact hn0); rw [List.length_replicate] at hv2; subst hv2; have HO := Aside0.mk ho2; have HB2 := Aside0.mk hb2; have HX2 := Aside0.mk (blk_grown HX1.out hg2 (by simp)); have q0 := cell_grown hg2 k0 (by simp); have q1 := cell_grown hg2 k1 (by simp); clear ho2 hb2 hg2 hn2))
    clear k0 k1
    refine (order_any A c s w2 (Kd.C_below HR.out HB2.out) HRt.out.pl hn0 (by have := HM.out; omega)).mono ?_
    rintro e w3 ⟨L, A3, c3, rfl, hT, hR3, hB3⟩
    have HT := Aside0.mk hT
    have HI := Aside0.mk (show DpRel s L w A c go co A3 c3 0 0 (List.replicate s.nodes.length 0) w3 from ⟨DpInv.start _ _, by
      have h := Kd.R_below HO.out hB3
      exact h, Kd.R_lower (Kd.R_mono (Kd.R_bound hR3) (ok' := fun k => k ≠ go) (fun k hk => by have h1 := Kd.R_lt HO.out go rfl; have h2 := hk.2.1; omega)) HB2.out.size, (hB3.block _ (blk_lt HX2.out)).trans HX2.out, below_step HB2.out hB3⟩)
    have hLl : L.length ≤ s.nodes.length := nodup_len hT.nd hT.pl
    clear q0 q1 hR3 hB3 HO hT
    go_wp2
    go_loopw [24] (fun v24 W => ∃ i : Nat, i ≤ L.length ∧ v24 = .int .i64 i ∧ ∃ deep, Aside0 (DpRel s L w A c go co A3 c3 i 0 deep W)) (fun v24 _ => L.length - (intOf v24).toNat)
    case atStart => exact ⟨0, by omega, rfl, _, HI⟩
    case round =>
      clear HI
      obtain ⟨i, hi, rfl, deep, HI⟩ := hrel
      by_cases hlt : i < L.length
      · have hpq := HT.out.pl _ (rd_mem hlt)
        obtain ⟨q, hq⟩ : ∃ q : Nat, rd L (i : Int) = (q : Int) := ⟨(rd L (i : Int)).toNat, by omega⟩
        have hqn : q < s.nodes.length := by omega
        have HQ := Aside0.mk hq
        obtain ⟨ad, rfl, hx⟩ := at_nat (Kd.R_reads' HI.out.ord).2.2 i hlt
        rw [hq] at hx
        obtain ⟨adn, A1, c1, A2, c2, A5, c5, rfl, x0, x1, x2, x3, hN⟩ := at_node HR.out q hqn
        replace x3 := pw_cell_below HI.out.below x3
        have HN := Aside0.mk hN
        have o0 : wr.cell? ⟨w.heap.size, 0, none⟩ = some (.slice (some adn) s.nodes.length c) := (blk_cell HI.out.box 0).trans rfl
        have HKl := Aside0.mk (show (nd s.nodes q).kids.length ≤ 400000 from by
          have h1 : wt s.nodes q = (nd s.nodes q).kids.length + 1 := rfl
          have h2 := left_cons (ns := s.nodes) (vs := []) (x := q) hqn (by simp)
          rw [left_nil] at h2
          have := HM.out
          omega)
        have hkl := HKl.out
        clear hq hpq hN x0 x1 x2
        go_wp2
        clear x3 o0 hx
        go_loopw [35] (fun v35 W => ∃ j : Nat, j ≤ (nd s.nodes q).kids.length ∧ v35 = .int .i64 j ∧ ∃ deep, Aside0 (DpRel s L w (some adn) c go co (some ad) c3 i j deep W)) (fun v35 _ => (nd s.nodes q).kids.length - (intOf v35).toNat)
        case atStart => exact ⟨0, by omega, rfl, deep, HI⟩
        case round =>
          clear HI
          obtain ⟨j, hj, rfl, deep, HJ⟩ := hrel
          by_cases hjl : j < (nd s.nodes q).kids.length
          · have hkm := HRt.out.pl q hqn _ (rd_mem hjl)
            obtain ⟨k, hk⟩ : ∃ k : Nat, rd (nd s.nodes q).kids (j : Int) = (k : Int) := ⟨(rd (nd s.nodes q).kids (j : Int)).toNat, by omega⟩
            have hkn : k < s.nodes.length := by omega
            obtain ⟨adk, rfl, z0⟩ := at_nat (HN.out.below HJ.out.below).k j hjl
            rw [hk] at z0
            have hkq : kids s.nodes (q : Int) = (nd s.nodes q).kids := kids_nat _ _
            obtain ⟨e1, e2, e3⟩ := HJ.out.inv.kid HT.out hlt HQ.out hqn (by rw [hkq]; exact hjl) (by rw [hkq]; exact hk) hkn
            obtain ⟨y1, y1f⟩ := ints_cell HJ.out.row q hqn
            obtain ⟨y2, y2f⟩ := ints_cell HJ.out.row k hkn
            rw [e1] at y1
            rw [e2] at y2
            have HP := Aside0.mk (HJ.out.put hqn e3)
            generalize maxl (((kids s.nodes (q : Int)).take j).map (H s.nodes)) = a1 at y1 HP
            generalize H s.nodes (k : Int) = a2 at y2 HP
            have HMx : Aside0 (((max a1 a2 : Nat) : Int) = if a1 < a2 then (a2 : Int) else (a1 : Int)) := ⟨by split <;> omega⟩
            rw [HMx.out] at HP
            clear hkm hk hkq e1 e2 e3
            go_wp2
            go_region
            all_goals
              have HS4 := Aside0.mk HP.out.drew
              clear y1 y1f y2 y2f z0
              go_wp2
              go_roundw
              case rel => exact ⟨j + 1, by omega, by go_num, _, HS4⟩
              case measure => simp [intOf]; omega
          · obtain rfl : j = (nd s.nodes q).kids.length := by omega
            have hkq : kids s.nodes (q : Int) = (nd s.nodes q).kids := kids_nat _ _
            have hinv := HJ.out.inv
            rw [← hkq] at hinv
            obtain ⟨e1, e3⟩ := hinv.node HRt.out.dag HT.out hlt HQ.out hqn
            obtain ⟨y1, y1f⟩ := ints_cell HJ.out.row q hqn
            have HP := Aside0.mk (HJ.out.put hqn e3)
            have hb := H_bound HRt.out.dag (a := (q : Int)) ⟨by omega, by omega⟩
            generalize H s.nodes (q : Int) = a2 at e1 HP hb
            generalize rd deep (q : Int) = a1 at e1 y1
            have hw : IntKind.i64.wrap (a1 + 1) = (a2 : Int) := by rw [e1]; exact wrap_i (by omega) (by omega)
            clear hinv hkq e1 e3
            go_wp2
            go_roundw
            case rel => exact ⟨i + 1, by omega, by go_num, _, HP⟩
            case measure => simp [intOf]; omega
      · obtain rfl : i = L.length := by omega
        have h0 := HRt.out.r0
        have h1 := HRt.out.r1
        obtain ⟨r, hr⟩ : ∃ r : Nat, s.root = (r : Int) := ⟨s.root.toNat, by omega⟩
        have hrn : r < s.nodes.length := by omega
        have hin : (r : Int) ∈ L.take L.length := by rw [List.take_length]; exact Topo.cyclic HRt.out.pl HT.out HRt.out.cyc r hrn
        have e1 := HI.out.inv.tell r hrn hin
        obtain ⟨y1, y1f⟩ := ints_cell HI.out.row r hrn
        have o1 : wr.cell? ⟨w.heap.size, 1, none⟩ = some (.int .i64 s.root) := (blk_cell HI.out.box 1).trans rfl
        rw [e1] at y1
        rw [hr] at o1 HE
        clear h0 h1 hr hin e1
        go_wp2
        go_ret
        exact ⟨ret_int HE.out.symm, HI.out.below⟩
  · have HE : Aside0 (depthS s = 0) := ⟨by unfold depthS; rw [if_neg hz]⟩
    have dz : ((gcheck s).1 != 0) = true := by simpa using hz
    clear hz
    go_wp2
    go_ret
    exact ⟨ret_int HE.out.symm, HB1.out⟩
end Go.Proofs.YtglfebpgdghlfaaDoor.L
end
section
namespace Go.Proofs.YtglfebpgdghlfaaDoor.L
open Go.RowKit Go.ChangeShapes Go.WideShapes Go.Proofs.YtglfebpgdghlfaaDoorW.PrintWords Go.Proofs.YtglfebpgdghlfaaDoorW.PrintLast Go.Proofs.YtglfebpgdghlfaaDoorW.PrintMore
attribute [local go_sem] max2_int min2_int max_two min_two max_three min_three max_four min_four
theorem canon_iso {s : Scene} (h : Right s) : Iso (canonL s) s.nodes (fun x => (idx s x : Int)) := by
  have hlen : (canonL s).length = s.nodes.length := by
    have := ord_len h
    simp [canonL, this]
  refine ⟨hlen, fun x hx => ?_, fun x y hx hy he => ?_, fun x hx => ?_⟩
  · obtain ⟨q, rfl⟩ : ∃ q : Nat, x = (q : Int) := ⟨x.toNat, by have := hx.1; omega⟩
    have := (at_idx h (p := q) (by have := hx.2; omega)).1
    exact ⟨by omega, by omega⟩
  · obtain ⟨q, rfl⟩ : ∃ q : Nat, x = (q : Int) := ⟨x.toNat, by have := hx.1; omega⟩
    obtain ⟨r, rfl⟩ : ∃ r : Nat, y = (r : Int) := ⟨y.toNat, by have := hy.1; omega⟩
    have := idx_inj h (p := q) (q := r) (by have := hx.2; omega) (by have := hy.2; omega) (by
      have he' : (idx s (q : Int) : Int) = (idx s (r : Int) : Int) := he
      omega)
    rw [this]
  · obtain ⟨q, rfl⟩ : ∃ q : Nat, x = (q : Int) := ⟨x.toNat, by have := hx.1; omega⟩
    obtain ⟨h1, h2⟩ := at_idx h (p := q) (by have := hx.2; omega)
    show nd (canonL s) ((idx s (q : Int) : Int)).toNat = _
    rw [Int.toNat_natCast]
    have hl : idx s (q : Int) < (ord s).length := by rw [ord_len h]; exact h1
    unfold canonL
    unfold nd
    rw [List.getD_eq_getElem?_getD, List.getElem?_map, List.getElem?_eq_getElem hl]
    have h3 : (ord s)[idx s (q : Int)] = (q : Int) := (rd_eq hl).symm.trans h2
    rw [h3]
    rfl
theorem canon_root {s : Scene} (h : Right s) : (s.nodes.length : Int) - 1 = (idx s s.root : Int) := by
  have hpl : Pl s.nodes s.root := ⟨h.r0, h.r1⟩
  have ho : ord s = ML s.nodes (kids s.nodes s.root) [] ++ [s.root] := by
    show M s.nodes s.root [] = _
    exact M_out h.dag hpl (by simp)
  have hl := ord_len h
  have hnd := ord_nodup h
  rw [ho] at hl hnd
  rw [List.length_append, List.length_singleton] at hl
  have hni : ¬ s.root ∈ ML s.nodes (kids s.nodes s.root) [] := fun hm => by
    exact (List.nodup_append.1 hnd).2.2 s.root hm s.root (by simp) rfl
  unfold idx
  rw [ho, List.idxOf_append, if_neg hni]
  simp
  omega
theorem canon_right {s : Scene} (h : Right s) : Right ⟨canonL s, (s.nodes.length : Int) - 1⟩ := by
  have hi := canon_iso h
  have hlen : (canonL s).length = s.nodes.length := hi.len
  have hn : 0 < s.nodes.length := by have := h.r0; have := h.r1; omega
  have hsur : ∀ m : Nat, m < (canonL s).length → ∃ q : Nat, q < s.nodes.length ∧ (m : Int) = (idx s (q : Int) : Int) := fun m hm => by
    obtain ⟨q, hq, hqn⟩ := ord_at h (m := m) (by omega)
    refine ⟨q, hqn, ?_⟩
    have := idx_at h (m := m) (by omega)
    rw [hq] at this
    rw [this]
  refine ⟨by show 0 ≤ (s.nodes.length : Int) - 1; omega, by show (s.nodes.length : Int) - 1 < ((canonL s).length : Int); omega, fun m hm k hk => ?_, fun m hm hc => ?_, fun m hm => ?_⟩
  · obtain ⟨q, hq, e⟩ := hsur m hm
    have hkk : k ∈ kids (canonL s) (idx s (q : Int) : Int) := by rw [← e]; unfold kids; rw [Int.toNat_natCast]; exact hk
    rw [hi.kids ⟨by omega, by omega⟩] at hkk
    obtain ⟨x, hx, rfl⟩ := List.mem_map.1 hkk
    exact hi.pl x (kids_pl h.pl ⟨by omega, by omega⟩ x hx)
  · obtain ⟨q, hq, e⟩ := hsur m hm
    have hqp : Pl s.nodes (q : Int) := ⟨by omega, by omega⟩
    have back : ∀ (l : List Int), (∀ k ∈ l, Pl s.nodes k) → ∀ y, Rch (canonL s) (l.map (fun x => (idx s x : Int))) y → ∃ x, Pl s.nodes x ∧ y = (idx s x : Int) ∧ Rch s.nodes l x := fun l hl y hy => by
      induction hy with
      | base hk =>
        obtain ⟨x, hx, rfl⟩ := List.mem_map.1 hk
        exact ⟨x, hl x hx, rfl, .base hx⟩
      | step _ hk ih =>
        obtain ⟨x, hx, rfl, hrx⟩ := ih
        rw [hi.kids hx] at hk
        obtain ⟨z, hz, rfl⟩ := List.mem_map.1 hk
        exact ⟨z, kids_pl h.pl hx z hz, rfl, .step hrx hz⟩
    have hc' : Rch (canonL s) (kids (canonL s) (m : Int)) (m : Int) := hc
    rw [e, hi.kids hqp] at hc'
    obtain ⟨x, hx, ex, hrx⟩ := back _ (kids_pl h.pl hqp) _ hc'
    have := hi.inj _ _ hqp hx ex
    rw [← this] at hrx
    exact h.cyc q hq hrx
  · obtain ⟨q, hq, e⟩ := hsur m hm
    rw [e]
    have h1 := (hi.rch h.pl (l := [s.root]) (fun k hk => by rw [List.mem_singleton.1 hk]; exact ⟨h.r0, h.r1⟩) (h.all q hq)).1
    show Rch (canonL s) [(s.nodes.length : Int) - 1] _
    rw [canon_root h]
    exact h1
end Go.Proofs.YtglfebpgdghlfaaDoor.L
end
section
namespace Go.Proofs.YtglfebpgdghlfaaDoor.L
open Go.RowKit Go.ChangeShapes Go.WideShapes Go.Proofs.YtglfebpgdghlfaaDoorW.PrintWords Go.Proofs.YtglfebpgdghlfaaDoorW.PrintLast Go.Proofs.YtglfebpgdghlfaaDoorW.PrintMore
attribute [local go_sem] max2_int min2_int max_two min_two max_three min_three max_four min_four
theorem isC_right {s : Scene} (h : isC s = true) : Right s := by
  have h1 := (of_decide_eq_true h).2
  refine gcheck_right.1 (Classical.byContradiction fun hn => ?_)
  unfold nums at h1
  rw [if_neg hn] at h1
  simp at h1
theorem ord_iota {s : Scene} (h : Right s) : (ord s).map (fun x => (idx s x : Int)) = iota s.nodes.length := by
  have hl := ord_len h
  refine List.ext_getElem (by rw [List.length_map, hl, iota_len]) (fun m h1 h2 => ?_)
  rw [List.length_map] at h1
  rw [List.getElem_map]
  have h3 := idx_at h (m := m) (by omega)
  rw [rd_eq h1] at h3
  rw [h3]
  have h4 := iota_rd s.nodes.length m (by omega)
  rw [rd_eq h2] at h4
  exact h4.symm
theorem canon_ord {s : Scene} (h : Right s) : ord ⟨canonL s, (s.nodes.length : Int) - 1⟩ = iota s.nodes.length := by
  have hi := canon_iso h
  have := (hi.ord (s := ⟨canonL s, (s.nodes.length : Int) - 1⟩) h.pl ⟨h.r0, h.r1⟩ (canon_root h)).1
  rw [this]
  exact ord_iota h
theorem idxOf_iota (n p : Nat) (h : p < n) : (iota n).idxOf (p : Int) = p := by
  have hp : p < (iota n).length := by rw [iota_len]; exact h
  have hnd : (iota n).Nodup := by
    unfold iota
    refine List.pairwise_map.2 (List.Pairwise.imp ?_ List.nodup_range)
    intro a b hab e
    exact hab (by omega)
  have e : (iota n)[p] = (p : Int) := by have := iota_rd n p h; rwa [rd_eq hp] at this
  have := hnd.idxOf_getElem p hp
  rwa [e] at this
theorem canon_isC {s : Scene} (h : Right s) : isC ⟨canonL s, (s.nodes.length : Int) - 1⟩ = true := by
  have hr := canon_right h
  have hlen : (canonL s).length = s.nodes.length := (canon_iso h).len
  have hn : 0 < s.nodes.length := by have := h.r0; have := h.r1; omega
  have hnum : nums ⟨canonL s, (s.nodes.length : Int) - 1⟩ = iota s.nodes.length := by
    unfold nums
    rw [if_pos (gcheck_right.2 hr)]
    unfold numsL
    show (List.range (canonL s).length).map _ = _
    rw [hlen]
    unfold iota
    refine List.map_congr_left (fun p hp => ?_)
    unfold idx
    rw [canon_ord h, idxOf_iota _ _ (List.mem_range.1 hp)]
  refine decide_eq_true ?_
  rw [hnum, iota_len]
  exact ⟨rfl, hn⟩
theorem isC_idx {s : Scene} (h : Right s) (hc : isC s = true) {p : Nat} (hp : p < s.nodes.length) : idx s (p : Int) = p := by
  have h1 := (of_decide_eq_true hc).1
  have h2 : nums s = numsL s := by unfold nums; rw [if_pos (gcheck_right.2 h)]
  rw [h2, numsL_len] at h1
  have h3 := numsL_rd s p hp
  rw [h1, iota_rd _ _ hp] at h3
  omega
theorem isC_eq {s : Scene} (h : Right s) (hc : isC s = true) : s = ⟨canonL s, (s.nodes.length : Int) - 1⟩ := by
  have hlen : (canonL s).length = s.nodes.length := (canon_iso h).len
  have hroot : s.root = (s.nodes.length : Int) - 1 := by
    have h1 := canon_root h
    obtain ⟨r, hr⟩ : ∃ r : Nat, s.root = (r : Int) := ⟨s.root.toNat, by have := h.r0; omega⟩
    rw [hr] at h1
    rw [isC_idx h hc (p := r) (by have := h.r1; omega)] at h1
    omega
  have hnodes : s.nodes = canonL s := by
    refine List.ext_getElem hlen.symm (fun p h1 h2 => ?_)
    have h3 := (canon_iso h).nd (p : Int) ⟨by omega, by omega⟩
    rw [isC_idx h hc h1, Int.toNat_natCast] at h3
    unfold nd kids nd at h3
    rw [Int.toNat_natCast, getD_eq _ h2, getD_eq _ h1] at h3
    rw [h3]
    generalize hx : s.nodes[p] = x
    have hk : ∀ k ∈ x.kids, Pl s.nodes k := fun k hk => h.pl p h1 k (by unfold nd; rw [getD_eq _ h1, hx]; exact hk)
    have e : x.kids.map (fun x => (idx s x : Int)) = x.kids := by
      conv => rhs; rw [← List.map_id x.kids]
      refine List.map_congr_left (fun k hkk => ?_)
      have hkp := hk k hkk
      obtain ⟨q, rfl⟩ : ∃ q : Nat, k = (q : Int) := ⟨k.toNat, by have := hkp.1; omega⟩
      show ((idx s (q : Int) : Nat) : Int) = _
      rw [isC_idx h hc (by have := hkp.2; omega)]
      rfl
    cases x
    simp only at e ⊢
    rw [e]
  cases s
  simp only at hnodes hroot ⊢
  congr 1
theorem isC_iff {s : Scene} (h : Right s) : isC s = true ↔ (⟨canonL s, (s.nodes.length : Int) - 1⟩ : Scene) = s :=
  ⟨fun hc => (isC_eq h hc).symm, fun e => by have := canon_isC h; rwa [e] at this⟩
end Go.Proofs.YtglfebpgdghlfaaDoor.L
end
section
namespace Go.Proofs.YtglfebpgdghlfaaDoor.L
open Go.RowKit Go.ChangeShapes Go.WideShapes Go.Proofs.YtglfebpgdghlfaaDoorW.PrintWords Go.Proofs.YtglfebpgdghlfaaDoorW.PrintLast Go.Proofs.YtglfebpgdghlfaaDoorW.PrintMore
attribute [local go_sem] max2_int min2_int max_two min_two max_three min_three max_four min_four
set_option maxRecDepth 100000 in
set_option maxHeartbeats 2000000 in
theorem gedges_any (A : Option Addr) (c : Nat) (s : Scene) (w : World) (h : kNode.C w A s.nodes.length s.nodes) :
    Calls Tryd.prog 51 #[.agg #[.slice A s.nodes.length c, .int .i64 s.root]] w fun e w' => e = .returned (.int .i64 (edgesW s.nodes)) ∧ Below w.heap.size w w' := by
  have HR := Aside0.mk h
  have b0 := h.2.1
  have HB := Aside0.mk (below_alloc (Below.refl w.heap.size w) (.cells #[.slice A s.nodes.length c, .int .i64 s.root] 39))
  have k0 := box_cell w _ rfl #[.slice A s.nodes.length c, .int .i64 s.root] 39 0 (.slice A s.nodes.length c) rfl
  have hu := Tryd.underlying39
  have hun := Tryd.underlying26
  clear h
  go_enter Tryd.func51, Tryd.ntmps51
  go_wp2
  clear k0
  go_loopw [9, 3] (fun v9 v3 W => ∃ i : Nat, i ≤ s.nodes.length ∧ v9 = .int .i64 i ∧ v3 = .int .i64 (edgesTo s.nodes i) ∧ Aside0 (Below w.heap.size w W)) (fun v9 _ _ => s.nodes.length - (intOf v9).toNat)
  case atStart => exact ⟨0, by omega, rfl, rfl, HB⟩
  case round =>
    clear HB
    obtain ⟨i, hi, rfl, rfl, HW⟩ := hrel
    by_cases hlt : i < s.nodes.length
    · obtain ⟨adn, A1, c1, A2, c2, A3, c3, rfl, x0, x1, x2, x3, hN⟩ := at_node HR.out i hlt
      replace x0 := pw_cell_below HW.out x0
      replace x1 := pw_cell_below HW.out x1
      replace x2 := pw_cell_below HW.out x2
      replace x3 := pw_cell_below HW.out x3
      have y3 := box_cell wr _ rfl #[.int .i64 (nd s.nodes i).kind, .slice A1 (nd s.nodes i).ints.length c1, .slice A2 (nd s.nodes i).texts.length c2, .slice A3 (nd s.nodes i).kids.length c3] 26 3 (.slice A3 (nd s.nodes i).kids.length c3) rfl
      have HE := Aside0.mk (show edgesTo s.nodes (i + 1) = IntKind.i64.wrap (edgesTo s.nodes i + ((nd s.nodes i).kids.length : Int)) from rfl)
      have HW2 := Aside0.mk (below_alloc HW.out (.cells #[.int .i64 (nd s.nodes i).kind, .slice A1 (nd s.nodes i).ints.length c1, .slice A2 (nd s.nodes i).texts.length c2, .slice A3 (nd s.nodes i).kids.length c3] 26))
      clear hN
      generalize edgesTo s.nodes i = a at HE ⊢
      go_wp2
      go_roundw
      case rel => exact ⟨i + 1, by omega, by go_num, by rw [HE.out, i64_w], HW2⟩
      case measure => simp [intOf]; omega
    · obtain rfl : i = s.nodes.length := by omega
      go_wp2
      go_ret
      exact ⟨rfl, HW.out⟩
end Go.Proofs.YtglfebpgdghlfaaDoor.L
end
section
namespace Go.Proofs.YtglfebpgdghlfaaDoor.L
open Go.RowKit Go.ChangeShapes Go.WideShapes Go.Proofs.YtglfebpgdghlfaaDoorW.PrintWords Go.Proofs.YtglfebpgdghlfaaDoorW.PrintLast Go.Proofs.YtglfebpgdghlfaaDoorW.PrintMore
attribute [local go_sem] max2_int min2_int max_two min_two max_three min_three max_four min_four
theorem drew_alloc' (W : World) (o : Obj) : (W.alloc o).drew = W.drew.alloc o := rfl
abbrev fB (b n : Nat) : Value := .func (.func n) #[.pointer (some ⟨b, 0, none⟩)] #[]
noncomputable def doF (b : Nat) : Lit → Option Value := putF (putF (putF (fun _ => none) (.int .i64 1) (fB b 90)) (.int .i64 2) (fB b 91)) (.int .i64 3) (fB b 92)
noncomputable def zFn : Value := (match (Tryd.prog.info? 117) with | some i => i.zero.getD undef | none => undef)
theorem zeroFn (w : World) : (zeroValue 117).run Tryd.prog w = .ok zFn w := by kernel_rfl
theorem doF_1 (b : Nat) {k : Int} (h : k = 1) (z : Value) : (doF b (.int .i64 k)).getD z = fB b 90 ∧ (doF b (.int .i64 k)).isSome = true := by subst h; simp [doF, putF]
theorem doF_2 (b : Nat) {k : Int} (h : k = 2) (z : Value) : (doF b (.int .i64 k)).getD z = fB b 91 ∧ (doF b (.int .i64 k)).isSome = true := by subst h; simp [doF, putF]
theorem doF_3 (b : Nat) {k : Int} (h : k = 3) (z : Value) : (doF b (.int .i64 k)).getD z = fB b 92 ∧ (doF b (.int .i64 k)).isSome = true := by subst h; simp [doF, putF]
theorem doF_no (b : Nat) {k : Int} (h1 : ¬ k = 1) (h2 : ¬ k = 2) (h3 : ¬ k = 3) (z : Value) : (doF b (.int .i64 k)).getD z = z ∧ (doF b (.int .i64 k)).isSome = false := by simp [doF, putF, h1, h2, h3]
def KeepsS (W W1 : World) : Prop := ∀ (q : Nat) (cs : Array Value), W.heap[q]? = some (.cells cs 39 (0, 0)) → W1.heap[q]? = some (.cells cs 39 (0, 0))
theorem KeepsS.trans {W W1 W2 : World} (h : KeepsS W W1) (k : KeepsS W1 W2) : KeepsS W W2 := fun q cs hq => k q cs (h q cs hq)
theorem KeepsS.below {W W1 : World} (h : Below W.heap.size W W1) : KeepsS W W1 := fun q _ hq => (h.block q (blk_lt hq)).trans hq
theorem KeepsS.map {P : Program} {k : TypeId} {W W1 : World} {mb n : Nat} {f : Lit → Option Value} (hm : MapF P k W mb n f) (hg : W.grownBy W1 (some mb)) : KeepsS W W1 := fun q _ hq => (hg.block q (blk_lt hq) (fun e => by injection e with e; exact hm.not_cells (by rw [← e]; exact hq))).trans hq
section
variable {a : Scene} {A : Option Addr} {c b mb cnt : Nat} {f : Lit → Option Value} {out : List Node} {w W W1 : World}
theorem BRel.keepsS {v v1 : Value} (h : BRel a A c b mb cnt f v out w W) (hg : W.grownBy W1 v.ownBlock) : KeepsS W (W1.setCell ⟨b, 3, none⟩ v1) := fun q cs hq => by
  have h1 := blk_grown hq hg (Kd.R_ne h.rows hq (by decide))
  refine (Below.heap_setCell W1 ⟨b, 3, none⟩ v1 q (fun e => ?_)).trans h1
  have e' : q = b := e
  have h2 := h.blk
  rw [← e', hq] at h2
  injection h2 with h2
  injection h2 with _ h2
  exact absurd h2 (by decide)
theorem BRel.push {v v1 : Value} {m : Node} (h : BRel a A c b mb cnt f v out w W) (hR : kNode.R 26 W1 w.heap.size (fun _ => True) v1 (out ++ [m])) (hB : Below w.heap.size w W1) (hg : W.grownBy W1 v.ownBlock) :
    W1.heap[b]? = some (.cells #[.slice A a.nodes.length c, .int .i64 a.root, .map (some mb), v] 89 (0, 0)) ∧ BRel a A c b mb cnt f v1 (out ++ [m]) w (W1.setCell ⟨b, 3, none⟩ v1) := by
  have hblk := blk_grown h.blk hg (Kd.R_ne h.rows h.blk (by decide))
  have hmb : mb ≠ b := fun e => h.map.not_cells (by rw [e]; exact h.blk)
  refine ⟨hblk, below_set hB h.bge, ?_, (h.map.kept hg (h.map.ne_row h.rows)).setCell (a := ⟨b, 3, none⟩) hmb _, R_type hR hblk (by decide) _ _, h.bge, h.mge⟩
  have := blk_set hblk 3 v1
  simpa using this
end
theorem M_off {W : World} {base : Nat} {n : Node} {v1 v2 v3 v4 : Value} {xs : List Node} (h : kNode.M W base (fun _ => True) n [.int .i64 n.kind, v1, v2, v3]) (hr : kNode.R 26 W base (fun _ => True) v4 xs) : kNode.M W base (fun k => some k ≠ v4.ownBlock) n [.int .i64 n.kind, v1, v2, v3] := by
  obtain ⟨x1, x2, x3, e, h1, h2, h3⟩ := kNode_openM h
  injection e with _ e
  injection e with e1 e
  injection e with e2 e
  injection e with e3 _
  subst e1 e2 e3
  exact node_off h1 h2 h3 hr
def DoPost (a : Scene) (A : Option Addr) (c b mb cnt : Nat) (base : List Int) (out : List Node) (w W : World) (o : Opn) (e : Ending) (W' : World) : Prop :=
  e = .returned (.int .i64 (doErr a.nodes base out.length o)) ∧ (doErr a.nodes base out.length o = 0 → ∃ cnt' v', cnt' ≤ cnt + 1 ∧ BRel a A c b mb cnt' (imgF (base ++ [baseOf o])) v' (out ++ [(oneN a.nodes base o).1]) w W') ∧ KeepsS W W' ∧ Below w.heap.size w W'
section
variable {a : Scene} {A : Option Addr} {c b mb cnt : Nat} {base : List Int} {v : Value} {out : List Node} {w : World}
theorem one_any (hlen : out.length = base.length) (hc : kNode.C w A a.nodes.length a.nodes) (hS : ∀ i : Nat, i < a.nodes.length → Small (nd a.nodes i)) (hKl : ∀ i : Nat, i < a.nodes.length → (nd a.nodes i).kids.length ≤ 400000) (hP : Places a.nodes) (hn : a.nodes.length ≤ 1000000) (hcn : cnt ≤ 1000000)
    (o : Opn) (B1 : Option Addr) (d1 : Nat) (B2 : Option Addr) (d2 : Nat) (A1 : Option Addr) (c1 : Nat) (A2 : Option Addr) (c2 : Nat) (A3 : Option Addr) (c3 : Nat) (hO : OpnC w o B1 d1 B2 d2 A1 c1 A2 c2 A3 c3) (hs : Small o.node) (hls : o.sets.length ≤ 1000000) (hle : o.script.length ≤ 1000000) (hb0 : -9223372036854775808 ≤ o.base) (hb1 : o.base ≤ 9223372036854775807) (hk : o.kind = 1 ∨ o.kind = 2 ∨ o.kind = 3) :
    ∃ n, (∀ z, (doF b (.int .i64 o.kind)).getD z = .func (.func n) #[.pointer (some ⟨b, 0, none⟩)] #[] ∧ (doF b (.int .i64 o.kind)).isSome = true) ∧ (∀ args w, (callFunc n args).run Tryd.prog w = .ok (.enter n args) w) ∧ ∀ W, BRel a A c b mb cnt (imgF base) v out w W → Calls Tryd.prog n #[.pointer (some ⟨b, 0, none⟩), .agg (opV o B1 d1 B2 d2 A1 c1 A2 c2 A3 c3)] W (OnePost a A c b mb cnt base v out w o (oneN a.nodes base o) W) := by
  rcases hk with hk | hk | hk
  · refine ⟨_, doF_1 b hk, fun args w => by simp [go_sem], fun W h => ?_⟩
    rw [show oneN a.nodes base o = keepN a.nodes base o by unfold oneN; rw [if_pos hk]]
    exact keep_any W h hlen hc hS hP hn hcn o B1 d1 B2 d2 A1 c1 A2 c2 A3 c3 (hO.below h.below) hb0 hb1 (by omega)
  · refine ⟨_, doF_2 b hk, fun args w => by simp [go_sem], fun W h => ?_⟩
    rw [show oneN a.nodes base o = changeN a.nodes base o by unfold oneN; rw [if_neg (by omega), if_pos hk]]
    exact edit_any W h hlen hc hS hKl hP hn hcn o B1 d1 B2 d2 A1 c1 A2 c2 A3 c3 hO hls hle hb0 hb1 (by omega)
  · refine ⟨_, doF_3 b hk, fun args w => by simp [go_sem], fun W h => ?_⟩
    rw [show oneN a.nodes base o = freshN o by unfold oneN; rw [if_neg (by omega), if_neg (by omega), if_pos hk]]
    exact fresh_any W h o B1 d1 B2 d2 A1 c1 A2 c2 A3 c3 (hO.below h.below) hs hk
set_option maxRecDepth 100000 in
set_option maxHeartbeats 8000000 in
theorem do_any (W : World) (h : BRel a A c b mb cnt (imgF base) v out w W) (hlen : out.length = base.length) (hc : kNode.C w A a.nodes.length a.nodes) (hS : ∀ i : Nat, i < a.nodes.length → Small (nd a.nodes i)) (hKl : ∀ i : Nat, i < a.nodes.length → (nd a.nodes i).kids.length ≤ 400000) (hP : Places a.nodes) (hn : a.nodes.length ≤ 1000000) (hcn : cnt ≤ 1000000) (hol : out.length ≤ 1000000)
    (o : Opn) (B1 : Option Addr) (d1 : Nat) (B2 : Option Addr) (d2 : Nat) (A1 : Option Addr) (c1 : Nat) (A2 : Option Addr) (c2 : Nat) (A3 : Option Addr) (c3 : Nat) (hO : OpnC w o B1 d1 B2 d2 A1 c1 A2 c2 A3 c3) (hs : Small o.node) (hls : o.sets.length ≤ 1000000) (hle : o.script.length ≤ 1000000) (hb0 : -9223372036854775808 ≤ o.base) (hb1 : o.base ≤ 9223372036854775807) (hk0 : -9223372036854775808 ≤ o.kind) (hk1 : o.kind ≤ 9223372036854775807) :
    Calls Tryd.prog 55 #[.pointer (some ⟨b, 0, none⟩), .agg (opV o B1 d1 B2 d2 A1 c1 A2 c2 A3 c3)] W (DoPost a A c b mb cnt base out w W o) := by
  obtain ⟨Av, cv, hvs⟩ := Kd.R_slice h.rows
  subst hvs
  have HB := Aside0.mk h
  have HO := Aside0.mk hO
  have HC := Aside0.mk hc
  have HSm := Aside0.mk hS
  have HKl := Aside0.mk hKl
  have HPl := Aside0.mk hP
  have HLen := Aside0.mk hlen
  have HSn := Aside0.mk hs
  have HLs := Aside0.mk (And.intro hls hle)
  have hmm := @run_makeMap Tryd.prog
  have huo := Tryd.underlying61
  have hun := Tryd.underlying26
  have hub := Tryd.underlying89
  have HK := Aside0.mk (keyI_of hk0 hk1)
  have hBW1 : Below W.heap.size W ((W.alloc (.cells #[.pointer (some ⟨b, 0, none⟩)] 86)).alloc (.cells (opV o B1 d1 B2 d2 A1 c1 A2 c2 A3 c3) 61)) := below_alloc (below_alloc (Below.refl _ _) _) _
  have hp1 : ((W.alloc (.cells #[.pointer (some ⟨b, 0, none⟩)] 86)).alloc (.cells (opV o B1 d1 B2 d2 A1 c1 A2 c2 A3 c3) 61)).heap[W.heap.size]? = some (.cells #[.pointer (some ⟨b, 0, none⟩)] 86 (0, 0)) := by
    refine ((below_alloc (Below.refl _ _) _).block _ (by simp)).trans ?_
    simpa using heap_alloc_new W (.cells #[.pointer (some ⟨b, 0, none⟩)] 86)
  have ho1 : ((W.alloc (.cells #[.pointer (some ⟨b, 0, none⟩)] 86)).alloc (.cells (opV o B1 d1 B2 d2 A1 c1 A2 c2 A3 c3) 61)).heap[W.heap.size + 1]? = some (.cells (opV o B1 d1 B2 d2 A1 c1 A2 c2 A3 c3) 61 (0, 0)) := by
    have := heap_alloc_new (W.alloc (.cells #[.pointer (some ⟨b, 0, none⟩)] 86)) (.cells (opV o B1 d1 B2 d2 A1 c1 A2 c2 A3 c3) 61)
    simpa using this
  have hBm := below_alloc (Below.refl ((W.alloc (.cells #[.pointer (some ⟨b, 0, none⟩)] 86)).alloc (.cells (opV o B1 d1 B2 d2 A1 c1 A2 c2 A3 c3) 61)).heap.size ((W.alloc (.cells #[.pointer (some ⟨b, 0, none⟩)] 86)).alloc (.cells (opV o B1 d1 B2 d2 A1 c1 A2 c2 A3 c3) 61))) (.map #[] 0)
  have HM0 := Aside0.mk (show MapF Tryd.prog 3 (((W.alloc (.cells #[.pointer (some ⟨b, 0, none⟩)] 86)).alloc (.cells (opV o B1 d1 B2 d2 A1 c1 A2 c2 A3 c3) 61)).alloc (.map #[] 0)) (W.heap.size + 1 + 1) 0 (fun _ => none) from by
    have := MapF.made Tryd.prog 3 ((W.alloc (.cells #[.pointer (some ⟨b, 0, none⟩)] 86)).alloc (.cells (opV o B1 d1 B2 d2 A1 c1 A2 c2 A3 c3) 61))
    simpa using this)
  have HB0 := Aside0.mk (below_step hBW1 hBm)
  have HP0 := Aside0.mk ((hBm.block _ (blk_lt hp1)).trans hp1)
  have HO0 := Aside0.mk ((hBm.block _ (blk_lt ho1)).trans ho1)
  clear h hO hc hS hP hlen hKl hls hle hs hBm hp1 ho1 hBW1
  go_enter Tryd.func55, Tryd.ntmps55
  by_cases hno : ¬ o.kind = 1 ∧ ¬ o.kind = 2 ∧ ¬ o.kind = 3
  · have HI := Aside0.mk (doF_no b hno.1 hno.2.1 hno.2.2 zFn)
    have HE : Aside0 (oneN a.nodes base o = (nodez, 21)) := ⟨by unfold oneN; rw [if_neg hno.1, if_neg hno.2.1, if_neg hno.2.2]⟩
    have HE2 : Aside0 (doErr a.nodes base out.length o = 21) := ⟨by unfold doErr; rw [HE.out]; rfl⟩
    clear hno
    go_wp2_with (first
          | (refine wpList_insert_F _ rfl (.tmp 10) _ (.tmp 12) 118 rfl 3 117 keyI Tryd.underlying118 (W.heap.size + 1 + 1) 0 (fun _ => none) rfl HM0.out (by decide) (.int .i64 1) (fB b 90) (.int .i64 1) rfl rfl (keyI_of (by omega) (by omega)) ?_; intro w1 hM1 hg1; have HM1 := Aside0.mk hM1; have HB1 := Aside0.mk (below_map HB0.out HB0.out.size hg1 (by omega)); have HP1 := Aside0.mk (blk_grown HP0.out hg1 (fun e => by injection e with e; omega)); have HO1 := Aside0.mk (blk_grown HO0.out hg1 (fun e => by injection e with e; omega)); have p1 : w1.cell? ⟨W.heap.size, 0, none⟩ = some (.pointer (some ⟨b, 0, none⟩)) := blk_at HP1.out 0 rfl; clear hM1 hg1)
          | (refine wpList_insert_F _ rfl (.tmp 10) _ (.tmp 14) 118 rfl 3 117 keyI Tryd.underlying118 (W.heap.size + 1 + 1) 1 _ rfl HM1.out (by decide) (.int .i64 2) (fB b 91) (.int .i64 2) rfl rfl (keyI_of (by omega) (by omega)) ?_; intro w2 hM2 hg2; have HM2 := Aside0.mk hM2; have HB2 := Aside0.mk (below_map HB1.out HB1.out.size hg2 (by omega)); have HP2 := Aside0.mk (blk_grown HP1.out hg2 (fun e => by injection e with e; omega)); have HO2 := Aside0.mk (blk_grown HO1.out hg2 (fun e => by injection e with e; omega)); have p2 : w2.cell? ⟨W.heap.size, 0, none⟩ = some (.pointer (some ⟨b, 0, none⟩)) := blk_at HP2.out 0 rfl; clear hM2 hg2)
          | (refine wpList_insert_F _ rfl (.tmp 10) _ (.tmp 16) 118 rfl 3 117 keyI Tryd.underlying118 (W.heap.size + 1 + 1) 2 _ rfl HM2.out (by decide) (.int .i64 3) (fB b 92) (.int .i64 3) rfl rfl (keyI_of (by omega) (by omega)) ?_; intro w3 hM3 hg3; have HM3 := Aside0.mk hM3; have HB3 := Aside0.mk (below_map HB2.out HB2.out.size hg3 (by omega)); have HP3 := Aside0.mk (blk_grown HP2.out hg3 (fun e => by injection e with e; omega)); have HO3 := Aside0.mk (blk_grown HO2.out hg3 (fun e => by injection e with e; omega)); have p3 : w3.cell? ⟨W.heap.size, 0, none⟩ = some (.pointer (some ⟨b, 0, none⟩)) := blk_at HP3.out 0 rfl; have q0 : w3.cell? ⟨W.heap.size + 1, 0, none⟩ = some (.int .i64 o.kind) := blk_at HO3.out 0 rfl; have q1 : w3.cell? ⟨W.heap.size + 1, 1, none⟩ = some (.int .i64 o.base) := blk_at HO3.out 1 rfl; have q2 : w3.cell? ⟨W.heap.size + 1, 2, none⟩ = some (.slice B1 o.sets.length d1) := blk_at HO3.out 2 rfl; have q3 : w3.cell? ⟨W.heap.size + 1, 3, none⟩ = some (.slice B2 o.script.length d2) := blk_at HO3.out 3 rfl; have q4 : w3.cell? ⟨W.heap.size + 1, 4, none⟩ = some (.int .i64 o.node.kind) := blk_at HO3.out 4 rfl; have q5 : w3.cell? ⟨W.heap.size + 1, 5, none⟩ = some (.slice A1 o.node.ints.length c1) := blk_at HO3.out 5 rfl; have q6 : w3.cell? ⟨W.heap.size + 1, 6, none⟩ = some (.slice A2 o.node.texts.length c2) := blk_at HO3.out 6 rfl; have q7 : w3.cell? ⟨W.heap.size + 1, 7, none⟩ = some (.slice A3 o.node.kids.length c3) := blk_at HO3.out 7 rfl; clear hM3 hg3)
          | (at_lookup; refine wpList_lookup_F_ok _ rfl (.tmp 19) (.tmp 21) 118 rfl 3 117 keyI Tryd.underlying118 (zeroFn _) (W.heap.size + 1 + 1) 3 (doF b) rfl HM3.out (.int .i64 o.kind) (.int .i64 o.kind) rfl HK.out _ HI.out.1 false HI.out.2 ?_))
    go_ret
    exact ⟨ret_int HE2.out.symm, fun hz => absurd (HE2.out.symm.trans hz) (by decide), KeepsS.below HB3.out, (HB.out.later HB3.out).below⟩
  · have hk3 : o.kind = 1 ∨ o.kind = 2 ∨ o.kind = 3 := by omega
    clear hno
    obtain ⟨fnn, hI, hrun, hCall⟩ := one_any (b := b) (mb := mb) (v := .slice Av out.length cv) HLen.out HC.out HSm.out HKl.out HPl.out hn hcn o B1 d1 B2 d2 A1 c1 A2 c2 A3 c3 HO.out HSn.out HLs.out.1 HLs.out.2 hb0 hb1 hk3
    have HI := Aside0.mk (hI zFn)
    have HCall := Aside0.mk hCall
    clear hI hCall
    go_wp2_with (first
        | (refine wpList_insert_F _ rfl (.tmp 10) _ (.tmp 12) 118 rfl 3 117 keyI Tryd.underlying118 (W.heap.size + 1 + 1) 0 (fun _ => none) rfl HM0.out (by decide) (.int .i64 1) (fB b 90) (.int .i64 1) rfl rfl (keyI_of (by omega) (by omega)) ?_; intro w1 hM1 hg1; have HM1 := Aside0.mk hM1; have HB1 := Aside0.mk (below_map HB0.out HB0.out.size hg1 (by omega)); have HP1 := Aside0.mk (blk_grown HP0.out hg1 (fun e => by injection e with e; omega)); have HO1 := Aside0.mk (blk_grown HO0.out hg1 (fun e => by injection e with e; omega)); have p1 : w1.cell? ⟨W.heap.size, 0, none⟩ = some (.pointer (some ⟨b, 0, none⟩)) := blk_at HP1.out 0 rfl; clear hM1 hg1)
        | (refine wpList_insert_F _ rfl (.tmp 10) _ (.tmp 14) 118 rfl 3 117 keyI Tryd.underlying118 (W.heap.size + 1 + 1) 1 _ rfl HM1.out (by decide) (.int .i64 2) (fB b 91) (.int .i64 2) rfl rfl (keyI_of (by omega) (by omega)) ?_; intro w2 hM2 hg2; have HM2 := Aside0.mk hM2; have HB2 := Aside0.mk (below_map HB1.out HB1.out.size hg2 (by omega)); have HP2 := Aside0.mk (blk_grown HP1.out hg2 (fun e => by injection e with e; omega)); have HO2 := Aside0.mk (blk_grown HO1.out hg2 (fun e => by injection e with e; omega)); have p2 : w2.cell? ⟨W.heap.size, 0, none⟩ = some (.pointer (some ⟨b, 0, none⟩)) := blk_at HP2.out 0 rfl; clear hM2 hg2)
        | (refine wpList_insert_F _ rfl (.tmp 10) _ (.tmp 16) 118 rfl 3 117 keyI Tryd.underlying118 (W.heap.size + 1 + 1) 2 _ rfl HM2.out (by decide) (.int .i64 3) (fB b 92) (.int .i64 3) rfl rfl (keyI_of (by omega) (by omega)) ?_; intro w3 hM3 hg3; have HM3 := Aside0.mk hM3; have HB3 := Aside0.mk (below_map HB2.out HB2.out.size hg3 (by omega)); have HP3 := Aside0.mk (blk_grown HP2.out hg3 (fun e => by injection e with e; omega)); have HO3 := Aside0.mk (blk_grown HO2.out hg3 (fun e => by injection e with e; omega)); have p3 : w3.cell? ⟨W.heap.size, 0, none⟩ = some (.pointer (some ⟨b, 0, none⟩)) := blk_at HP3.out 0 rfl; have q0 : w3.cell? ⟨W.heap.size + 1, 0, none⟩ = some (.int .i64 o.kind) := blk_at HO3.out 0 rfl; have q1 : w3.cell? ⟨W.heap.size + 1, 1, none⟩ = some (.int .i64 o.base) := blk_at HO3.out 1 rfl; have q2 : w3.cell? ⟨W.heap.size + 1, 2, none⟩ = some (.slice B1 o.sets.length d1) := blk_at HO3.out 2 rfl; have q3 : w3.cell? ⟨W.heap.size + 1, 3, none⟩ = some (.slice B2 o.script.length d2) := blk_at HO3.out 3 rfl; have q4 : w3.cell? ⟨W.heap.size + 1, 4, none⟩ = some (.int .i64 o.node.kind) := blk_at HO3.out 4 rfl; have q5 : w3.cell? ⟨W.heap.size + 1, 5, none⟩ = some (.slice A1 o.node.ints.length c1) := blk_at HO3.out 5 rfl; have q6 : w3.cell? ⟨W.heap.size + 1, 6, none⟩ = some (.slice A2 o.node.texts.length c2) := blk_at HO3.out 6 rfl; have q7 : w3.cell? ⟨W.heap.size + 1, 7, none⟩ = some (.slice A3 o.node.kids.length c3) := blk_at HO3.out 7 rfl; clear hM3 hg3)
        | (at_lookup; refine wpList_lookup_F_ok _ rfl (.tmp 19) (.tmp 21) 118 rfl 3 117 keyI Tryd.underlying118 (zeroFn _) (W.heap.size + 1 + 1) 3 (doF b) rfl HM3.out (.int .i64 o.kind) (.int .i64 o.kind) rfl HK.out _ HI.out.1 true HI.out.2 ?_))
    have HKp3 := Aside0.mk (KeepsS.below HB3.out)
    have HB3 := Aside0.mk (HB.out.later HB3.out)
    refine (HCall.out w3 HB3.out).mono ?_
    rintro e w4 ⟨v1, v2, v3, rfl, hM4, hR4, hg4⟩
    obtain ⟨r, hr⟩ : ∃ r, oneN a.nodes base o = r := ⟨_, rfl⟩
    have HE := Aside0.mk hr
    rw [hr] at hM4 hR4 ⊢
    clear hr
    obtain ⟨m, er⟩ := r
    dsimp only at hM4 hR4 ⊢
    obtain ⟨A5, c5, A6, c6, A7, c7, rfl, rfl, rfl⟩ := M_slices hM4
    have HB4 := Aside0.mk (HB3.out.below.grown hg4 HB3.out.below.size (fun q hq => by injection hq with hq; have := HB.out.mge; omega))
    have HKp4 := Aside0.mk (HKp3.out.trans (KeepsS.map HB3.out.map hg4))
    have HP4 := Aside0.mk ((hg4.block _ (blk_lt HP3.out) (fun e => by injection e with e; exact HB3.out.map.not_cells (by rw [← e]; exact HP3.out))).trans HP3.out)
    have HA5 := Aside0.mk (below_alloc (Below.refl w4.heap.size w4) (.cells #[.int .i64 m.kind, .slice A5 m.ints.length c5, .slice A6 m.texts.length c6, .slice A7 m.kids.length c7] 26))
    have HM5 := Aside0.mk (M_below (M_lower hM4 HB3.out.below.size) HA5.out)
    have HX5 := Aside0.mk (show (w4.alloc (.cells #[.int .i64 m.kind, .slice A5 m.ints.length c5, .slice A6 m.texts.length c6, .slice A7 m.kids.length c7] 26)).heap[w4.heap.size]? = some (.cells #[.int .i64 m.kind, .slice A5 m.ints.length c5, .slice A6 m.texts.length c6, .slice A7 m.kids.length c7] 26 (0, 0)) from by simpa using heap_alloc_new w4 _)
    have HP5 := Aside0.mk ((HA5.out.block _ (blk_lt HP4.out)).trans HP4.out)
    have HR4 := Aside0.mk hR4
    clear hM4 hR4 hg4 p1 p2 p3 q0 q1 q2 q3 q4 q5 q6 q7
    by_cases hz : er = 0
    · subst hz
      obtain ⟨cnt', hc', hR⟩ := HR4.out rfl
      have HR5 := Aside0.mk (hR.later HA5.out)
      have HC' := Aside0.mk hc'
      have p5 : (w4.alloc (.cells #[.int .i64 m.kind, .slice A5 m.ints.length c5, .slice A6 m.texts.length c6, .slice A7 m.kids.length c7] 26)).cell? ⟨W.heap.size, 0, none⟩ = some (.pointer (some ⟨b, 0, none⟩)) := blk_at HP5.out 0 rfl
      have HCap := Aside0.mk (show CapB W.heap.size out.length _ from ⟨b, Av, cv, p5, blk_at HR5.out.blk 3 rfl, (Kd.R_reads' HR5.out.rows).2.2.2.1⟩)
      clear hR hc'
      go_wp2_with fail
      refine (aheadHas_any A7 c7 m.kids W.heap.size out.length _ (M_nodeC HM5.out).k HCap.out).mono ?_
      rintro e w6 ⟨rfl, hB6⟩
      have HB6 := Aside0.mk hB6
      clear hB6 p5
      by_cases hkb : kidsBad out.length m.kids = true
      · have HEr : Aside0 (doErr a.nodes base out.length o = 13) := ⟨by unfold doErr; rw [HE.out]; exact (if_pos rfl).trans (if_pos hkb)⟩
        rw [hkb]
        clear hkb
        go_wp2
        go_ret
        exact ⟨ret_int HEr.out.symm, fun hz => absurd (HEr.out.symm.trans hz) (by decide), HKp4.out.trans (KeepsS.below (below_step HA5.out HB6.out)), below_step (below_step HB4.out HA5.out) HB6.out⟩
      · have HEr : Aside0 (doErr a.nodes base out.length o = 0) := ⟨by unfold doErr; rw [HE.out]; exact (if_pos rfl).trans (if_neg hkb)⟩
        rw [Bool.eq_false_iff.2 hkb]
        clear hkb
        have HR6 := Aside0.mk (HR5.out.later HB6.out)
        have HM6 := Aside0.mk (M_below HM5.out HB6.out)
        have HP6 := Aside0.mk ((HB6.out.block _ (blk_lt HP5.out)).trans HP5.out)
        have HX6 := Aside0.mk ((HB6.out.block _ (blk_lt HX5.out)).trans HX5.out)
        have p6 : w6.cell? ⟨W.heap.size, 0, none⟩ = some (.pointer (some ⟨b, 0, none⟩)) := blk_at HP6.out 0 rfl
        have b6 : w6.cell? ⟨b, 3, none⟩ = some (.slice Av out.length cv) := blk_at HR6.out.blk 3 rfl
        have y0 : w6.cell? ⟨w4.heap.size, 0, none⟩ = some (.int .i64 m.kind) := blk_at HX6.out 0 rfl
        have y1 : w6.cell? ⟨w4.heap.size, 1, none⟩ = some (.slice A5 m.ints.length c5) := blk_at HX6.out 1 rfl
        have y2 : w6.cell? ⟨w4.heap.size, 2, none⟩ = some (.slice A6 m.texts.length c6) := blk_at HX6.out 2 rfl
        have y3 : w6.cell? ⟨w4.heap.size, 3, none⟩ = some (.slice A7 m.kids.length c7) := blk_at HX6.out 3 rfl
        have hba := below_alloc (Below.refl w6.heap.size w6) (.cells #[.int .i64 m.kind, .slice A5 m.ints.length c5, .slice A6 m.texts.length c6, .slice A7 m.kids.length c7] 26)
        have p6a := pw_cell_below hba p6
        have b6a := pw_cell_below hba b6
        have HR6d := Aside0.mk HR6.out.drew
        have HP6d := Aside0.mk (show w6.drew.heap[W.heap.size]? = _ from HP6.out)
        have HMk := Aside0.mk (M_off (M_below HM6.out (pw_below_drewN (Below.refl _ _) 1)) HR6d.out.rows)
        clear hba HX5 HX6 HM5 HM6 HP5 HP6 HR5 HR6 HCap
        go_wp2
        go_region_law (first
            | (rw [drew_alloc']; refine Kd.R_append_step kNode (W := w6.drew) (w0 := w) w.heap.size (by rfl) (.tmp 44) (.tmp 46) 30 26 (.agg #[.int .i64 0, .slice none 0 0, .slice none 0 0, .slice none 0 0]) 80 rfl Tryd.underlying30 info_nodez rfl (by decide) (by omega) (.slice Av out.length cv) out m [.int .i64 m.kind, .slice A5 m.ints.length c5, .slice A6 m.texts.length c6, .slice A7 m.kids.length c7] (fun _ => True) (fun k => some k ≠ (Value.slice Av out.length cv).ownBlock) rfl rfl HMk.out (fun k hk => ⟨trivial, hk⟩) (fun _ _ => trivial) HR6d.out.rows HR6d.out.below HR6d.out.below.size (by omega) ?_; intro v5 w8 hR8 hB8 hg8 hat8; obtain ⟨A8, c8, hv8⟩ := Kd.R_slice hR8; rw [show (out ++ [m]).length = out.length + 1 from by simp] at hv8; subst hv8; obtain ⟨hb8, hN8⟩ := HR6d.out.push hR8 hB8 hg8; have HKp8 := Aside0.mk (HKp4.out.trans ((KeepsS.below (below_step HA5.out HB6.out)).trans (KeepsS.trans (KeepsS.below (pw_below_drewN (Below.refl _ _) 1)) (HR6d.out.keepsS (v1 := .slice A8 (out.length + 1) c8) hg8)))); have HN8 := Aside0.mk hN8; have f3 : w8.cell? ⟨b, 3, none⟩ = some (.slice Av out.length cv) := blk_at hb8 3 rfl; have f3f := blk_frozen hb8 3; have p8 : w8.cell? ⟨W.heap.size, 0, none⟩ = some (.pointer (some ⟨b, 0, none⟩)) := blk_at (blk_grown HP6d.out hg8 (Kd.R_ne HR6d.out.rows HP6d.out (by decide))) 0 rfl; clear hR8 hB8 hg8 hat8 hN8 hb8))
        all_goals
          clear p6 b6 y0 y1 y2 y3 p6a b6a f3 f3f p8
          go_wp2
          go_ret
          exact ⟨ret_int HEr.out.symm, fun _ => ⟨cnt', _, HC'.out, by rw [HE.out]; exact HN8.out⟩, HKp8.out, HN8.out.below⟩
    · have HEr : Aside0 (doErr a.nodes base out.length o = er) := ⟨by unfold doErr; rw [HE.out]; exact if_neg hz⟩
      have dz : (er != 0) = true := by simpa using hz
      have HZ := Aside0.mk hz
      clear hz
      go_wp2
      go_ret
      exact ⟨ret_int HEr.out.symm, fun hz => absurd (HEr.out.symm.trans hz) HZ.out, HKp4.out.trans (KeepsS.below HA5.out), below_step HB4.out HA5.out⟩
end
end Go.Proofs.YtglfebpgdghlfaaDoor.L
end
section
namespace Go.Proofs.YtglfebpgdghlfaaDoor.L
open Go.RowKit Go.ChangeShapes Go.WideShapes Go.Proofs.YtglfebpgdghlfaaDoorW.PrintWords Go.Proofs.YtglfebpgdghlfaaDoorW.PrintLast Go.Proofs.YtglfebpgdghlfaaDoorW.PrintMore
attribute [local go_sem] max2_int min2_int max_two min_two max_three min_three max_four min_four
theorem slots2 {W : World} {rb : Nat} {y0 y1 : Value} {T : TypeId} (h : W.heap[rb]? = some (.cells #[y0, y1] T (0, 0))) (u0 : Value) :
    W.cell? ⟨rb, 0, none⟩ = some y0 ∧ W.frozen? ⟨rb, 0, none⟩ = false ∧ (W.setCell ⟨rb, 0, none⟩ u0).cell? ⟨rb, 1, none⟩ = some y1 ∧ (W.setCell ⟨rb, 0, none⟩ u0).frozen? ⟨rb, 1, none⟩ = false :=
  ⟨(blk_cell h 0).trans rfl, blk_frozen h 0, (blk_cell (blk_set h 0 u0) 1).trans rfl, blk_frozen (blk_set h 0 u0) 1⟩
theorem res2 {W : World} {rb : Nat} {y0 y1 : Value} {T : TypeId} (h : W.heap[rb]? = some (.cells #[y0, y1] T (0, 0))) (u0 u1 : Value) :
    ((W.setCell ⟨rb, 0, none⟩ u0).setCell ⟨rb, 1, none⟩ u1).cell? ⟨rb, 0, none⟩ = some u0 ∧ ((W.setCell ⟨rb, 0, none⟩ u0).setCell ⟨rb, 1, none⟩ u1).cell? ⟨rb, 1, none⟩ = some u1 :=
  ⟨(blk_cell (box2 h u0 u1) 0).trans rfl, (blk_cell (box2 h u0 u1) 1).trans rfl⟩
abbrev zeroS : Array Value := #[.slice none 0 0, .int .i64 0]
def RebPost (r : Scene × Int × Int) (w : World) (e : Ending) (w' : World) : Prop :=
  ∃ A c, e = .returned (.tuple #[.agg #[.slice A r.1.nodes.length c, .int .i64 r.1.root], .int .i64 r.2.1, .int .i64 r.2.2]) ∧ kNode.R 26 w' w.heap.size (fun _ => True) (.slice A r.1.nodes.length c) r.1.nodes ∧ Below w.heap.size w w'
theorem RebPost.no {r : Scene × Int × Int} {w w' : World} {er p : Int} (hr : r = (⟨[], 0⟩, er, p)) (hB : Below w.heap.size w w') : RebPost r w (.returned (.tuple #[.agg #[.slice none 0 0, .int .i64 0], .int .i64 er, .int .i64 p])) w' := by
  subst hr
  exact ⟨none, 0, rfl, Kd.R_nil _ _ _ _ _, hB⟩
set_option maxRecDepth 100000 in
set_option maxHeartbeats 8000000 in
theorem rapp_any (A : Option Addr) (c : Nat) (a : Scene) (Al : Option Addr) (cl : Nat) (l : List Opn) (w : World) (h : kNode.C w A a.nodes.length a.nodes) (hl : kOpn.C w Al l.length l) (hT : Tabs w) (hn : a.nodes.length ≤ 1000000) (hM : rows a.nodes ≤ 400000) (ha : ∀ i : Nat, i < a.nodes.length → OkN 4000 (nd a.nodes i)) (ho : ∀ k : Nat, k < l.length → OpOk (op l k)) (hn60 : l.length ≤ 60) :
    Calls Tryd.prog 29 #[.agg #[.slice A a.nodes.length c, .int .i64 a.root], .slice Al l.length cl] w (RebPost (applyR a l) w) := by
  have HR := Aside0.mk h
  have HOps := Aside0.mk hl
  have HT := Aside0.mk hT
  have HM := Aside0.mk hM
  have HOk := Aside0.mk ha
  have HOp := Aside0.mk ho
  have HB := Aside0.mk (below_alloc (below_alloc (Below.refl w.heap.size w) (.cells #[.slice A a.nodes.length c, .int .i64 a.root] 39)) (.cells zeroS 39))
  have k0 := box_cell2 w _ rfl #[.slice A a.nodes.length c, .int .i64 a.root] 39 (.cells zeroS 39) 0 (.slice A a.nodes.length c) rfl
  have k1 := box_cell2 w _ rfl #[.slice A a.nodes.length c, .int .i64 a.root] 39 (.cells zeroS 39) 1 (.int .i64 a.root) rfl
  have HRes := Aside0.mk (show ((w.alloc (.cells #[.slice A a.nodes.length c, .int .i64 a.root] 39)).alloc (.cells zeroS 39)).heap[w.heap.size + 1]? = some (.cells zeroS 39 (0, 0)) from by
    have := heap_alloc_new (w.alloc (.cells #[.slice A a.nodes.length c, .int .i64 a.root] 39)) (.cells zeroS 39)
    simpa using this)
  have hu := Tryd.underlying39
  have hub := Tryd.underlying89
  have hmm := @run_makeMap Tryd.prog
  clear h hl hT hM ha ho
  go_enter Tryd.func29, Tryd.ntmps29
  go_wp2_with fail
  refine (typed_any A c a _ (Kd.C_below HR.out HB.out) (HT.out.below HB.out) (fun i hi => (HOk.out i hi).texts)).mono ?_
  rintro e w1 ⟨rfl, hB1⟩
  replace k0 := pw_cell_below hB1 k0
  replace k1 := pw_cell_below hB1 k1
  have HRes1 := Aside0.mk ((hB1.block _ (blk_lt HRes.out)).trans HRes.out)
  have HB1 := Aside0.mk (below_step HB.out hB1)
  clear hB1 HRes HB
  by_cases hty : ¬ (typedS newTab a.nodes).1 = 0
  · have HE := Aside0.mk (show applyR a l = (⟨[], 0⟩, (typedS newTab a.nodes).1, -1) from if_neg hty)
    have dz : ((typedS newTab a.nodes).1 != 0) = true := by simpa using hty
    obtain ⟨e0, e0f, e1, e1f⟩ := slots2 HRes1.out (.slice none 0 0)
    clear hty
    go_wp2
    have h2 := res2 HRes1.out (.slice none 0 0) (.int .i64 0)
    exact bodyPost_ret (v := .tuple #[.agg #[.slice none 0 0, .int .i64 0], .int .i64 (typedS newTab a.nodes).1, .int .i64 (-1)]) (by simp [results, Tryd.results29, go_sem, h2]) rfl (RebPost.no HE.out (below_set2 HB1.out (Nat.le_succ _)))
  replace hty := Classical.byContradiction hty
  have HTy := Aside0.mk hty
  rw [hty]
  clear hty
  go_wp2_with fail
  refine (is_any A c a _ (Kd.C_below HR.out HB1.out) HM.out).mono ?_
  rintro e w2 ⟨rfl, hB2⟩
  replace k0 := pw_cell_below hB2 k0
  replace k1 := pw_cell_below hB2 k1
  have HRes2 := Aside0.mk ((hB2.block _ (blk_lt HRes1.out)).trans HRes1.out)
  have HB2 := Aside0.mk (below_step HB1.out hB2)
  clear hB2 HRes1 HB1
  by_cases hic : ¬ isC a = true
  · have HE := Aside0.mk (show applyR a l = (⟨[], 0⟩, 16, -1) from by unfold applyR; rw [if_pos HTy.out, if_neg hic])
    rw [Bool.eq_false_iff.2 hic]
    obtain ⟨e0, e0f, e1, e1f⟩ := slots2 HRes2.out (.slice none 0 0)
    clear hic
    go_wp2
    have h2 := res2 HRes2.out (.slice none 0 0) (.int .i64 0)
    exact bodyPost_ret (v := .tuple #[.agg #[.slice none 0 0, .int .i64 0], .int .i64 16, .int .i64 (-1)]) (by simp [results, Tryd.results29, go_sem, h2]) rfl (RebPost.no HE.out (below_set2 HB2.out (Nat.le_succ _)))
  replace hic := Classical.byContradiction hic
  have HIc := Aside0.mk hic
  have HPl := Aside0.mk (isC_right hic).pl
  have HE : Aside0 (applyR a l = resR (runO a.nodes l [] [] 0)) := ⟨by unfold applyR; rw [if_pos HTy.out, if_pos hic]⟩
  rw [hic]
  clear hic
  have hm0 := MapF.made Tryd.prog 3 w2
  have hAm := below_alloc (Below.refl w2.heap.size w2) (.map #[] 0)
  have hAb := below_alloc (Below.refl (w2.alloc (.map #[] 0)).heap.size (w2.alloc (.map #[] 0))) (.cells #[.slice A a.nodes.length c, .int .i64 a.root, .map (some w2.heap.size), .slice none 0 0] 89)
  have HBR := Aside0.mk (show BRel a A c (w2.heap.size + 1) w2.heap.size 0 (imgF []) (.slice none 0 0) [] w ((w2.alloc (.map #[] 0)).alloc (.cells #[.slice A a.nodes.length c, .int .i64 a.root, .map (some w2.heap.size), .slice none 0 0] 89)) from
    ⟨below_step (below_step HB2.out hAm) hAb, by
      have := heap_alloc_new (w2.alloc (.map #[] 0)) (.cells #[.slice A a.nodes.length c, .int .i64 a.root, .map (some w2.heap.size), .slice none 0 0] 89)
      simpa using this, by rw [imgF_nil]; exact hm0.below hAb, Kd.R_nil _ _ _ _ _, Nat.le_succ_of_le HB2.out.size, HB2.out.size⟩)
  have HResB := Aside0.mk ((hAb.block _ (Nat.lt_of_lt_of_le (blk_lt HRes2.out) hAm.size)).trans ((hAm.block _ (blk_lt HRes2.out)).trans HRes2.out))
  clear hm0 hAm hAb
  go_wp2
  clear k0 k1 hmm
  generalize (w2.alloc (.map #[] 0)).alloc (.cells #[.slice A a.nodes.length c, .int .i64 a.root, .map (some w2.heap.size), .slice none 0 0] 89) = W3 at HBR HResB ⊢
  generalize w2.heap.size + 1 = b at HBR ⊢
  generalize w2.heap.size = mb at HBR ⊢
  go_loopw [37] (fun v37 W => ∃ k : Nat, k ≤ l.length ∧ v37 = .int .i64 k ∧ ∃ base v out cnt, cnt ≤ k ∧ Aside0 (out.length = base.length ∧ out.length = k ∧ runO a.nodes (l.drop k) base out k = runO a.nodes l [] [] 0 ∧ ∀ i : Nat, i < out.length → OkN 5000 (nd out i)) ∧ Aside0 (BRel a A c b mb cnt (imgF base) v out w W) ∧ Aside0 (W.heap[w.heap.size + 1]? = some (.cells zeroS 39 (0, 0)))) (fun v37 _ => l.length - (intOf v37).toNat)
  case atStart => exact ⟨0, by omega, rfl, [], _, [], 0, by omega, ⟨rfl, rfl, rfl, fun i hi => by simp at hi⟩, HBR, HResB⟩
  case round =>
    clear HBR HResB
    obtain ⟨k, hk, rfl, base, v, out, cnt, hcnt, HI, HBR, HRes⟩ := hrel
    by_cases hlt : k < l.length
    · obtain ⟨ad, B1, d1, B2, d2, A1, c1, A2, c2, A3, c3, rfl, x0, x1, x2, x3, x4, x5, x6, x7, hO⟩ := at_op HOps.out k hlt
      replace x0 := pw_cell_below HBR.out.below x0
      replace x1 := pw_cell_below HBR.out.below x1
      replace x2 := pw_cell_below HBR.out.below x2
      replace x3 := pw_cell_below HBR.out.below x3
      replace x4 := pw_cell_below HBR.out.below x4
      replace x5 := pw_cell_below HBR.out.below x5
      replace x6 := pw_cell_below HBR.out.below x6
      replace x7 := pw_cell_below HBR.out.below x7
      have HO := Aside0.mk hO
      have hop := HOp.out k hlt
      have HOk1 := Aside0.mk hop
      have HStep := Aside0.mk (fun hz => (runO_step (a := a.nodes) (base := base) (out := out) hlt hz))
      have HBad := Aside0.mk (fun hz => (runO_bad (a := a.nodes) (base := base) (out := out) hlt hz))
      generalize op l k = o at x0 x1 x2 x3 x4 x5 x6 x7 HO HOk1 HStep HBad
      have hAo := below_alloc (Below.refl wr.heap.size wr) (.cells (opV o B1 d1 B2 d2 A1 c1 A2 c2 A3 c3) 61)
      have HBo := Aside0.mk (HBR.out.later hAo)
      have HReso := Aside0.mk ((hAo.block _ (blk_lt HRes.out)).trans HRes.out)
      clear hO hop hAo
      go_wp2_with fail
      refine (do_any (base := base) (cnt := cnt) _ HBo.out HI.out.1 HR.out (fun i hi => (HOk.out i hi).small (by omega)) (fun i hi => Nat.le_trans (HOk.out i hi).2.2.1 (by omega)) HPl.out hn (by omega) (by have := HI.out.2.1; omega) o B1 d1 B2 d2 A1 c1 A2 c2 A3 c3 HO.out (HOk1.out.node.small (by omega)) HOk1.out.sets (Nat.le_trans HOk1.out.script (by omega)) HOk1.out.b0 HOk1.out.b1 HOk1.out.k0 HOk1.out.k1).mono ?_
      rintro e w4 ⟨rfl, hR, hK, hB⟩
      have HRes4 := Aside0.mk (hK _ _ HReso.out)
      have HB4 := Aside0.mk hB
      have HR4 := Aside0.mk hR
      clear hR hK hB x0 x1 x2 x3 x4 x5 x6 x7
      by_cases hz : doErr a.nodes base out.length o = 0
      · obtain ⟨cnt', v', hc', hBR⟩ := HR4.out hz
        have HBR' := Aside0.mk hBR
        have h0 : (oneN a.nodes base o).2 = 0 := by
          refine Classical.byContradiction fun hn0 => ?_
          unfold doErr at hz
          rw [if_neg hn0] at hz
          exact hn0 hz
        have HI' := Aside0.mk (show (out ++ [(oneN a.nodes base o).1]).length = (base ++ [baseOf o]).length ∧ (out ++ [(oneN a.nodes base o).1]).length = k + 1 ∧ runO a.nodes (l.drop (k + 1)) (base ++ [baseOf o]) (out ++ [(oneN a.nodes base o).1]) (k + 1) = runO a.nodes l [] [] 0 ∧ ∀ i : Nat, i < (out ++ [(oneN a.nodes base o).1]).length → OkN 5000 (nd (out ++ [(oneN a.nodes base o).1]) i) from
          ⟨by rw [List.length_append, List.length_append, HI.out.1]; rfl, by rw [List.length_append, HI.out.2.1]; rfl, (HStep.out hz).symm.trans HI.out.2.2.1, nd_snoc HI.out.2.2.2 (oneN_ok HOk.out HOk1.out h0)⟩)
        rw [hz]
        clear hz hBR h0
        go_wp2
        go_roundw
        case rel => exact ⟨k + 1, by omega, by go_num, _, v', _, cnt', by omega, HI', HBR', HRes4⟩
        case measure => simp [intOf]; omega
      · have HE' := Aside0.mk (show applyR a l = (⟨[], 0⟩, doErr a.nodes base out.length o, (k : Int)) from by rw [HE.out, ← HI.out.2.2.1, HBad.out hz]; rfl)
        have dz : (doErr a.nodes base out.length o != 0) = true := by simpa using hz
        obtain ⟨e0, e0f, e1, e1f⟩ := slots2 HRes4.out (.slice none 0 0)
        clear hz
        generalize doErr a.nodes base out.length o = er at dz HE' ⊢
        go_wp2
        have h2 := res2 HRes4.out (.slice none 0 0) (.int .i64 0)
        exact bodyPost_ret (v := .tuple #[.agg #[.slice none 0 0, .int .i64 0], .int .i64 er, .int .i64 (k : Int)]) (by simp [results, Tryd.results29, go_sem, h2]) rfl (RebPost.no HE'.out (below_set2 HB4.out (Nat.le_succ _)))
    · have HRun := Aside0.mk (show runO a.nodes l [] [] 0 = .inl out from by rw [← HI.out.2.2.1]; exact runO_end (by omega))
      have HE' := Aside0.mk (show applyR a l = finR out from by rw [HE.out, HRun.out]; rfl)
      obtain ⟨Av, cv, hv⟩ := Kd.R_slice HBR.out.rows
      subst hv
      have hol : out.length ≤ 60 := by have := HI.out.2.1; omega
      have b3 : wr.cell? ⟨b, 3, none⟩ = some (.slice Av out.length cv) := blk_at HBR.out.blk 3 rfl
      have hbl := blk_lt HBR.out.blk
      have hwp : IntKind.i64.wrap ((out.length : Int) - 1) = (out.length : Int) - 1 := wrap_i (by omega) (by omega)
      go_wp2
      go_region
      have hA5 := below_alloc (Below.refl wr.heap.size wr) (.cells #[.slice Av out.length cv, .int .i64 ((out.length : Int) - 1)] 39)
      have hA5d : Below wr.heap.size wr (wr.alloc (.cells #[.slice Av out.length cv, .int .i64 ((out.length : Int) - 1)] 39)).drew := below_drew hA5
      have HBR5 := Aside0.mk (HBR.out.later hA5d)
      have HRes5 := Aside0.mk ((hA5d.block _ (blk_lt HRes.out)).trans HRes.out)
      have hX5 : (wr.alloc (.cells #[.slice Av out.length cv, .int .i64 ((out.length : Int) - 1)] 39)).drew.heap[wr.heap.size]? = some (.cells #[.slice Av out.length cv, .int .i64 ((out.length : Int) - 1)] 39 (0, 0)) := by
        show (wr.alloc _).heap[wr.heap.size]? = _
        simpa using heap_alloc_new wr _
      have HX5 := Aside0.mk hX5
      have hge : w.heap.size + 1 < wr.heap.size := blk_lt HRes.out
      have HGe := Aside0.mk hge
      clear hA5 hA5d hX5 b3 hbl hwp hge HBR HRes
      generalize (wr.alloc (.cells #[.slice Av out.length cv, .int .i64 ((out.length : Int) - 1)] 39)).drew = W5 at HBR5 HRes5 HX5 ⊢
      generalize wr.heap.size = g at HX5 HGe ⊢
      have s0 : W5.cell? ⟨g, 0, none⟩ = some (.slice Av out.length cv) := blk_at HX5.out 0 rfl
      have s1 : W5.cell? ⟨g, 1, none⟩ = some (.int .i64 ((out.length : Int) - 1)) := blk_at HX5.out 1 rfl
      have HC5 := Aside0.mk (Kd.R_reads' HBR5.out.rows).2.2
      go_wp2_with fail
      refine (typed_any Av cv (⟨out, (out.length : Int) - 1⟩ : Scene) W5 HC5.out (HT.out.below HBR5.out.below) (fun i hi => (HI.out.2.2.2 i hi).texts)).mono ?_
      rintro e w6 ⟨rfl, hB6⟩
      replace s0 := pw_cell_below hB6 s0
      replace s1 := pw_cell_below hB6 s1
      have HRes6 := Aside0.mk ((hB6.block _ (blk_lt HRes5.out)).trans HRes5.out)
      have HBR6 := Aside0.mk (HBR5.out.later hB6)
      clear hB6 HC5 HRes5 HBR5 HX5
      dsimp only
      by_cases hty2 : ¬ (typedS newTab out).1 = 0
      · have HX := Aside0.mk (show applyR a l = (⟨[], 0⟩, (typedS newTab out).1, -1) from by rw [HE'.out]; unfold finR; rw [if_neg hty2])
        have dz : ((typedS newTab out).1 != 0) = true := by simpa using hty2
        obtain ⟨e0, e0f, e1, e1f⟩ := slots2 HRes6.out (.slice none 0 0)
        have HB6 := Aside0.mk HBR6.out.below
        clear hty2
        generalize (typedS newTab out).1 = er at dz HX ⊢
        go_wp2
        have h2 := res2 HRes6.out (.slice none 0 0) (.int .i64 0)
        exact bodyPost_ret (v := .tuple #[.agg #[.slice none 0 0, .int .i64 0], .int .i64 er, .int .i64 (-1)]) (by simp [results, Tryd.results29, go_sem, h2]) rfl (RebPost.no HX.out (below_set2 HB6.out (Nat.le_succ _)))
      replace hty2 := Classical.byContradiction hty2
      have HTy2 := Aside0.mk hty2
      rw [hty2]
      clear hty2
      have HC6 := Aside0.mk (Kd.R_reads' HBR6.out.rows).2.2
      have HRw := Aside0.mk (rows_ok HI.out.2.2.2 hol)
      go_wp2_with fail
      refine (gcheck_any Av cv (⟨out, (out.length : Int) - 1⟩ : Scene) w6 HC6.out HRw.out).mono ?_
      rintro e w7 ⟨rfl, hB7⟩
      replace s0 := pw_cell_below hB7 s0
      replace s1 := pw_cell_below hB7 s1
      have HRes7 := Aside0.mk ((hB7.block _ (blk_lt HRes6.out)).trans HRes6.out)
      have HBR7 := Aside0.mk (HBR6.out.later hB7)
      clear hB7 HC6 HRes6 HBR6
      by_cases hgc : ¬ (gcheck (⟨out, (out.length : Int) - 1⟩ : Scene)).1 = 0
      · have HX := Aside0.mk (show applyR a l = (⟨[], 0⟩, (gcheck (⟨out, (out.length : Int) - 1⟩ : Scene)).1, -1) from by rw [HE'.out]; unfold finR; rw [if_pos HTy2.out]; exact if_neg hgc)
        have dz : ((gcheck (⟨out, (out.length : Int) - 1⟩ : Scene)).1 != 0) = true := by simpa using hgc
        obtain ⟨e0, e0f, e1, e1f⟩ := slots2 HRes7.out (.slice none 0 0)
        have HB6 := Aside0.mk HBR7.out.below
        clear hgc
        generalize (gcheck (⟨out, (out.length : Int) - 1⟩ : Scene)).1 = er at dz HX ⊢
        go_wp2
        have h2 := res2 HRes7.out (.slice none 0 0) (.int .i64 0)
        exact bodyPost_ret (v := .tuple #[.agg #[.slice none 0 0, .int .i64 0], .int .i64 er, .int .i64 (-1)]) (by simp [results, Tryd.results29, go_sem, h2]) rfl (RebPost.no HX.out (below_set2 HB6.out (Nat.le_succ _)))
      replace hgc := Classical.byContradiction hgc
      have HGc := Aside0.mk hgc
      rw [hgc]
      clear hgc
      have HC7 := Aside0.mk (Kd.R_reads' HBR7.out.rows).2.2
      go_wp2_with fail
      refine (is_any Av cv (⟨out, (out.length : Int) - 1⟩ : Scene) w7 HC7.out HRw.out).mono ?_
      rintro e w8 ⟨rfl, hB8⟩
      replace s0 := pw_cell_below hB8 s0
      replace s1 := pw_cell_below hB8 s1
      have HRes8 := Aside0.mk ((hB8.block _ (blk_lt HRes7.out)).trans HRes7.out)
      have HBR8 := Aside0.mk (HBR7.out.later hB8)
      clear hB8 HC7 HRes7 HBR7
      by_cases hcc : ¬ isC (⟨out, (out.length : Int) - 1⟩ : Scene) = true
      · have HX := Aside0.mk (show applyR a l = (⟨[], 0⟩, 16, -1) from by rw [HE'.out]; unfold finR; rw [if_pos HTy2.out]; exact (if_pos HGc.out).trans (if_neg hcc))
        rw [Bool.eq_false_iff.2 hcc]
        obtain ⟨e0, e0f, e1, e1f⟩ := slots2 HRes8.out (.slice none 0 0)
        have HB6 := Aside0.mk HBR8.out.below
        clear hcc
        go_wp2
        have h2 := res2 HRes8.out (.slice none 0 0) (.int .i64 0)
        exact bodyPost_ret (v := .tuple #[.agg #[.slice none 0 0, .int .i64 0], .int .i64 16, .int .i64 (-1)]) (by simp [results, Tryd.results29, go_sem, h2]) rfl (RebPost.no HX.out (below_set2 HB6.out (Nat.le_succ _)))
      replace hcc := Classical.byContradiction hcc
      have HX := Aside0.mk (show applyR a l = ((⟨out, (out.length : Int) - 1⟩ : Scene), 0, 0) from by rw [HE'.out]; unfold finR; rw [if_pos HTy2.out]; exact (if_pos HGc.out).trans (if_pos hcc))
      rw [hcc]
      clear hcc
      obtain ⟨e0, e0f, e1, e1f⟩ := slots2 HRes8.out (.slice Av out.length cv)
      have hne : g ≠ w.heap.size + 1 := by have := HGe.out; omega
      go_wp2
      have h2 := res2 HRes8.out (.slice Av out.length cv) (.int .i64 ((out.length : Int) - 1))
      refine bodyPost_ret (v := .tuple #[.agg #[.slice Av out.length cv, .int .i64 ((out.length : Int) - 1)], .int .i64 0, .int .i64 0]) (by simp [results, Tryd.results29, go_sem, h2]) rfl
        ⟨Av, cv, by rw [HX.out], ?_, below_set2 HBR8.out.below (Nat.le_succ _)⟩
      rw [HX.out]
      exact R_type (R_type HBR8.out.rows HRes8.out (by decide) _ _) (blk_set HRes8.out 0 _) (by decide) _ _
end Go.Proofs.YtglfebpgdghlfaaDoor.L
end
section
namespace Go.Proofs.YtglfebpgdghlfaaDoor.L
open Go.RowKit Go.ChangeShapes Go.WideShapes Go.Proofs.YtglfebpgdghlfaaDoorW.PrintWords Go.Proofs.YtglfebpgdghlfaaDoorW.PrintLast Go.Proofs.YtglfebpgdghlfaaDoorW.PrintMore
attribute [local go_sem] max2_int min2_int max_two min_two max_three min_three max_four min_four
structure ABx (w : World) (A : Option Addr) (c : Nat) (a : Scene) (W : World) : Prop where
  below : Below w.heap.size w W
  sb : W.heap[w.heap.size]? = some (.cells #[.slice A a.nodes.length c, .int .i64 a.root] 39 (0, 0))
  res : W.heap[w.heap.size + 1]? = some (.cells zeroS 39 (0, 0))
  non : W.heap[w.heap.size + 2]? = some (.cells zeroS 39 (0, 0))
theorem ABx.later {w : World} {A : Option Addr} {c : Nat} {a : Scene} {W W1 : World} (h : ABx w A c a W) (hb : Below W.heap.size W W1) : ABx w A c a W1 :=
  ⟨below_step h.below hb, (hb.block _ (blk_lt h.sb)).trans h.sb, (hb.block _ (blk_lt h.res)).trans h.res, (hb.block _ (blk_lt h.non)).trans h.non⟩
structure AppRel (w : World) (g : Nat) (root : Int) (base : List Int) (bv : Value) (out : List Node) (ov : Value) (W : World) : Prop where
  box : W.heap[g]? = some (.cells #[ov, .int .i64 root] 39 (0, 0))
  ge : w.heap.size + 2 < g
  rows : kNode.R 26 W w.heap.size (fun k => some k ≠ bv.ownBlock) ov out
  br : (Kd.int .i64).R 3 W w.heap.size (fun _ => True) bv base
theorem AppRel.later {w : World} {g : Nat} {root : Int} {base : List Int} {bv : Value} {out : List Node} {ov : Value} {W W1 : World} (h : AppRel w g root base bv out ov W) (hb : Below W.heap.size W W1) : AppRel w g root base bv out ov W1 :=
  ⟨(hb.block _ (blk_lt h.box)).trans h.box, h.ge, Kd.R_below h.rows hb, Kd.R_below h.br hb⟩
theorem RebPost.bad {r : Scene × Int × Int} {w w' : World} {er p : Int} (hr : r = (⟨[], 0⟩, er, p)) (hB : Below w.heap.size w w') : RebPost r w (.returned (.tuple #[.agg #[.slice none 0 0, .int .i64 0], .int .i64 er, .int .i64 p])) w' := RebPost.no hr hB
theorem Lives.box4 {b : Nat} {W : World} (h : Lives 4 b W) (u0 u1 u2 u3 : Value) : ∃ T, ((((W.setCell ⟨b, 0, none⟩ u0).setCell ⟨b, 1, none⟩ u1).setCell ⟨b, 2, none⟩ u2).setCell ⟨b, 3, none⟩ u3).heap[b]? = some (.cells #[u0, u1, u2, u3] T (0, 0)) := by
  obtain ⟨cs, hk, T, h⟩ := h
  have h2 := blk_set (blk_set (blk_set (blk_set h 0 u0) 1 u1) 2 u2) 3 u3
  refine ⟨T, h2.trans ?_⟩
  obtain ⟨l⟩ := cs
  match l, hk with
  | [_, _, _, _], _ => rfl
theorem ABx.grown {w : World} {A : Option Addr} {c : Nat} {a : Scene} {W W1 : World} {v : Value} (h : ABx w A c a W) (hne : ∀ (q : Nat) (cs : Array Value), W.heap[q]? = some (.cells cs 39 (0, 0)) → some q ≠ v.ownBlock) (hg : W.grownBy W1 v.ownBlock) (hB : Below w.heap.size w W1) : ABx w A c a W1 :=
  ⟨hB, blk_grown h.sb hg (hne _ _ h.sb), blk_grown h.res hg (hne _ _ h.res), blk_grown h.non hg (hne _ _ h.non)⟩
theorem ABx.far {w : World} {A : Option Addr} {c : Nat} {a : Scene} {W : World} {g i : Nat} (h : ABx w A c a W) (hg : w.heap.size + 2 < g) (u : Value) : ABx w A c a (W.setCell ⟨g, i, none⟩ u) :=
  ⟨below_set h.below (by omega), (Below.heap_setCell W ⟨g, i, none⟩ u _ (by show w.heap.size ≠ g; omega)).trans h.sb, (Below.heap_setCell W ⟨g, i, none⟩ u _ (by show w.heap.size + 1 ≠ g; omega)).trans h.res, (Below.heap_setCell W ⟨g, i, none⟩ u _ (by show w.heap.size + 2 ≠ g; omega)).trans h.non⟩
section
variable {w : World} {g : Nat} {root : Int} {base : List Int} {bv : Value} {out : List Node} {ov : Value} {W W1 : World}
theorem AppRel.push {v1 : Value} {m : Node} (h : AppRel w g root base bv out ov W) (hR : kNode.R 26 W1 w.heap.size (fun k => some k ≠ bv.ownBlock) v1 (out ++ [m])) (hg : W.grownBy W1 ov.ownBlock) :
    W1.heap[g]? = some (.cells #[ov, .int .i64 root] 39 (0, 0)) ∧ AppRel w g root base bv (out ++ [m]) v1 (W1.setCell ⟨g, 0, none⟩ v1) := by
  have hblk := blk_grown h.box hg (Kd.R_ne h.rows h.box (by decide))
  refine ⟨hblk, ?_, h.ge, R_type hR hblk (by decide) _ _, R_type (Kd.R_over h.br (Kd.R_mono h.rows (fun _ _ => trivial) : kNode.R 26 W w.heap.size (fun _ => True) ov out) (by decide) hg) hblk (by decide) _ _⟩
  have := blk_set hblk 0 v1
  simpa using this
end
end Go.Proofs.YtglfebpgdghlfaaDoor.L
end
section
namespace Go.Proofs.YtglfebpgdghlfaaDoor.L
open Go.RowKit Go.ChangeShapes Go.WideShapes Go.Proofs.YtglfebpgdghlfaaDoorW.PrintWords Go.Proofs.YtglfebpgdghlfaaDoorW.PrintLast Go.Proofs.YtglfebpgdghlfaaDoorW.PrintMore
attribute [local go_sem] max2_int min2_int max_two min_two max_three min_three max_four min_four
def PO (ns : List Node) (m : List Int) : Prop := ∀ (a : List Int) (x : Int) (b : List Int), m = a ++ x :: b → ∀ k ∈ kids ns x, k ∈ a
theorem PO.nil (ns : List Node) : PO ns [] := fun a x b e => by
  have := congrArg List.length e
  simp at this
theorem PO.snoc {ns : List Node} {m : List Int} {x : Int} (h : PO ns m) (hk : ∀ k ∈ kids ns x, k ∈ m) : PO ns (m ++ [x]) := fun a y b e => by
  rcases snoc_cases b with rfl | ⟨b', z, rfl⟩
  · have e1 : m ++ [x] = a ++ [y] := e
    obtain ⟨rfl, e2⟩ := List.append_inj' e1 rfl
    injection e2 with e2
    subst e2
    exact hk
  · have e1 : m ++ [x] = (a ++ y :: b') ++ [z] := by rw [e]; simp
    obtain ⟨e2, _⟩ := List.append_inj' e1 rfl
    exact h a y b' e2
theorem isC_root {s : Scene} (h : Right s) (hc : isC s = true) : s.root = (s.nodes.length : Int) - 1 := by
  have e := isC_eq h hc
  have e2 : s.root = (⟨canonL s, (s.nodes.length : Int) - 1⟩ : Scene).root := congrArg Scene.root e
  exact e2
def keepO (i : Nat) : Opn := ⟨1, (i : Int), [], [], nodez⟩
theorem fin_same {s : Scene} (hty : (typedS newTab s.nodes).1 = 0) (h : Right s) (hc : isC s = true) : finR s.nodes = (s, 0, 0) := by
  have e : sceneOf s.nodes = s := by
    unfold sceneOf
    rw [← isC_root h hc]
  unfold finR
  rw [if_pos hty, e, if_pos (gcheck_right.2 h), if_pos hc]
end Go.Proofs.YtglfebpgdghlfaaDoor.L
end
section
namespace Go.Proofs.YtglfebpgdghlfaaDoor.L
open Go.RowKit Go.ChangeShapes Go.WideShapes Go.Proofs.YtglfebpgdghlfaaDoorW.PrintWords Go.Proofs.YtglfebpgdghlfaaDoorW.PrintLast Go.Proofs.YtglfebpgdghlfaaDoorW.PrintMore
attribute [local go_sem] max2_int min2_int max_two min_two max_three min_three max_four min_four
theorem one_right (n : Node) (hk : n.kids = []) : Right ⟨[n], 0⟩ := by
  have hk0 : ∀ p : Nat, p < 1 → kids [n] (p : Int) = [] := fun p hp => by
    obtain rfl : p = 0 := by omega
    exact hk
  refine ⟨by show (0 : Int) ≤ 0; omega, by show (0 : Int) < ([n].length : Int); simp, fun p hp k hk' => ?_, fun p hp hc => ?_, fun p hp => ?_⟩
  · have h1 : p < 1 := by simpa using hp
    have h2 : k ∈ kids [n] (p : Int) := by rw [kids_nat]; exact hk'
    rw [hk0 p h1] at h2
    simp at h2
  · have h1 : p < 1 := by simpa using hp
    have hc' : Rch [n] (kids [n] (p : Int)) (p : Int) := hc
    rw [hk0 p h1] at hc'
    have : ∀ x, ¬ Rch [n] [] x := fun x hr => by
      induction hr with
      | base hb => simp at hb
      | step _ _ ih => exact ih
    exact this _ hc'
  · obtain rfl : p = 0 := by simpa using hp
    exact .base (by simp)
theorem one_isC (n : Node) (hk : n.kids = []) : isC ⟨[n], 0⟩ = true := by
  refine (isC_iff (one_right n hk)).2 ?_
  have ho : ord ⟨[n], 0⟩ = [0] := by
    have hl := ord_len (one_right n hk)
    have hp := ord_pl (one_right n hk)
    match h : ord ⟨[n], 0⟩, hl with
    | [x], _ =>
      have := hp x (by rw [h]; simp)
      have h1 := this.1
      have h2 := this.2
      have h3 : (([n] : List Node).length : Int) = 1 := rfl
      have : x = 0 := by
        have h4 : x < (([n] : List Node).length : Int) := h2
        omega
      rw [this]
  have hc : canonL ⟨[n], 0⟩ = [n] := by
    unfold canonL
    rw [ho]
    show [relab _ (nd [n] 0)] = [n]
    unfold relab
    have e : (nd [n] 0) = n := rfl
    rw [e, hk]
    cases n
    simp only at hk
    subst hk
    rfl
  rw [hc]
  rfl
def bA : Node := ⟨4, [1], [⟨#[97]⟩], []⟩
def bB : Node := ⟨4, [2], [⟨#[97]⟩], []⟩
def sA : Scene := ⟨[bA], 0⟩
def sB : Scene := ⟨[bB], 0⟩
def eO : Opn := ⟨2, 0, [⟨false, 0, 2, ByteArray.empty⟩], [], nodez⟩
theorem sA_typed : (typedS newTab sA.nodes).1 = 0 := by kernel_rfl
theorem sB_typed : (typedS newTab sB.nodes).1 = 0 := by kernel_rfl
theorem sA_c : isC sA = true := one_isC bA rfl
theorem sB_c : isC sB = true := one_isC bB rfl
theorem sA_edit : applyR sA [eO] = (sB, 0, 0) := by
  unfold applyR
  rw [if_pos sA_typed, if_pos sA_c]
  have h1 : oneN sA.nodes [] eO = (bB, 0) := by kernel_rfl
  have h2 : doErr sA.nodes [] 0 eO = 0 := by
    unfold doErr
    rw [h1]
    kernel_rfl
  have h3 : runO sA.nodes [eO] [] [] 0 = .inl [bB] := by
    show (if doErr sA.nodes [] 0 eO = 0 then Sum.inl ([] ++ [(oneN sA.nodes [] eO).1]) else _) = _
    rw [if_pos h2, h1]
    rfl
  rw [h3]
  exact fin_same sB_typed (isC_right sB_c) sB_c
theorem sA_twice : applyR sA [keepO 0, keepO 0] = (⟨[], 0⟩, 21, 1) := by
  unfold applyR
  rw [if_pos sA_typed, if_pos sA_c]
  have h1 : oneN sA.nodes [] (keepO 0) = (bA, 0) := by kernel_rfl
  have h2 : doErr sA.nodes [] 0 (keepO 0) = 0 := by
    unfold doErr
    rw [h1]
    kernel_rfl
  have h3 : doErr sA.nodes [0] 1 (keepO 0) = 21 := by kernel_rfl
  have h4 : runO sA.nodes [keepO 0, keepO 0] [] [] 0 = .inr (21, 1) := by
    show (if doErr sA.nodes [] 0 (keepO 0) = 0 then (if doErr sA.nodes [0] 1 (keepO 0) = 0 then _ else Sum.inr (doErr sA.nodes [0] 1 (keepO 0), 1)) else _) = _
    rw [if_pos h2, h3]
    rfl
  rw [h4]
  rfl
theorem sA_none : applyR sA [] = (⟨[], 0⟩, 13, -1) := by
  unfold applyR
  rw [if_pos sA_typed, if_pos sA_c]
  show finR [] = _
  unfold finR
  have h1 : (typedS newTab ([] : List Node)).1 = 0 := rfl
  have h2 : gcheck (sceneOf []) = (13, -1) := by
    unfold gcheck
    rw [if_pos (.inl (by decide))]
  rw [if_pos h1, h2]
  rfl
theorem sA_ok : ∀ i : Nat, i < sA.nodes.length → OkN 4000 (nd sA.nodes i) := fun i hi => by
  match i, hi with
  | 0, _ => exact ⟨by decide, by decide, by decide, fun x hx => by
      have : x = ⟨#[97]⟩ := by simpa [sA, bA, nd] using hx
      subst this
      decide⟩
  | i + 1, h => exact absurd h (by show ¬ i + 1 < 1; omega)
theorem sB_small : ∀ i : Nat, i < sB.nodes.length → Small (nd sB.nodes i) := fun i hi => by
  match i, hi with
  | 0, _ => exact ⟨by decide, by decide, by decide⟩
  | i + 1, h => exact absurd h (by show ¬ i + 1 < 1; omega)
theorem eO_ok : ∀ k : Nat, k < [eO].length → OpOk (op [eO] k) := fun k hk => by
  match k, hk with
  | 0, _ => exact ⟨⟨by decide, by decide, by decide, fun x hx => by simp [op, eO, nodez] at hx⟩, by decide, by decide, fun x hx => by
      have : x = ⟨false, 0, 2, ByteArray.empty⟩ := by simpa [op, eO] using hx
      subst this
      decide, by decide, by decide, by decide, by decide⟩
  | k + 1, h => exact absurd h (by show ¬ k + 1 < 1; omega)
theorem keepO_ok (i : Nat) (hi : i ≤ 1000000) : OpOk (keepO i) :=
  ⟨⟨by simp [keepO, nodez], by simp [keepO, nodez], by simp [keepO, nodez], fun x hx => by simp [keepO, nodez] at hx⟩, by simp [keepO], by simp [keepO], fun x hx => by simp [keepO] at hx, by simp [keepO], by simp [keepO], by show -9223372036854775808 ≤ (i : Int); omega, by show (i : Int) ≤ 9223372036854775807; omega⟩
theorem kk_ok : ∀ k : Nat, k < [keepO 0, keepO 0].length → OpOk (op [keepO 0, keepO 0] k) := fun k hk => by
  match k, hk with
  | 0, _ => exact keepO_ok 0 (by omega)
  | 1, _ => exact keepO_ok 0 (by omega)
  | k + 2, h => exact absurd h (by show ¬ k + 2 < 2; omega)
end Go.Proofs.YtglfebpgdghlfaaDoor.L
end
section
namespace Go.Proofs.YtglfebpgdghlfaaDoor.L
open Go.RowKit Go.ChangeShapes Go.WideShapes Go.Proofs.YtglfebpgdghlfaaDoorW.PrintWords Go.Proofs.YtglfebpgdghlfaaDoorW.PrintLast Go.Proofs.YtglfebpgdghlfaaDoorW.PrintMore
attribute [local go_sem] max2_int min2_int max_two min_two max_three min_three max_four min_four
theorem kOpn_mk {w : World} {o : Opn} {B1 : Option Addr} {d1 : Nat} {B2 : Option Addr} {d2 : Nat} {A1 : Option Addr} {c1 : Nat} {A2 : Option Addr} {c2 : Nat} {A3 : Option Addr} {c3 : Nat} (h : OpnC w o B1 d1 B2 d2 A1 c1 A2 c2 A3 c3) :
    kOpn.K w o [.int .i64 o.kind, .int .i64 o.base, .slice B1 o.sets.length d1, .slice B2 o.script.length d2, .int .i64 o.node.kind, .slice A1 o.node.ints.length c1, .slice A2 o.node.texts.length c2, .slice A3 o.node.kids.length c3] :=
  ⟨[_], _, rfl, rfl, [_], _, rfl, rfl, [_], _, rfl, ⟨B1, d1, rfl, h.ls, h.s⟩, [_], _, rfl, ⟨B2, d2, rfl, h.le, h.e⟩, kNode_mk h.n⟩
end Go.Proofs.YtglfebpgdghlfaaDoor.L
end
section
namespace Go.Proofs.YtglfebpgdghlfaaDoor.L
open Go.RowKit Go.ChangeShapes Go.WideShapes Go.Proofs.YtglfebpgdghlfaaDoorW.PrintWords Go.Proofs.YtglfebpgdghlfaaDoorW.PrintLast Go.Proofs.YtglfebpgdghlfaaDoorW.PrintMore
attribute [local go_sem] max2_int min2_int max_two min_two max_three min_three max_four min_four
abbrev nO1 (x : Int) : Obj := .cells #[.int .i64 x] 2
abbrev nO2 : Obj := .cells #[.string ⟨#[97]⟩] 9
abbrev nO3 (g : Nat) : Obj := .cells #[.int .i64 4, .slice (some ⟨g, 0, none⟩) 1 1, .slice (some ⟨g + 1, 0, none⟩) 1 1, .slice none 0 0] 26
theorem nB_C (w : World) (x : Int) (g : Nat) (hg : w.heap.size = g) : kNode.C (((w.alloc (nO1 x)).alloc nO2).alloc (nO3 g)) (some ⟨g + 1 + 1, 0, none⟩) 1 [⟨4, [x], [⟨#[97]⟩], []⟩] := by
  subst hg
  refine C_lits kNode _ 26 _ (by simp) [⟨4, [x], [⟨#[97]⟩], []⟩] [.int .i64 4, .slice (some ⟨w.heap.size, 0, none⟩) 1 1, .slice (some ⟨w.heap.size + 1, 0, none⟩) 1 1, .slice none 0 0] ?_ (by simp) rfl
  refine ⟨_, _, (show _ = [_, _, _, _] ++ [] from rfl), ?_, rfl⟩
  exact kNode_mk (x := ⟨4, [x], [⟨#[97]⟩], []⟩) ⟨by simp, by simp, by simp, Kd.C_alloc (C_ints w _ _ rfl [x] (by simp) rfl) _, C_strs _ _ _ (by simp) [⟨#[97]⟩] (by simp) rfl, C_nil _ _⟩
theorem eO_C (w : World) (g : Nat) (hg : w.heap.size = g) : kOpn.C ((w.alloc (.cells #[.bool false, .int .i64 0, .int .i64 2, .string ByteArray.empty] 84)).alloc (.cells #[.int .i64 2, .int .i64 0, .slice (some ⟨g, 0, none⟩) 1 1, .slice none 0 0, .int .i64 0, .slice none 0 0, .slice none 0 0, .slice none 0 0] 61)) (some ⟨g + 1, 0, none⟩) 1 [eO] := by
  subst hg
  refine C_lits kOpn _ 61 _ (by simp) [eO] [.int .i64 2, .int .i64 0, .slice (some ⟨w.heap.size, 0, none⟩) 1 1, .slice none 0 0, .int .i64 0, .slice none 0 0, .slice none 0 0, .slice none 0 0] ?_ (by simp) rfl
  refine ⟨_, _, (show _ = [_, _, _, _, _, _, _, _] ++ [] from rfl), ?_, rfl⟩
  refine kOpn_mk (o := eO) ⟨by simp [eO], ?_, by simp [eO], C_nil _ _, by simp [eO, nodez], by simp [eO, nodez], by simp [eO, nodez], C_nil _ _, C_nil _ _, C_nil _ _⟩
  refine C_lits kSet w 84 _ rfl [⟨false, 0, 2, ByteArray.empty⟩] [.bool false, .int .i64 0, .int .i64 2, .string ByteArray.empty] ?_ (by simp) rfl
  exact ⟨_, _, (show _ = [_, _, _, _] ++ [] from rfl), kSet.K_of_M (kSet_mk w 0 (fun _ => True) ⟨false, 0, 2, ByteArray.empty⟩), rfl⟩
theorem kk_C (w : World) (g : Nat) (hg : w.heap.size = g) : kOpn.C (w.alloc (.cells #[.int .i64 1, .int .i64 0, .slice none 0 0, .slice none 0 0, .int .i64 0, .slice none 0 0, .slice none 0 0, .slice none 0 0, .int .i64 1, .int .i64 0, .slice none 0 0, .slice none 0 0, .int .i64 0, .slice none 0 0, .slice none 0 0, .slice none 0 0] 61)) (some ⟨g, 0, none⟩) 2 [keepO 0, keepO 0] := by
  subst hg
  have hk : kOpn.K w (keepO 0) [.int .i64 1, .int .i64 0, .slice none 0 0, .slice none 0 0, .int .i64 0, .slice none 0 0, .slice none 0 0, .slice none 0 0] :=
    kOpn_mk (o := keepO 0) ⟨by simp [keepO], C_nil _ _, by simp [keepO], C_nil _ _, by simp [keepO, nodez], by simp [keepO, nodez], by simp [keepO, nodez], C_nil _ _, C_nil _ _, C_nil _ _⟩
  refine C_lits kOpn _ 61 _ rfl [keepO 0, keepO 0] _ ⟨_, _, rfl, hk, _, _, (show _ = [_, _, _, _, _, _, _, _] ++ [] from rfl), hk, rfl⟩ (by simp) rfl
set_option maxRecDepth 100000 in
set_option maxHeartbeats 4000000 in
theorem rawake_any (w : World) (hT : Tabs w) : Calls Tryd.prog 27 #[] w fun e w' => e = .returned (.bool true) ∧ Below w.heap.size w w' := by
  have HT := Aside0.mk hT
  have hua := Tryd.underlying39
  have hun := Tryd.underlying26
  have huo := Tryd.underlying61
  have hus := Tryd.underlying84
  clear hT
  go_enter Tryd.func27, Tryd.ntmps27
  go_wp2_with fail
  refine (rapp_any _ _ sA _ _ [eO] _ ?_ ?_ ?_ (by decide) (by decide) sA_ok eO_ok (by decide)).mono ?_
  · exact Kd.C_alloc (Kd.C_alloc (Kd.C_alloc (Kd.C_alloc (Kd.C_alloc (Kd.C_alloc (Kd.C_alloc (nB_C w 1 _ rfl) _) _) _) _) _) _) _
  · exact eO_C _ _ (by simp)
  · exact HT.out.below (below_alloc (below_alloc (below_alloc (below_alloc (below_alloc (below_alloc (below_alloc (below_alloc (below_alloc (below_alloc (Below.refl _ _) _) _) _) _) _) _) _) _) _) _)
  rintro e w1 ⟨A1, c1, rfl, hR1, hB1⟩
  rw [sA_edit] at hR1 ⊢
  have HB1 : Aside0 (Below w.heap.size w w1) := ⟨below_step (below_alloc (below_alloc (below_alloc (below_alloc (below_alloc (below_alloc (below_alloc (below_alloc (below_alloc (below_alloc (Below.refl _ _) _) _) _) _) _) _) _) _) _) _) hB1⟩
  have k0 : w1.cell? ⟨w.heap.size + 1 + 1 + 1, 0, none⟩ = some (.slice (some ⟨w.heap.size + 1 + 1, 0, none⟩) 1 1) := pw_cell_below hB1 (pw_cell_below (below_alloc (below_alloc (below_alloc (below_alloc (below_alloc (below_alloc (Below.refl _ _) _) _) _) _) _) _) (box_cell _ _ (by simp) #[.slice (some ⟨w.heap.size + 1 + 1, 0, none⟩) 1 1, .int .i64 0] _ 0 _ rfl))
  have k1 : w1.cell? ⟨w.heap.size + 1 + 1 + 1, 1, none⟩ = some (.int .i64 0) := pw_cell_below hB1 (pw_cell_below (below_alloc (below_alloc (below_alloc (below_alloc (below_alloc (below_alloc (Below.refl _ _) _) _) _) _) _) _) (box_cell _ _ (by simp) #[.slice (some ⟨w.heap.size + 1 + 1, 0, none⟩) 1 1, .int .i64 0] _ 1 _ rfl))
  have k2 : w1.cell? ⟨w.heap.size + 1 + 1 + 1 + 1 + 1 + 1 + 1, 0, none⟩ = some (.slice (some ⟨w.heap.size + 1 + 1 + 1 + 1 + 1 + 1, 0, none⟩) 1 1) := pw_cell_below hB1 (pw_cell_below (below_alloc (below_alloc (Below.refl _ _) _) _) (box_cell _ _ (by simp) #[.slice (some ⟨w.heap.size + 1 + 1 + 1 + 1 + 1 + 1, 0, none⟩) 1 1, .int .i64 0] _ 0 _ rfl))
  have k3 : w1.cell? ⟨w.heap.size + 1 + 1 + 1 + 1 + 1 + 1 + 1, 1, none⟩ = some (.int .i64 0) := pw_cell_below hB1 (pw_cell_below (below_alloc (below_alloc (Below.refl _ _) _) _) (box_cell _ _ (by simp) #[.slice (some ⟨w.heap.size + 1 + 1 + 1 + 1 + 1 + 1, 0, none⟩) 1 1, .int .i64 0] _ 1 _ rfl))
  have HA : Aside0 (kNode.C w1 (some ⟨w.heap.size + 1 + 1, 0, none⟩) 1 sA.nodes) := ⟨Kd.C_below (Kd.C_alloc (Kd.C_alloc (Kd.C_alloc (Kd.C_alloc (Kd.C_alloc (Kd.C_alloc (Kd.C_alloc (nB_C w 1 _ rfl) _) _) _) _) _) _) _) hB1⟩
  have HBn : Aside0 (kNode.C w1 (some ⟨w.heap.size + 1 + 1 + 1 + 1 + 1 + 1, 0, none⟩) 1 sB.nodes) := ⟨Kd.C_below (Kd.C_alloc (Kd.C_alloc (Kd.C_alloc (nB_C _ 2 _ (by simp)) _) _) _) hB1⟩
  have HC1 := Aside0.mk (Kd.R_reads' hR1).2.2
  have q0 := box_cell w1 _ rfl #[.slice A1 sB.nodes.length c1, .int .i64 sB.root] 39 0 (.slice A1 sB.nodes.length c1) rfl
  have q1 := box_cell w1 _ rfl #[.slice A1 sB.nodes.length c1, .int .i64 sB.root] 39 1 (.int .i64 sB.root) rfl
  have hA1 := below_alloc (Below.refl w1.heap.size w1) (.cells #[.slice A1 sB.nodes.length c1, .int .i64 sB.root] 39)
  replace k0 := pw_cell_below hA1 k0
  replace k1 := pw_cell_below hA1 k1
  replace k2 := pw_cell_below hA1 k2
  replace k3 := pw_cell_below hA1 k3
  have HB2 := Aside0.mk (below_step HB1.out hA1)
  have HA2 := Aside0.mk (Kd.C_below HA.out hA1)
  have HBn2 := Aside0.mk (Kd.C_below HBn.out hA1)
  have HC2 := Aside0.mk (Kd.C_below HC1.out hA1)
  clear hR1 hB1 HA HBn HC1 hA1 HB1
  go_wp2_with fail
  refine (rapp_any _ _ sA _ _ [keepO 0, keepO 0] _ ?_ ?_ ?_ (by decide) (by decide) sA_ok kk_ok (by decide)).mono ?_
  · exact Kd.C_alloc HA2.out _
  · exact kk_C _ _ (by simp)
  · exact HT.out.below (below_alloc HB2.out _)
  rintro e w2 ⟨A2, c2, rfl, hR2, hB2⟩
  rw [sA_twice] at hR2 ⊢
  have HB3 := Aside0.mk (below_step (below_alloc HB2.out _) hB2)
  have HA3 := Aside0.mk (Kd.C_below (Kd.C_alloc HA2.out _) hB2)
  have HBn3 := Aside0.mk (Kd.C_below (Kd.C_alloc HBn2.out _) hB2)
  have HC3 := Aside0.mk (Kd.C_below (Kd.C_alloc HC2.out _) hB2)
  replace k0 := pw_cell_below hB2 (pw_cell_below (below_alloc (Below.refl _ _) _) k0)
  replace k1 := pw_cell_below hB2 (pw_cell_below (below_alloc (Below.refl _ _) _) k1)
  replace k2 := pw_cell_below hB2 (pw_cell_below (below_alloc (Below.refl _ _) _) k2)
  replace k3 := pw_cell_below hB2 (pw_cell_below (below_alloc (Below.refl _ _) _) k3)
  replace q0 := pw_cell_below hB2 (pw_cell_below (below_alloc (Below.refl _ _) _) q0)
  replace q1 := pw_cell_below hB2 (pw_cell_below (below_alloc (Below.refl _ _) _) q1)
  have hA3 := below_alloc (Below.refl w2.heap.size w2) (.cells #[.slice A2 0 c2, .int .i64 0] 39)
  replace k0 := pw_cell_below hA3 k0
  replace k1 := pw_cell_below hA3 k1
  replace k2 := pw_cell_below hA3 k2
  replace k3 := pw_cell_below hA3 k3
  replace q0 := pw_cell_below hA3 q0
  replace q1 := pw_cell_below hA3 q1
  have HB4 := Aside0.mk (below_step HB3.out hA3)
  have HA4 := Aside0.mk (Kd.C_below HA3.out hA3)
  have HBn4 := Aside0.mk (Kd.C_below HBn3.out hA3)
  have HC4 := Aside0.mk (Kd.C_below HC3.out hA3)
  clear hR2 hB2 HB2 HA2 HBn2 HC2 HB3 HA3 HBn3 HC3 hA3
  go_wp2_with fail
  refine (rapp_any _ _ sA _ _ [] _ ?_ ?_ ?_ (by decide) (by decide) sA_ok (fun k hk => absurd hk (Nat.not_lt_zero k)) (by decide)).mono ?_
  · exact HA4.out
  · exact C_nil _ _
  · exact HT.out.below HB4.out
  rintro e w3 ⟨A3, c3, rfl, hR3, hB3⟩
  rw [sA_none] at hR3 ⊢
  have hA5 := below_alloc (Below.refl w3.heap.size w3) (.cells #[.slice A3 0 c3, .int .i64 0] 39)
  replace k2 := pw_cell_below hA5 (pw_cell_below hB3 k2)
  replace k3 := pw_cell_below hA5 (pw_cell_below hB3 k3)
  replace q0 := pw_cell_below hA5 (pw_cell_below hB3 q0)
  replace q1 := pw_cell_below hA5 (pw_cell_below hB3 q1)
  have HB5 := Aside0.mk (below_step (below_step HB4.out hB3) hA5)
  have HBn5 := Aside0.mk (Kd.C_below (Kd.C_below HBn4.out hB3) hA5)
  have HC5 := Aside0.mk (Kd.C_below (Kd.C_below HC4.out hB3) hA5)
  clear hR3 hB3 HB4 HA4 HBn4 HC4 hA5 k0 k1
  go_wp2_with fail
  refine (sameS_any _ _ sB _ _ sB _ HC5.out HBn5.out sB_small).mono ?_
  rintro e w4 ⟨rfl, hB4⟩
  rw [sameS_yes rfl]
  have HB6 := Aside0.mk (below_step HB5.out hB4)
  clear hB4 k2 k3 q0 q1
  go_wp2
  go_ret
  exact ⟨rfl, HB6.out⟩
end Go.Proofs.YtglfebpgdghlfaaDoor.L
end
section
namespace Go.Proofs.YtglfebpgdghlfaaDoor.L
open Go.RowKit Go.ChangeShapes Go.WideShapes Go.Proofs.YtglfebpgdghlfaaDoorW.PrintWords Go.Proofs.YtglfebpgdghlfaaDoorW.PrintLast Go.Proofs.YtglfebpgdghlfaaDoorW.PrintMore
attribute [local go_sem] max2_int min2_int max_two min_two max_three min_three max_four min_four
def setsBad (l : List SetV) : Prop := ∃ i, i < l.length ∧ 500 < (st l i).s.size
def greatOp (o : Opn) : Prop := greatN o.node = true ∨ 50 < o.sets.length ∨ 100 < o.script.length ∨ setsBad o.sets
instance (l : List SetV) : Decidable (setsBad l) := by unfold setsBad; infer_instance
instance (o : Opn) : Decidable (greatOp o) := by unfold greatOp; infer_instance
def greatO (l : List Opn) : Bool := decide (60 < l.length ∨ ∃ j, j < l.length ∧ greatOp (op l j))
theorem greatO_long {l : List Opn} (h : 60 < l.length) : greatO l = true := decide_eq_true (.inl h)
theorem greatO_at {l : List Opn} {j : Nat} (hj : j < l.length) (h : greatOp (op l j)) : greatO l = true := decide_eq_true (.inr ⟨j, hj, h⟩)
theorem greatO_no {l : List Opn} (h1 : ¬ 60 < l.length) (h : ∀ j : Nat, j < l.length → ¬ greatOp (op l j)) : greatO l = false := decide_eq_false (fun hh => by
  rcases hh with hh | ⟨j, hj, hh⟩
  · exact h1 hh
  · exact h j hj hh)
set_option maxRecDepth 100000 in
set_option maxHeartbeats 4000000 in
theorem greatO_any (Al : Option Addr) (cl : Nat) (l : List Opn) (w : World) (h : kOpn.C w Al l.length l) :
    Calls Tryd.prog 53 #[.slice Al l.length cl] w fun e w' => e = .returned (.bool (greatO l)) ∧ Below w.heap.size w w' := by
  have HR := Aside0.mk h
  have b0 := h.2.1
  have HB := Aside0.mk (Below.refl w.heap.size w)
  have huo := Tryd.underlying61
  have hus := Tryd.underlying84
  have hun := Tryd.underlying26
  clear h
  by_cases h1 : 60 < l.length
  · have HE := Aside0.mk (greatO_long h1)
    have d1 : decide (60 < (l.length : Int)) = true := decide_eq_true (by omega)
    clear h1
    go_enter Tryd.func53, Tryd.ntmps53
    go_wp2
    go_ret
    exact ⟨ret_bool HE.out.symm, HB.out⟩
  have H1 := Aside0.mk h1
  have d1 : decide (60 < (l.length : Int)) = false := decide_eq_false (by omega)
  clear h1
  go_enter Tryd.func53, Tryd.ntmps53
  go_wp2
  clear d1
  go_loopw [3, 4] (fun v3 _ W => ∃ i : Nat, i ≤ l.length ∧ v3 = .int .i64 i ∧ Aside0 (∀ j : Nat, j < i → ¬ greatOp (op l j)) ∧ Aside0 (Below w.heap.size w W)) (fun v3 _ _ => l.length - (intOf v3).toNat)
  case atStart => exact ⟨0, by omega, rfl, ⟨fun j h => by omega⟩, HB⟩
  case round =>
    clear HB
    obtain ⟨i, hi, rfl, HJ, HW⟩ := hrel
    by_cases hlt : i < l.length
    · obtain ⟨ad, B1, d1, B2, d2, A1, c1, A2, c2, A3, c3, rfl, x0, x1, x2, x3, x4, x5, x6, x7, hO⟩ := at_op HR.out i hlt
      replace x2 := pw_cell_below HW.out x2
      replace x3 := pw_cell_below HW.out x3
      replace x4 := pw_cell_below HW.out x4
      replace x5 := pw_cell_below HW.out x5
      replace x6 := pw_cell_below HW.out x6
      replace x7 := pw_cell_below HW.out x7
      have HO := Aside0.mk (hO.below HW.out)
      have HAt := Aside0.mk (fun hh => greatO_at (l := l) hlt hh)
      have HNx := Aside0.mk (fun (hh : ¬ greatOp (op l i)) => ext_lt (P := fun j => ¬ greatOp (op l j)) HJ.out hh)
      clear hO x0 x1
      generalize op l i = o at x2 x3 x4 x5 x6 x7 HO HAt HNx
      go_wp2_with fail
      refine (great_any o.node A1 c1 A2 c2 A3 c3 _ HO.out.n).mono ?_
      rintro e w2 ⟨rfl, hB2⟩
      replace x2 := pw_cell_below hB2 x2
      replace x3 := pw_cell_below hB2 x3
      have HO2 := Aside0.mk (HO.out.below hB2)
      have HW2 := Aside0.mk (below_step HW.out hB2)
      clear hB2 x4 x5 x6 x7 HO HW
      cases hg : greatN o.node with
      | true =>
        have HE := Aside0.mk (HAt.out (.inl hg))
        clear hg
        go_wp2
        go_ret
        exact ⟨ret_bool HE.out.symm, HW2.out⟩
      | false =>
        have HG := Aside0.mk (show ¬ greatN o.node = true from by rw [hg]; simp)
        clear hg
        have hls := HO2.out.s.2.1
        have hle := HO2.out.e.2.1
        by_cases h2 : 50 < o.sets.length
        · have HE := Aside0.mk (HAt.out (.inr (.inl h2)))
          have d2 : decide (50 < (o.sets.length : Int)) = true := decide_eq_true (by omega)
          clear h2
          go_wp2
          go_ret
          exact ⟨ret_bool HE.out.symm, HW2.out⟩
        have H2 := Aside0.mk h2
        have d2 : decide (50 < (o.sets.length : Int)) = false := decide_eq_false (by omega)
        clear h2
        by_cases h3 : 100 < o.script.length
        · have HE := Aside0.mk (HAt.out (.inr (.inr (.inl h3))))
          have d3 : decide (100 < (o.script.length : Int)) = true := decide_eq_true (by omega)
          clear h3
          go_wp2
          go_ret
          exact ⟨ret_bool HE.out.symm, HW2.out⟩
        have H3 := Aside0.mk h3
        have d3 : decide (100 < (o.script.length : Int)) = false := decide_eq_false (by omega)
        clear h3
        go_wp2
        clear d2 d3
        go_loopw [4] (fun v4 W => ∃ k : Nat, k ≤ o.sets.length ∧ v4 = .int .i64 k ∧ Aside0 (∀ j : Nat, j < k → ¬ 500 < (st o.sets j).s.size) ∧ Aside0 (Below w.heap.size w W ∧ W.cell? ⟨(ad.add (i * 8)).block, (ad.add (i * 8)).off + 2, none⟩ = some (.slice B1 o.sets.length d1) ∧ kSet.C W B1 o.sets.length o.sets)) (fun v4 _ => o.sets.length - (intOf v4).toNat)
        case atStart => exact ⟨0, by omega, rfl, ⟨fun j h => by omega⟩, ⟨HW2.out, x2, HO2.out.s⟩⟩
        case round =>
          clear x2 x3 HO2 HW2
          obtain ⟨k, hk, rfl, HK, HV⟩ := hrel
          have x2 := HV.out.2.1
          by_cases hk2 : k < o.sets.length
          · obtain ⟨ad2, rfl, y0, y1, y2, y3⟩ := at_set HV.out.2.2 k hk2
            by_cases h5 : 500 < (st o.sets k).s.size
            · have HE := Aside0.mk (HAt.out (.inr (.inr (.inr ⟨k, hk2, h5⟩))))
              have d5 : decide (500 < ((st o.sets k).s.size : Int)) = true := decide_eq_true (by omega)
              clear h5
              go_wp2
              go_ret
              exact ⟨ret_bool HE.out.symm, HV.out.1⟩
            · have HK2 := Aside0.mk (ext_lt HK.out h5)
              have d5 : decide (500 < ((st o.sets k).s.size : Int)) = false := decide_eq_false (by omega)
              clear h5
              go_wp2
              go_roundw
              case rel => exact ⟨k + 1, by omega, by go_num, HK2, HV⟩
              case measure => simp [intOf]; omega
          · have HN := Aside0.mk (HNx.out (fun hh => by
              rcases hh with hh | hh | hh | ⟨j, hj, hh⟩
              · exact HG.out hh
              · exact H2.out hh
              · exact H3.out hh
              · exact HK.out j (by omega) hh))
            have HV1 := Aside0.mk HV.out.1
            go_wp2
            go_roundw
            case rel => exact ⟨i + 1, by omega, by go_num, HN, HV1⟩
            case measure => simp [intOf]; omega
    · obtain rfl : i = l.length := by omega
      have HE := Aside0.mk (greatO_no H1.out HJ.out)
      go_wp2
      go_ret
      exact ⟨ret_bool HE.out.symm, HW.out⟩
end Go.Proofs.YtglfebpgdghlfaaDoor.L
end
section
namespace Go.Proofs.YtglfebpgdghlfaaDoor.L
open Go.RowKit Go.ChangeShapes Go.WideShapes Go.Proofs.YtglfebpgdghlfaaDoorW.PrintWords Go.Proofs.YtglfebpgdghlfaaDoorW.PrintLast Go.Proofs.YtglfebpgdghlfaaDoorW.PrintMore
attribute [local go_sem] max2_int min2_int max_two min_two max_three min_three max_four min_four
theorem runO_ok {a : List Node} (ha : ∀ i : Nat, i < a.length → OkN 4000 (nd a i)) : ∀ (l : List Opn) (base : List Int) (out : List Node) (i : Nat), (∀ o ∈ l, OpOk o) → (∀ k : Nat, k < out.length → OkN 5000 (nd out k)) →
    ∀ out', runO a l base out i = .inl out' → (∀ k : Nat, k < out'.length → OkN 5000 (nd out' k)) ∧ out'.length = out.length + l.length
  | [], base, out, i, _, ho, out', h => by
    have h' : (Sum.inl out : List Node ⊕ (Int × Nat)) = .inl out' := h
    injection h' with h'
    subst h'
    exact ⟨ho, rfl⟩
  | o :: l, base, out, i, hl, ho, out', h => by
    have h' : (if doErr a base out.length o = 0 then runO a l (base ++ [baseOf o]) (out ++ [(oneN a base o).1]) (i + 1) else .inr (doErr a base out.length o, i)) = .inl out' := h
    by_cases hz : doErr a base out.length o = 0
    · rw [if_pos hz] at h'
      have h0 : (oneN a base o).2 = 0 := by
        refine Classical.byContradiction fun hn0 => ?_
        unfold doErr at hz
        rw [if_neg hn0] at hz
        exact hn0 hz
      obtain ⟨h1, h2⟩ := runO_ok ha l (base ++ [baseOf o]) (out ++ [(oneN a base o).1]) (i + 1) (fun x hx => hl x (by simp [hx])) (nd_snoc ho (oneN_ok ha (hl o (by simp)) h0)) out' h'
      refine ⟨h1, ?_⟩
      rw [h2]
      simp only [List.length_append, List.length_cons, List.length_nil]
      omega
    · rw [if_neg hz] at h'
      cases h'
theorem applyR_yes {a : Scene} {l : List Opn} (ha : ∀ i : Nat, i < a.nodes.length → OkN 4000 (nd a.nodes i)) (hl : ∀ o ∈ l, OpOk o) (h : (applyR a l).2.1 = 0) :
    (∀ k : Nat, k < (applyR a l).1.nodes.length → OkN 5000 (nd (applyR a l).1.nodes k)) ∧ (applyR a l).1.nodes.length = l.length ∧ (typedS newTab (applyR a l).1.nodes).1 = 0 ∧ Right (applyR a l).1 ∧ isC (applyR a l).1 = true := by
  unfold applyR at h ⊢
  by_cases h1 : (typedS newTab a.nodes).1 = 0
  · rw [if_pos h1] at h ⊢
    by_cases h2 : isC a = true
    · rw [if_pos h2] at h ⊢
      cases hr : runO a.nodes l [] [] 0 with
      | inr q =>
        rw [hr] at h
        have h' : q.1 = 0 := h
        exfalso
        -- an error is not 0
        have key : ∀ (l : List Opn) (base : List Int) (out : List Node) (i : Nat) (q : Int × Nat), runO a.nodes l base out i = .inr q → ¬ q.1 = 0 := fun l => by
          induction l with
          | nil => intro base out i q h; cases h
          | cons o l ih =>
            intro base out i q h
            have h3 : (if doErr a.nodes base out.length o = 0 then runO a.nodes l (base ++ [baseOf o]) (out ++ [(oneN a.nodes base o).1]) (i + 1) else .inr (doErr a.nodes base out.length o, i)) = .inr q := h
            by_cases hz : doErr a.nodes base out.length o = 0
            · rw [if_pos hz] at h3; exact ih _ _ _ _ h3
            · rw [if_neg hz] at h3
              injection h3 with h3
              subst h3
              exact hz
        exact key _ _ _ _ _ hr h'
      | inl out =>
        rw [hr] at h
        have h' : (finR out).2.1 = 0 := h
        obtain ⟨k1, k2⟩ := runO_ok ha l [] [] 0 hl (fun k hk => by simp at hk) out hr
        show (∀ k : Nat, k < (finR out).1.nodes.length → OkN 5000 (nd (finR out).1.nodes k)) ∧ (finR out).1.nodes.length = l.length ∧ (typedS newTab (finR out).1.nodes).1 = 0 ∧ Right (finR out).1 ∧ isC (finR out).1 = true
        unfold finR at h' ⊢
        by_cases g1 : (typedS newTab out).1 = 0
        · rw [if_pos g1] at h' ⊢
          by_cases g2 : (gcheck (sceneOf out)).1 = 0
          · rw [if_pos g2] at h' ⊢
            by_cases g3 : isC (sceneOf out) = true
            · rw [if_pos g3]
              exact ⟨k1, by rw [List.length_nil] at k2; show out.length = _; omega, g1, gcheck_right.1 g2, g3⟩
            · rw [if_neg g3] at h'
              have h3 : (16 : Int) = 0 := h'
              omega
          · rw [if_neg g2] at h'
            exact absurd h' g2
        · rw [if_neg g1] at h'
          exact absurd h' g1
    · rw [if_neg h2] at h
      have h3 : (16 : Int) = 0 := h
      omega
  · rw [if_neg h1] at h
    exact absurd h h1
theorem applyR_no {a : Scene} {l : List Opn} (h : ¬ (applyR a l).2.1 = 0) : (applyR a l).1.nodes = [] := by
  unfold applyR at h ⊢
  by_cases h1 : (typedS newTab a.nodes).1 = 0
  · rw [if_pos h1] at h ⊢
    by_cases h2 : isC a = true
    · rw [if_pos h2] at h ⊢
      cases hr : runO a.nodes l [] [] 0 with
      | inr q => rfl
      | inl out =>
        rw [hr] at h
        have h' : ¬ (finR out).2.1 = 0 := h
        show (finR out).1.nodes = []
        unfold finR at h' ⊢
        by_cases g1 : (typedS newTab out).1 = 0
        · rw [if_pos g1] at h' ⊢
          by_cases g2 : (gcheck (sceneOf out)).1 = 0
          · rw [if_pos g2] at h' ⊢
            by_cases g3 : isC (sceneOf out) = true
            · rw [if_pos g3] at h'
              exact absurd rfl h'
            · rw [if_neg g3]
          · rw [if_neg g2]
        · rw [if_neg g1]
    · rw [if_neg h2]
  · rw [if_neg h1]
theorem op_all {l : List Opn} {P : Opn → Prop} (h : ∀ k : Nat, k < l.length → P (op l k)) : ∀ o ∈ l, P o := fun o ho => by
  obtain ⟨k, hk, rfl⟩ := List.getElem_of_mem ho
  have := h k hk
  rwa [op_eq hk] at this
end Go.Proofs.YtglfebpgdghlfaaDoor.L
end
section
namespace Go.Proofs.YtglfebpgdghlfaaDoor.L
open Go.RowKit Go.ChangeShapes Go.WideShapes Go.Proofs.YtglfebpgdghlfaaDoorW.PrintWords Go.Proofs.YtglfebpgdghlfaaDoorW.PrintLast Go.Proofs.YtglfebpgdghlfaaDoorW.PrintMore
attribute [local go_sem] max2_int min2_int max_two min_two max_three min_three max_four min_four
theorem RowsPost.drew {l : List Node} {w W : World} {e : Ending} (h : RowsPost l w e W) : RowsPost l w e W.drew := by
  obtain ⟨g, c, he, hS, hB⟩ := h
  exact ⟨g, c, he, Kd.S_drew hS, below_drew hB⟩
end Go.Proofs.YtglfebpgdghlfaaDoor.L
end
section
namespace Go.Proofs.YtglfebpgdghlfaaDoor.L
open Go.RowKit Go.ChangeShapes Go.WideShapes Go.Proofs.YtglfebpgdghlfaaDoorW.PrintWords Go.Proofs.YtglfebpgdghlfaaDoorW.PrintLast Go.Proofs.YtglfebpgdghlfaaDoorW.PrintMore
attribute [local go_sem] max2_int min2_int max_two min_two max_three min_three max_four min_four
open Go.Proofs.YtglfebpgdghlfaaDoor.PUpgradeUps
theorem CnRel.kid {w1 : World} {root : Int} {xs : List Node} {g m c : Nat} {W : World} (h : CnRel w1 root xs (.slice (some ⟨g, 0, none⟩) m c) W) (i : Nat) (hi : i < m) {v : Value} {q : List Int} (hv : (Kd.int .i64).R 3 W w1.heap.size (fun _ => True) v q) :
    (∃ x, W.cell? ⟨g, i * 4 + 3, none⟩ = some x) ∧ W.frozen? ⟨g, i * 4 + 3, none⟩ = false ∧ CnRel w1 root (xs.set i (withKids (nd xs i) q)) (.slice (some ⟨g, 0, none⟩) m c) (W.setCell ⟨g, i * 4 + 3, none⟩ v) := by
  obtain ⟨cs, hcl, hM, hcc, hfr⟩ := R_elemN h.row nodez i hi
  obtain ⟨v1, v2, v3, rfl, h1, h2, h3⟩ := kNode_openM hM
  have hM' : kNode.M W w1.heap.size (fun k => True ∧ k ≠ g) (withKids (nd xs i) q) [.int .i64 (nd xs i).kind, v1, v2, v] :=
    kNode_mkM h1 h2 (Kd.R_mono (Kd.R_tight rfl hv) (fun k hk => ⟨trivial, fun e => R_apart hv h.row (by decide) k hk (by rw [e]; rfl)⟩))
  obtain ⟨hs, hg⟩ := R_segN h.row i hi (seg := [v]) (j := 3) hcl hcc (Nat.le_refl 4) (x' := withKids (nd xs i) q) (okp := fun k => True ∧ k ≠ g) hM' (fun k hk => hk)
  have e : W.setCells g (i * kNode.sz + 3) [v] = W.setCell ⟨g, i * 4 + 3, none⟩ v := rfl
  rw [e] at hs hg
  have hgw := Kd.R_base h.row g rfl
  refine ⟨⟨_, hcc 3 _ rfl⟩, hfr 3, below_set h.below hgw, blk_grown h.out hg (fun e => ?_), hs⟩
  exact (Kd.R_ne h.row h.out (by decide)) e
theorem S_elem {w : World} {base m c : Nat} {A : Option Addr} {xs : List Node} (h : Kd.S kNode 26 w base (fun _ => True) (.slice A m c) xs) (j : Nat) (hj : j < xs.length) :
    ∃ g A1 c1 A2 c2 A3 c3, A = some ⟨g, 0, none⟩ ∧ m = xs.length ∧ w.cell? ⟨g, j * 4, none⟩ = some (.int .i64 (nd xs j).kind) ∧ w.cell? ⟨g, j * 4 + 1, none⟩ = some (.slice A1 (nd xs j).ints.length c1) ∧ w.cell? ⟨g, j * 4 + 2, none⟩ = some (.slice A2 (nd xs j).texts.length c2) ∧ w.cell? ⟨g, j * 4 + 3, none⟩ = some (.slice A3 (nd xs j).kids.length c3) ∧
      (Kd.int .i64).R 2 w base (fun _ => True) (.slice A1 (nd xs j).ints.length c1) (nd xs j).ints ∧ Kd.string.R 9 w base (fun _ => True) (.slice A2 (nd xs j).texts.length c2) (nd xs j).texts ∧ (Kd.int .i64).R 3 w base (fun _ => True) (.slice A3 (nd xs j).kids.length c3) (nd xs j).kids := by
  have hR := Kd.S_R h
  have hm := (Kd.R_reads' hR).1
  obtain ⟨g, c', hv, -⟩ := Kd.R_form hR (by omega)
  injection hv with hA _ hc
  subst hA hc
  obtain ⟨cs, hcl, hM, hcc, hfr⟩ := R_elemN hR nodez j (by omega)
  obtain ⟨v1, v2, v3, rfl, h1, h2, h3⟩ := kNode_openM hM
  obtain ⟨A1, c1, rfl⟩ := Kd.R_slice h1
  obtain ⟨A2, c2, rfl⟩ := Kd.R_slice h2
  obtain ⟨A3, c3, rfl⟩ := Kd.R_slice h3
  exact ⟨g, A1, c1, A2, c2, A3, c3, rfl, hm, hcc 0 _ rfl, hcc 1 _ rfl, hcc 2 _ rfl, hcc 3 _ rfl, Kd.R_mono h1 (fun _ _ => trivial), Kd.R_mono h2 (fun _ _ => trivial), Kd.R_mono h3 (fun _ _ => trivial)⟩
end Go.Proofs.YtglfebpgdghlfaaDoor.L
end
section
namespace Go.Proofs.YtglfebpgdghlfaaDoor.L
open Go.RowKit Go.ChangeShapes Go.WideShapes Go.Proofs.YtglfebpgdghlfaaDoorW.PrintWords Go.Proofs.YtglfebpgdghlfaaDoorW.PrintLast Go.Proofs.YtglfebpgdghlfaaDoorW.PrintMore
attribute [local go_sem] max2_int min2_int max_two min_two max_three min_three max_four min_four
theorem great_small {n : Node} (h : greatN n = false) : Small n ∧ TextsSmall n := by
  have h' := of_decide_eq_false h
  have h1 : ¬ 100 < n.ints.length := fun e => h' (.inl e)
  have h2 : ¬ 100 < n.texts.length := fun e => h' (.inr (.inl e))
  have h3 : ¬ 300 < n.kids.length := fun e => h' (.inr (.inr (.inl e)))
  refine ⟨⟨by omega, by omega, by omega⟩, fun j hj => ?_⟩
  have h4 : ¬ 500 < (str n.texts j).size := fun e => h' (.inr (.inr (.inr ⟨j, hj, e⟩)))
  omega
end Go.Proofs.YtglfebpgdghlfaaDoor.L
end
section
namespace Go.Proofs.YtglfebpgdghlfaaDoor.L
open Go.RowKit Go.ChangeShapes Go.WideShapes Go.Proofs.YtglfebpgdghlfaaDoorW.PrintWords Go.Proofs.YtglfebpgdghlfaaDoorW.PrintLast Go.Proofs.YtglfebpgdghlfaaDoorW.PrintMore
attribute [local go_sem] max2_int min2_int max_two min_two max_three min_three max_four min_four
open Go.Proofs.YtglfebpgdghlfaaDoor.PUpgradeUps
theorem greatS_small {s : Scene} (h : greatS s = false) : s.nodes.length ≤ 60 ∧ (∀ i : Nat, i < s.nodes.length → Small (nd s.nodes i)) ∧ (∀ i : Nat, i < s.nodes.length → TextsSmall (nd s.nodes i)) ∧ (∀ i : Nat, i < s.nodes.length → (nd s.nodes i).kids.length ≤ 300) := by
  have h' := of_decide_eq_false h
  have h1 : ¬ 60 < s.nodes.length := fun e => h' (.inl e)
  have hg : ∀ i : Nat, i < s.nodes.length → greatN (nd s.nodes i) = false := fun i hi => Bool.eq_false_iff.2 (fun e => h' (.inr (.inr ⟨i, hi, e⟩)))
  refine ⟨by omega, fun i hi => (great_small (hg i hi)).1, fun i hi => (great_small (hg i hi)).2, fun i hi => ?_⟩
  have h2 := of_decide_eq_false (hg i hi)
  have h3 : ¬ 300 < (nd s.nodes i).kids.length := fun e => h2 (.inr (.inr (.inl e)))
  omega
theorem sum_le_of {f : Nat → Nat} {b : Nat} : ∀ l : List Nat, (∀ x ∈ l, f x ≤ b) → (l.map f).sum ≤ l.length * b
  | [], _ => by simp
  | x :: l, h => by
    have := sum_le_of (f := f) (b := b) l (fun y hy => h y (by simp [hy]))
    have := h x (by simp)
    rw [List.map_cons, List.sum_cons, List.length_cons, Nat.succ_mul]
    omega
theorem rows_le {ns : List Node} {b : Nat} (h : ∀ i : Nat, i < ns.length → (nd ns i).kids.length ≤ b) : rows ns ≤ ns.length * (b + 1) := by
  unfold rows
  have := sum_le_of (f := wt ns) (b := b + 1) (List.range ns.length) (fun x hx => by
    have := h x (List.mem_range.1 hx)
    unfold wt
    omega)
  rwa [List.length_range] at this
end Go.Proofs.YtglfebpgdghlfaaDoor.L
end
section
namespace Go.Proofs.YtglfebpgdghlfaaDoor.L
open Go.RowKit Go.ChangeShapes Go.WideShapes Go.Proofs.YtglfebpgdghlfaaDoorW.PrintWords Go.Proofs.YtglfebpgdghlfaaDoorW.PrintLast Go.Proofs.YtglfebpgdghlfaaDoorW.PrintMore
attribute [local go_sem] max2_int min2_int max_two min_two max_three min_three max_four min_four
structure OpBd (o : Opn) : Prop where
  k0 : -9223372036854775808 ≤ o.kind
  k1 : o.kind ≤ 9223372036854775807
  b0 : -9223372036854775808 ≤ o.base
  b1 : o.base ≤ 9223372036854775807
theorem great_okN {n : Node} {b : Nat} (h : greatN n = false) (hb : 300 ≤ b) : OkN b n := by
  obtain ⟨h1, h2⟩ := great_small h
  have h3 := of_decide_eq_false h
  have h4 : ¬ 300 < n.kids.length := fun e => h3 (.inr (.inr (.inl e)))
  refine ⟨h1.1, h1.2.1, by omega, fun x hx => ?_⟩
  obtain ⟨j, hj, rfl⟩ := List.getElem_of_mem hx
  have := h2 j hj
  unfold str at this
  rwa [List.getD_eq_getElem?_getD, List.getElem?_eq_getElem hj] at this
theorem greatS_okN {s : Scene} (h : greatS s = false) : ∀ i : Nat, i < s.nodes.length → OkN 4000 (nd s.nodes i) := fun i hi => by
  have h' := of_decide_eq_false h
  exact great_okN (Bool.eq_false_iff.2 (fun e => h' (.inr (.inr ⟨i, hi, e⟩)))) (by omega)
theorem greatO_ok {l : List Opn} (h : greatO l = false) (hb : ∀ k : Nat, k < l.length → OpBd (op l k)) : l.length ≤ 60 ∧ ∀ k : Nat, k < l.length → OpOk (op l k) := by
  have h' := of_decide_eq_false h
  have h1 : ¬ 60 < l.length := fun e => h' (.inl e)
  refine ⟨by omega, fun k hk => ?_⟩
  have h2 : ¬ greatOp (op l k) := fun e => h' (.inr ⟨k, hk, e⟩)
  have hb := hb k hk
  have g1 : greatN (op l k).node = false := Bool.eq_false_iff.2 (fun e => h2 (.inl e))
  have g2 : ¬ 50 < (op l k).sets.length := fun e => h2 (.inr (.inl e))
  have g3 : ¬ 100 < (op l k).script.length := fun e => h2 (.inr (.inr (.inl e)))
  have g4 : ¬ setsBad (op l k).sets := fun e => h2 (.inr (.inr (.inr e)))
  refine ⟨great_okN g1 (by omega), by omega, by omega, fun x hx => ?_, hb.k0, hb.k1, hb.b0, hb.b1⟩
  obtain ⟨j, hj, rfl⟩ := List.getElem_of_mem hx
  refine Classical.byContradiction fun hn => g4 ⟨j, hj, ?_⟩
  rw [st_eq hj]
  omega
set_option maxRecDepth 100000 in
set_option maxHeartbeats 4000000 in
theorem great23_any (A : Option Addr) (c : Nat) (a : Scene) (Al : Option Addr) (cl : Nat) (l : List Opn) (w : World) (h : kNode.C w A a.nodes.length a.nodes) (hl : kOpn.C w Al l.length l) :
    Calls Tryd.prog 28 #[.agg #[.slice A a.nodes.length c, .int .i64 a.root], .slice Al l.length cl] w fun e w' => e = .returned (.bool (greatS a || greatO l)) ∧ Below w.heap.size w w' := by
  have HR := Aside0.mk h
  have HL := Aside0.mk hl
  have HB := Aside0.mk (below_alloc (Below.refl w.heap.size w) (.cells #[.slice A a.nodes.length c, .int .i64 a.root] 39))
  have k0 := box_cell w _ rfl #[.slice A a.nodes.length c, .int .i64 a.root] 39 0 (.slice A a.nodes.length c) rfl
  have k1 := box_cell w _ rfl #[.slice A a.nodes.length c, .int .i64 a.root] 39 1 (.int .i64 a.root) rfl
  have hu := Tryd.underlying39
  clear h hl
  go_enter Tryd.func28, Tryd.ntmps28
  go_wp2_with fail
  refine (greatS_any A c a _ (Kd.C_below HR.out HB.out)).mono ?_
  rintro e w1 ⟨rfl, hB1⟩
  have HB1 := Aside0.mk (below_step HB.out hB1)
  clear hB1 k0 k1
  cases hg : greatS a with
  | true =>
    have HE := Aside0.mk (show (greatS a || greatO l) = true from by rw [hg]; rfl)
    clear hg
    go_wp2
    go_ret
    exact ⟨ret_bool HE.out.symm, HB1.out⟩
  | false =>
    have HE := Aside0.mk (show (greatS a || greatO l) = greatO l from by rw [hg]; rfl)
    clear hg
    go_wp2_with fail
    refine (greatO_any Al cl l _ (Kd.C_below HL.out HB1.out)).mono ?_
    rintro e w2 ⟨rfl, hB2⟩
    have HB2 := Aside0.mk (below_step HB1.out hB2)
    clear hB2
    go_wp2
    go_ret
    exact ⟨ret_bool HE.out.symm, HB2.out⟩
end Go.Proofs.YtglfebpgdghlfaaDoor.L
end
section
namespace Go.Proofs.YtglfebpgdghlfaaDoor.L
open Go.RowKit Go.ChangeShapes Go.WideShapes Go.Proofs.YtglfebpgdghlfaaDoorW.PrintWords Go.Proofs.YtglfebpgdghlfaaDoorW.PrintLast Go.Proofs.YtglfebpgdghlfaaDoorW.PrintMore
attribute [local go_sem] max2_int min2_int max_two min_two max_three min_three max_four min_four
open Classical in
noncomputable def mstep (st : List ByteArray × Nat) (t : ByteArray) : List ByteArray × Nat := if t ∈ st.1 then st else (t :: st.1, st.2 + t.size)
noncomputable def meas (l : List ByteArray) : List ByteArray × Nat := l.foldl mstep ([], 0)
theorem meas_snoc (l : List ByteArray) (t : ByteArray) : meas (l ++ [t]) = mstep (meas l) t := by unfold meas; rw [List.foldl_append]; rfl
def szs (l : List ByteArray) : Nat := (l.map ByteArray.size).sum
structure MsInv (l : List ByteArray) (st : List ByteArray × Nat) : Prop where
  nd : st.1.Nodup
  mem : ∀ x, x ∈ st.1 ↔ x ∈ l
  sum : st.2 = szs st.1
  len : st.1.length ≤ l.length
theorem meas_inv : ∀ l : List ByteArray, MsInv l (meas l) := by
  have key : ∀ (l pre : List ByteArray) (st : List ByteArray × Nat), MsInv pre st → MsInv (pre ++ l) (l.foldl mstep st) := by
    intro l
    induction l with
    | nil => intro pre st h; rw [List.append_nil]; exact h
    | cons t l ih =>
      intro pre st h
      rw [List.foldl_cons, show pre ++ t :: l = (pre ++ [t]) ++ l by simp]
      refine ih _ _ ?_
      unfold mstep
      by_cases hin : t ∈ st.1
      · rw [if_pos hin]
        refine ⟨h.nd, fun x => ?_, h.sum, by rw [List.length_append]; have := h.len; omega⟩
        rw [h.mem x, List.mem_append, List.mem_singleton]
        exact ⟨.inl, fun hh => hh.elim id (fun e => by rw [e]; exact (h.mem t).1 hin)⟩
      · rw [if_neg hin]
        refine ⟨List.nodup_cons.2 ⟨hin, h.nd⟩, fun x => ?_, ?_, by rw [List.length_append]; have := h.len; simp; omega⟩
        · show x ∈ t :: st.1 ↔ _
          rw [List.mem_cons, h.mem x, List.mem_append, List.mem_singleton]
          exact ⟨fun hh => hh.elim .inr .inl, fun hh => hh.elim .inr .inl⟩
        · show st.2 + t.size = szs (t :: st.1)
          unfold szs
          rw [List.map_cons, List.sum_cons, h.sum]
          unfold szs
          omega
  intro l
  have := key l [] ([], 0) ⟨List.nodup_nil, fun x => Iff.rfl, rfl, Nat.le_refl _⟩
  rwa [List.nil_append] at this
def texs (ns : List Node) : List ByteArray := ns.flatMap (fun n => n.texts)
noncomputable def textSum (ns : List Node) : Nat := (meas (texs ns)).2
theorem mem_texs {ns : List Node} {x : ByteArray} : x ∈ texs ns ↔ ∃ p : Nat, p < ns.length ∧ x ∈ (nd ns p).texts := by
  unfold texs
  rw [List.mem_flatMap]
  refine ⟨fun ⟨n, hn, hx⟩ => ?_, fun ⟨p, hp, hx⟩ => ?_⟩
  · obtain ⟨p, hp, rfl⟩ := List.getElem_of_mem hn
    refine ⟨p, hp, ?_⟩
    unfold nd
    rw [List.getD_eq_getElem?_getD, List.getElem?_eq_getElem hp]
    exact hx
  · refine ⟨nd ns p, ?_, hx⟩
    unfold nd
    rw [List.getD_eq_getElem?_getD, List.getElem?_eq_getElem hp]
    exact List.getElem_mem hp
end Go.Proofs.YtglfebpgdghlfaaDoor.L
end
section
namespace Go.Proofs.YtglfebpgdghlfaaDoor.L
open Go.RowKit Go.ChangeShapes Go.WideShapes Go.Proofs.YtglfebpgdghlfaaDoorW.PrintWords Go.Proofs.YtglfebpgdghlfaaDoorW.PrintLast Go.Proofs.YtglfebpgdghlfaaDoorW.PrintMore
attribute [local go_sem] max2_int min2_int max_two min_two max_three min_three max_four min_four
theorem keyS : Maps.Keyed Tryd.prog 9 := Maps.string_keyed Tryd.underlying9
theorem keyS_of {s : ByteArray} (h : s.size ≤ maxLen) : keyOf Tryd.prog 9 (.string s) = some (.string s.data.toList) := Go.WideMaps.keyOf_string_mk Tryd.underlying9 h
theorem str_inj {a b : ByteArray} (h : Lit.string a.data.toList = Lit.string b.data.toList) : a = b := by
  injection h with h
  cases a; cases b
  simp only at h
  rw [Array.toList_inj.1 h]
open Classical in
noncomputable def visS (vs : List ByteArray) : Lit → Option Value := fun q => if ∃ k ∈ vs, q = .string k.data.toList then some (.bool true) else none
theorem visS_nil : visS [] = fun _ => none := by
  funext q
  unfold visS
  rw [if_neg (fun ⟨k, hk, _⟩ => by simp at hk)]
theorem visS_put (vs : List ByteArray) (x : ByteArray) : putF (visS vs) (.string x.data.toList) (.bool true) = visS (x :: vs) := by
  funext q
  unfold putF visS
  by_cases hq : q = .string x.data.toList
  · rw [if_pos hq, if_pos ⟨x, by simp, hq⟩]
  · rw [if_neg hq]
    by_cases h : ∃ k ∈ vs, q = .string k.data.toList
    · obtain ⟨k, hk, e⟩ := h
      rw [if_pos ⟨k, hk, e⟩, if_pos ⟨k, by simp [hk], e⟩]
    · rw [if_neg h, if_neg (fun ⟨k, hk, e⟩ => by
        rcases List.mem_cons.1 hk with rfl | hk
        · exact hq e
        · exact h ⟨k, hk, e⟩)]
theorem visS_in {vs : List ByteArray} {x : ByteArray} (h : x ∈ vs) : (visS vs (.string x.data.toList)).getD (.bool false) = .bool true := by unfold visS; rw [if_pos ⟨x, h, rfl⟩]; rfl
theorem visS_out {vs : List ByteArray} {x : ByteArray} (h : ¬ x ∈ vs) : (visS vs (.string x.data.toList)).getD (.bool false) = .bool false := by
  unfold visS
  rw [if_neg (fun ⟨k, hk, e⟩ => h (by rw [str_inj e]; exact hk))]; rfl
theorem box5 {W : World} {b : Nat} {x0 x1 x2 x3 x4 : Value} {T : TypeId} (h : W.heap[b]? = some (.cells #[x0, x1, x2, x3, x4] T (0, 0))) (u0 u1 u2 u3 u4 : Value) : (((((W.setCell ⟨b, 0, none⟩ u0).setCell ⟨b, 1, none⟩ u1).setCell ⟨b, 2, none⟩ u2).setCell ⟨b, 3, none⟩ u3).setCell ⟨b, 4, none⟩ u4).heap[b]? = some (.cells #[u0, u1, u2, u3, u4] T (0, 0)) := by
  have := blk_set (blk_set (blk_set (blk_set (blk_set h 0 u0) 1 u1) 2 u2) 3 u3) 4 u4
  simpa using this
theorem below_set5 {B b : Nat} {w W : World} {u0 u1 u2 u3 u4 : Value} (h : Below B w W) (hb : B ≤ b) : Below B w (((((W.setCell ⟨b, 0, none⟩ u0).setCell ⟨b, 1, none⟩ u1).setCell ⟨b, 2, none⟩ u2).setCell ⟨b, 3, none⟩ u3).setCell ⟨b, 4, none⟩ u4) :=
  ((((h.setCell (p := ⟨b, 0, none⟩) hb u0).setCell (p := ⟨b, 1, none⟩) hb u1).setCell (p := ⟨b, 2, none⟩) hb u2).setCell (p := ⟨b, 3, none⟩) hb u3).setCell (p := ⟨b, 4, none⟩) hb u4
structure MsRel (s : Scene) (w : World) (g mb : Nat) (pl : List ByteArray) (W : World) : Prop where
  map : MapF Tryd.prog 9 W mb pl.length (visS (meas pl).1)
  m : W.heap[g]? = some (.cells #[.int .i64 0, .int .i64 (s.nodes.length : Int), .int .i64 (edgesW s.nodes), .int .i64 (depthS s), .int .i64 ((meas pl).2 : Int)] 50 (0, 0))
  res : W.heap[w.heap.size + 1]? = some (.cells #[.int .i64 0, .int .i64 0, .int .i64 0, .int .i64 0, .int .i64 0] 50 (0, 0))
  ge : w.heap.size + 1 < g
  mge : w.heap.size ≤ mb
  below : Below w.heap.size w W
theorem MsRel.later {s : Scene} {w : World} {g mb : Nat} {pl : List ByteArray} {W W1 : World} (h : MsRel s w g mb pl W) (hb : Below W.heap.size W W1) : MsRel s w g mb pl W1 :=
  ⟨h.map.below hb, (hb.block _ (blk_lt h.m)).trans h.m, (hb.block _ (blk_lt h.res)).trans h.res, h.ge, h.mge, below_step h.below hb⟩
theorem MsRel.had {s : Scene} {w : World} {g mb : Nat} {pl : List ByteArray} {W : World} {t : ByteArray} (h : MsRel s w g mb pl W) (ht : t ∈ (meas pl).1) : MsRel s w g mb (pl ++ [t]) W := by
  have e : meas (pl ++ [t]) = meas pl := by rw [meas_snoc]; unfold mstep; rw [if_pos ht]
  exact ⟨by rw [e]; exact h.map.mono (by simp), by rw [e]; exact h.m, h.res, h.ge, h.mge, h.below⟩
theorem MsRel.new {s : Scene} {w : World} {g mb : Nat} {pl : List ByteArray} {W W2 : World} {t : ByteArray} (h : MsRel s w g mb pl W) (ht : ¬ t ∈ (meas pl).1) (hM : MapF Tryd.prog 9 W2 mb (pl.length + 1) (putF (visS (meas pl).1) (.string t.data.toList) (.bool true))) (hg : W.grownBy W2 (some mb)) :
    W2.heap[g]? = some (.cells #[.int .i64 0, .int .i64 (s.nodes.length : Int), .int .i64 (edgesW s.nodes), .int .i64 (depthS s), .int .i64 ((meas pl).2 : Int)] 50 (0, 0)) ∧ MsRel s w g mb (pl ++ [t]) (W2.setCell ⟨g, 4, none⟩ (.int .i64 (((meas pl).2 : Int) + (t.size : Int)))) := by
  have e : meas (pl ++ [t]) = (t :: (meas pl).1, (meas pl).2 + t.size) := by rw [meas_snoc]; unfold mstep; rw [if_neg ht]
  have hne : g ≠ mb := fun he => h.map.not_cells (by rw [← he]; exact h.m)
  have hnr : w.heap.size + 1 ≠ mb := fun he => h.map.not_cells (by rw [← he]; exact h.res)
  have hm := blk_grown h.m hg (fun he => hne (by injection he))
  have hr := blk_grown h.res hg (fun he => hnr (by injection he))
  have hB : Below w.heap.size w W2 := h.below.grown hg h.below.size (fun q hq => by injection hq with hq; have := h.mge; omega)
  refine ⟨hm, ?_, ?_, ?_, h.ge, h.mge, ?_⟩
  · rw [e, List.length_append, List.length_singleton]
    show MapF _ _ _ _ _ (visS (t :: (meas pl).1))
    rw [← visS_put]
    exact hM.setCell (a := ⟨g, 4, none⟩) (fun he => hne he.symm) _
  · rw [e]
    have := blk_set hm 4 (.int .i64 (((meas pl).2 : Int) + (t.size : Int)))
    simpa using this
  · exact (Below.heap_setCell W2 ⟨g, 4, none⟩ _ _ (by show w.heap.size + 1 ≠ g; have := h.ge; omega)).trans hr
  · exact hB.setCell (p := ⟨g, 4, none⟩) (by show w.heap.size ≤ g; have := h.ge; omega) _
theorem meas_bound {l : List ByteArray} (h : ∀ x ∈ l, x.size ≤ 1000000) : (meas l).2 ≤ l.length * 1000000 := by
  have hi := meas_inv l
  rw [hi.sum]
  have key : ∀ v : List ByteArray, (∀ x ∈ v, x.size ≤ 1000000) → szs v ≤ v.length * 1000000 := fun v => by
    induction v with
    | nil => intro _; exact Nat.zero_le _
    | cons x v ih =>
      intro hv
      have h1 := ih (fun y hy => hv y (by simp [hy]))
      have h2 := hv x (by simp)
      unfold szs at h1 ⊢
      rw [List.map_cons, List.sum_cons, List.length_cons, Nat.succ_mul]
      omega
  have h1 := key (meas l).1 (fun x hx => h x ((hi.mem x).1 hx))
  exact Nat.le_trans h1 (Nat.mul_le_mul_right 1000000 hi.len)
theorem texs_succ (ns : List Node) (i : Nat) (hi : i < ns.length) : texs (ns.take (i + 1)) = texs (ns.take i) ++ (nd ns i).texts := by
  rw [List.take_succ_eq_append_getElem hi]
  unfold texs
  rw [List.flatMap_append]
  have : nd ns i = ns[i] := by unfold nd; rw [List.getD_eq_getElem?_getD, List.getElem?_eq_getElem hi]; rfl
  rw [this]
  simp
theorem texs_pre (ns : List Node) (i j : Nat) (hi : i < ns.length) : ∃ r, texs ns = (texs (ns.take i) ++ (nd ns i).texts.take j) ++ r := by
  refine ⟨(nd ns i).texts.drop j ++ texs (ns.drop (i + 1)), ?_⟩
  have h1 : texs ns = texs (ns.take (i + 1)) ++ texs (ns.drop (i + 1)) := by
    unfold texs
    rw [← List.flatMap_append, List.take_append_drop]
  rw [h1, texs_succ ns i hi]
  have h2 := (List.take_append_drop j (nd ns i).texts).symm
  generalize (nd ns i).texts.take j = u at h2 ⊢
  generalize (nd ns i).texts.drop j = v at h2 ⊢
  rw [h2]
  simp only [List.append_assoc]
theorem take_str (l : List ByteArray) (j : Nat) (h : j < l.length) : l.take (j + 1) = l.take j ++ [str l j] := by
  rw [List.take_succ_eq_append_getElem h]
  have : str l j = l[j] := by unfold str; rw [List.getD_eq_getElem?_getD, List.getElem?_eq_getElem h]; rfl
  rw [this]
theorem set5_far {W : World} {b k : Nat} (h : k ≠ b) (u0 u1 u2 u3 u4 : Value) : (((((W.setCell ⟨b, 0, none⟩ u0).setCell ⟨b, 1, none⟩ u1).setCell ⟨b, 2, none⟩ u2).setCell ⟨b, 3, none⟩ u3).setCell ⟨b, 4, none⟩ u4).heap[k]? = W.heap[k]? := by
  rw [Below.heap_setCell _ ⟨b, 4, none⟩ u4 k h, Below.heap_setCell _ ⟨b, 3, none⟩ u3 k h, Below.heap_setCell _ ⟨b, 2, none⟩ u2 k h, Below.heap_setCell _ ⟨b, 1, none⟩ u1 k h, Below.heap_setCell _ ⟨b, 0, none⟩ u0 k h]
structure MsHead (s : Scene) (w : World) (A : Option Addr) (c g : Nat) (W : World) : Prop where
  m : W.heap[g]? = some (.cells #[.int .i64 0, .int .i64 (s.nodes.length : Int), .int .i64 (edgesW s.nodes), .int .i64 (depthS s), .int .i64 0] 50 (0, 0))
  res : W.heap[w.heap.size + 1]? = some (.cells #[.int .i64 0, .int .i64 0, .int .i64 0, .int .i64 0, .int .i64 0] 50 (0, 0))
  box : W.cell? ⟨w.heap.size, 0, none⟩ = some (.slice A s.nodes.length c)
  ge : w.heap.size + 1 < g
  below : Below w.heap.size w W
theorem MsHead.alloc {s : Scene} {w : World} {A : Option Addr} {c : Nat} {W : World} (hres : W.heap[w.heap.size + 1]? = some (.cells #[.int .i64 0, .int .i64 0, .int .i64 0, .int .i64 0, .int .i64 0] 50 (0, 0))) (hbox : W.cell? ⟨w.heap.size, 0, none⟩ = some (.slice A s.nodes.length c)) (hB : Below w.heap.size w W) :
    MsHead s w A c W.heap.size (W.alloc (.cells #[.int .i64 0, .int .i64 (s.nodes.length : Int), .int .i64 (edgesW s.nodes), .int .i64 (depthS s), .int .i64 0] 50)) := by
  have hA := below_alloc (Below.refl W.heap.size W) (.cells #[.int .i64 0, .int .i64 (s.nodes.length : Int), .int .i64 (edgesW s.nodes), .int .i64 (depthS s), .int .i64 0] 50)
  exact ⟨by simpa using heap_alloc_new W _, (hA.block _ (blk_lt hres)).trans hres, pw_cell_below hA hbox, blk_lt hres, below_step hB hA⟩
theorem MsHead.store {s : Scene} {w : World} {A : Option Addr} {c g : Nat} {W : World} {x0 x1 x2 x3 x4 : Value} (hm : W.heap[g]? = some (.cells #[x0, x1, x2, x3, x4] 50 (0, 0))) (hg : w.heap.size + 1 < g) (hres : W.heap[w.heap.size + 1]? = some (.cells #[.int .i64 0, .int .i64 0, .int .i64 0, .int .i64 0, .int .i64 0] 50 (0, 0))) (hbox : W.cell? ⟨w.heap.size, 0, none⟩ = some (.slice A s.nodes.length c)) (hB : Below w.heap.size w W) :
    MsHead s w A c g (((((W.setCell ⟨g, 0, none⟩ (.int .i64 0)).setCell ⟨g, 1, none⟩ (.int .i64 (s.nodes.length : Int))).setCell ⟨g, 2, none⟩ (.int .i64 (edgesW s.nodes))).setCell ⟨g, 3, none⟩ (.int .i64 (depthS s))).setCell ⟨g, 4, none⟩ (.int .i64 0)) := by
  have hne : g ≠ (⟨w.heap.size, 0, none⟩ : Addr).block := by show g ≠ w.heap.size; omega
  exact ⟨box5 hm _ _ _ _ _, (set5_far (by omega) _ _ _ _ _).trans hres, far_set (far_set (far_set (far_set (far_set hbox _ _ hne _) _ _ hne _) _ _ hne _) _ _ hne _) _ _ hne _, hg, below_set5 hB (by omega)⟩
theorem MsHead.start {s : Scene} {w : World} {A : Option Addr} {c g : Nat} {W : World} (h : MsHead s w A c g W) : MsRel s w g W.heap.size [] (W.alloc (.map #[] 0)) := by
  have hA := below_alloc (Below.refl W.heap.size W) (.map #[] 0)
  refine ⟨?_, (hA.block _ (blk_lt h.m)).trans h.m, (hA.block _ (blk_lt h.res)).trans h.res, h.ge, h.below.size, below_step h.below hA⟩
  show MapF _ _ _ _ 0 (visS [])
  rw [visS_nil]
  exact MapF.made Tryd.prog 9 W
end Go.Proofs.YtglfebpgdghlfaaDoor.L
end
section
namespace Go.Proofs.YtglfebpgdghlfaaDoor.L
open Go.RowKit Go.ChangeShapes Go.WideShapes Go.Proofs.YtglfebpgdghlfaaDoorW.PrintWords Go.Proofs.YtglfebpgdghlfaaDoorW.PrintLast Go.Proofs.YtglfebpgdghlfaaDoorW.PrintMore
attribute [local go_sem] max2_int min2_int max_two min_two max_three min_three max_four min_four
set_option maxRecDepth 100000 in
set_option maxHeartbeats 16000000 in
theorem measure_any (A : Option Addr) (c : Nat) (s : Scene) (w : World) (h : kNode.C w A s.nodes.length s.nodes) (hM : rows s.nodes ≤ 400000) (hT : ∀ x ∈ texs s.nodes, x.size ≤ 1000000) (hL : (texs s.nodes).length ≤ 1000000000) :
    Calls Tryd.prog 26 #[.agg #[.slice A s.nodes.length c, .int .i64 s.root]] w fun e w' => e = .returned (.agg #[.int .i64 0, .int .i64 (s.nodes.length : Int), .int .i64 (edgesW s.nodes), .int .i64 (depthS s), .int .i64 (textSum s.nodes : Int)]) ∧ Below w.heap.size w w' := by
  have HR := Aside0.mk h
  have HM := Aside0.mk hM
  have HT := Aside0.mk hT
  have HLn := Aside0.mk hL
  have b0 := h.2.1
  have HB := Aside0.mk (below_alloc (below_alloc (Below.refl w.heap.size w) (.cells #[.slice A s.nodes.length c, .int .i64 s.root] 39)) (.cells #[.int .i64 0, .int .i64 0, .int .i64 0, .int .i64 0, .int .i64 0] 50))
  have k0 := box_cell2 w _ rfl #[.slice A s.nodes.length c, .int .i64 s.root] 39 (.cells #[.int .i64 0, .int .i64 0, .int .i64 0, .int .i64 0, .int .i64 0] 50) 0 (.slice A s.nodes.length c) rfl
  have k1 := box_cell2 w _ rfl #[.slice A s.nodes.length c, .int .i64 s.root] 39 (.cells #[.int .i64 0, .int .i64 0, .int .i64 0, .int .i64 0, .int .i64 0] 50) 1 (.int .i64 s.root) rfl
  have HX := Aside0.mk (show ((w.alloc (.cells #[.slice A s.nodes.length c, .int .i64 s.root] 39)).alloc (.cells #[.int .i64 0, .int .i64 0, .int .i64 0, .int .i64 0, .int .i64 0] 50)).heap[w.heap.size + 1]? = some (.cells #[.int .i64 0, .int .i64 0, .int .i64 0, .int .i64 0, .int .i64 0] 50 (0, 0)) from by
    have := heap_alloc_new (w.alloc (.cells #[.slice A s.nodes.length c, .int .i64 s.root] 39)) (.cells #[.int .i64 0, .int .i64 0, .int .i64 0, .int .i64 0, .int .i64 0] 50)
    simpa using this)
  have hu := Tryd.underlying39
  have hul := Tryd.underlying50
  have hun := Tryd.underlying26
  clear h hM hT hL
  go_enter Tryd.func26, Tryd.ntmps26
  go_wp2
  generalize (w.alloc (.cells #[.slice A s.nodes.length c, .int .i64 s.root] 39)).alloc (.cells #[.int .i64 0, .int .i64 0, .int .i64 0, .int .i64 0, .int .i64 0] 50) = W0 at HB HX k0 k1 ⊢
  have HK0 := Aside0.mk k0
  have hzA : (W0.alloc (.cells #[.int .i64 0, .int .i64 0, .int .i64 0, .int .i64 0, .int .i64 0] 50)).drew.heap[W0.heap.size]? = some (.cells #[.int .i64 0, .int .i64 0, .int .i64 0, .int .i64 0, .int .i64 0] 50 (0, 0)) := by
    show (W0.alloc _).heap[W0.heap.size]? = _
    simpa using heap_alloc_new W0 _
  have HZA := Aside0.mk hzA
  have HBA := Aside0.mk (below_drew (below_alloc (Below.refl W0.heap.size W0) (.cells #[.int .i64 0, .int .i64 0, .int .i64 0, .int .i64 0, .int .i64 0] 50)))
  have k0d : W0.drew.cell? ⟨w.heap.size, 0, none⟩ = some (.slice A s.nodes.length c) := k0
  have k1d : W0.drew.cell? ⟨w.heap.size, 1, none⟩ = some (.int .i64 s.root) := k1
  have k0a := pw_cell_below HBA.out k0
  have k1a := pw_cell_below HBA.out k1
  have n0 := World.new_ne W0 _ k0
  clear hzA
  go_region_held3 (fun W => W.cell? ⟨w.heap.size, 0, none⟩ = some (.slice A s.nodes.length c) ∧ W.cell? ⟨w.heap.size, 1, none⟩ = some (.int .i64 s.root))
    (first
      | (go_split_ands
         (repeat' apply And.intro)
         all_goals first
           | with_reducible assumption
           | with_reducible exact pw_cell_below hB (by assumption)
           | with_reducible exact pw_cell_below (below_alloc (Below.refl _ _) _) (by assumption)
           | with_reducible exact pw_cell_below (below_alloc (Below.refl _ _) _) (pw_cell_below hB (by assumption))
           | with_reducible exact far_set (far_set (far_set (far_set (far_set (by assumption) _ _ (by assumption) _) _ _ (by assumption) _) _ _ (by assumption) _) _ _ (by assumption) _) _ _ (by assumption) _
           | (simp [*]; done)))
    (first
      | (go_at_call 51; refine (gedges_any A c s W0.drew (Kd.C_below HR.out (below_drew HB.out))).mono ?_; rintro e w2 ⟨rfl, hB⟩; have HB2 := Aside0.mk (below_step (below_drew HB.out) hB); have HX2 := Aside0.mk ((hB.block _ (blk_lt HX.out)).trans HX.out); have HK2 := Aside0.mk (pw_cell_below hB k0d); have m0 := World.new_ne w2 _ (pw_cell_below hB k0d); have r0 := pw_cell_below hB k0d; have r1 := pw_cell_below hB k1d; have r0a := pw_cell_below (below_alloc (Below.refl w2.heap.size w2) (.cells #[.int .i64 0, .int .i64 0, .int .i64 0, .int .i64 0, .int .i64 0] 50)) r0; have r1a := pw_cell_below (below_alloc (Below.refl w2.heap.size w2) (.cells #[.int .i64 0, .int .i64 0, .int .i64 0, .int .i64 0, .int .i64 0] 50)) r1)
      | (go_at_call 51; refine (gedges_any A c s (W0.alloc (.cells #[.int .i64 0, .int .i64 0, .int .i64 0, .int .i64 0, .int .i64 0] 50)).drew (Kd.C_below HR.out (below_step HB.out HBA.out))).mono ?_; rintro e w2 ⟨rfl, hB⟩; have HB2 := Aside0.mk (below_step (below_step HB.out HBA.out) hB); have HX2 := Aside0.mk ((hB.block _ (blk_lt (show (W0.alloc (.cells #[.int .i64 0, .int .i64 0, .int .i64 0, .int .i64 0, .int .i64 0] 50)).drew.heap[_]? = _ from (HBA.out.block _ (blk_lt HX.out)).trans HX.out))).trans ((HBA.out.block _ (blk_lt HX.out)).trans HX.out)); have HZ2 := Aside0.mk ((hB.block _ (blk_lt HZA.out)).trans HZA.out); have HK2 := Aside0.mk (pw_cell_below hB k0a))
      | (go_at_call 52; refine (depth_any A c s w2 (Kd.C_below HR.out HB2.out) HM.out).mono ?_; rintro e w3 ⟨rfl, hB⟩; have HK3 := Aside0.mk (pw_cell_below hB HK2.out); have HB3 := Aside0.mk (below_step HB2.out hB); have HX3 := Aside0.mk ((hB.block _ (blk_lt HX2.out)).trans HX2.out); have HZ3 := Aside0.mk ((hB.block _ (blk_lt HZ2.out)).trans HZ2.out); have f0 := (blk_cell (HZ3.out) 0).trans rfl; have f0f := blk_frozen (HZ3.out) 0; have f1 := (blk_cell (blk_set (HZ3.out) 0 (.int .i64 0)) 1).trans rfl; have f1f := blk_frozen (blk_set (HZ3.out) 0 (.int .i64 0)) 1; have f2 := (blk_cell (blk_set (blk_set (HZ3.out) 0 (.int .i64 0)) 1 (.int .i64 (s.nodes.length : Int))) 2).trans rfl; have f2f := blk_frozen (blk_set (blk_set (HZ3.out) 0 (.int .i64 0)) 1 (.int .i64 (s.nodes.length : Int))) 2; have f3 := (blk_cell (blk_set (blk_set (blk_set (HZ3.out) 0 (.int .i64 0)) 1 (.int .i64 (s.nodes.length : Int))) 2 (.int .i64 (edgesW s.nodes))) 3).trans rfl; have f3f := blk_frozen (blk_set (blk_set (blk_set (HZ3.out) 0 (.int .i64 0)) 1 (.int .i64 (s.nodes.length : Int))) 2 (.int .i64 (edgesW s.nodes))) 3; have f4 := (blk_cell (blk_set (blk_set (blk_set (blk_set (HZ3.out) 0 (.int .i64 0)) 1 (.int .i64 (s.nodes.length : Int))) 2 (.int .i64 (edgesW s.nodes))) 3 (.int .i64 (depthS s))) 4).trans rfl; have f4f := blk_frozen (blk_set (blk_set (blk_set (blk_set (HZ3.out) 0 (.int .i64 0)) 1 (.int .i64 (s.nodes.length : Int))) 2 (.int .i64 (edgesW s.nodes))) 3 (.int .i64 (depthS s))) 4)
      | (go_at_call 52; refine (depth_any A c s w2 (Kd.C_below HR.out HB2.out) HM.out).mono ?_; rintro e w3 ⟨rfl, hB⟩; have HK3 := Aside0.mk (pw_cell_below hB HK2.out); have HB3 := Aside0.mk (below_step HB2.out hB); have HX3 := Aside0.mk ((hB.block _ (blk_lt HX2.out)).trans HX2.out))
      | (go_at_call 52; refine (depth_any A c s (w2.alloc (.cells #[.int .i64 0, .int .i64 0, .int .i64 0, .int .i64 0, .int .i64 0] 50)) (Kd.C_alloc (Kd.C_below HR.out HB2.out) _) HM.out).mono ?_; rintro e w3 ⟨rfl, hB⟩; have HK3 := Aside0.mk (pw_cell_below hB (pw_cell_below (below_alloc (Below.refl w2.heap.size w2) (.cells #[.int .i64 0, .int .i64 0, .int .i64 0, .int .i64 0, .int .i64 0] 50)) HK2.out)); have HB3 := Aside0.mk (below_step (below_step HB2.out (below_alloc (Below.refl _ _) _)) hB); have HX3 := Aside0.mk ((hB.block _ (blk_lt (show (w2.alloc (.cells #[.int .i64 0, .int .i64 0, .int .i64 0, .int .i64 0, .int .i64 0] 50)).heap[_]? = _ from ((below_alloc (Below.refl w2.heap.size w2) _).block _ (blk_lt HX2.out)).trans HX2.out))).trans (((below_alloc (Below.refl w2.heap.size w2) _).block _ (blk_lt HX2.out)).trans HX2.out)); have HZ3 := Aside0.mk ((hB.block _ (blk_lt (heap_alloc_new w2 (.cells #[.int .i64 0, .int .i64 0, .int .i64 0, .int .i64 0, .int .i64 0] 50)))).trans (heap_alloc_new w2 (.cells #[.int .i64 0, .int .i64 0, .int .i64 0, .int .i64 0, .int .i64 0] 50))); have f0 := (blk_cell (HZ3.out) 0).trans rfl; have f0f := blk_frozen (HZ3.out) 0; have f1 := (blk_cell (blk_set (HZ3.out) 0 (.int .i64 0)) 1).trans rfl; have f1f := blk_frozen (blk_set (HZ3.out) 0 (.int .i64 0)) 1; have f2 := (blk_cell (blk_set (blk_set (HZ3.out) 0 (.int .i64 0)) 1 (.int .i64 (s.nodes.length : Int))) 2).trans rfl; have f2f := blk_frozen (blk_set (blk_set (HZ3.out) 0 (.int .i64 0)) 1 (.int .i64 (s.nodes.length : Int))) 2; have f3 := (blk_cell (blk_set (blk_set (blk_set (HZ3.out) 0 (.int .i64 0)) 1 (.int .i64 (s.nodes.length : Int))) 2 (.int .i64 (edgesW s.nodes))) 3).trans rfl; have f3f := blk_frozen (blk_set (blk_set (blk_set (HZ3.out) 0 (.int .i64 0)) 1 (.int .i64 (s.nodes.length : Int))) 2 (.int .i64 (edgesW s.nodes))) 3; have f4 := (blk_cell (blk_set (blk_set (blk_set (blk_set (HZ3.out) 0 (.int .i64 0)) 1 (.int .i64 (s.nodes.length : Int))) 2 (.int .i64 (edgesW s.nodes))) 3 (.int .i64 (depthS s))) 4).trans rfl; have f4f := blk_frozen (blk_set (blk_set (blk_set (blk_set (HZ3.out) 0 (.int .i64 0)) 1 (.int .i64 (s.nodes.length : Int))) 2 (.int .i64 (edgesW s.nodes))) 3 (.int .i64 (depthS s))) 4))
  have HH := Aside0.mk (MsHead.alloc HX3.out HK3.out HB3.out)
  clear hB r0 r1 r0a r1a m0
  generalize w3.alloc (.cells #[.int .i64 0, .int .i64 (s.nodes.length : Int), .int .i64 (edgesW s.nodes), .int .i64 (depthS s), .int .i64 0] 50) = W5 at HH ⊢
  generalize w3.heap.size = g at HH ⊢
  rotate_left
  have HH := Aside0.mk (MsHead.store HZ3.out (blk_lt HX2.out) HX3.out HK3.out HB3.out)
  clear hB r0 r1 r0a r1a m0 f0 f0f f1 f1f f2 f2f f3 f3f f4 f4f
  generalize (((((w3.setCell ⟨w2.heap.size, 0, none⟩ (.int .i64 0)).setCell ⟨w2.heap.size, 1, none⟩ (.int .i64 (s.nodes.length : Int))).setCell ⟨w2.heap.size, 2, none⟩ (.int .i64 (edgesW s.nodes))).setCell ⟨w2.heap.size, 3, none⟩ (.int .i64 (depthS s))).setCell ⟨w2.heap.size, 4, none⟩ (.int .i64 0)) = W5 at HH ⊢
  generalize w2.heap.size = g at HH ⊢
  rotate_left
  have HH := Aside0.mk (MsHead.store HZ3.out (blk_lt HX.out) HX3.out HK3.out HB3.out)
  clear hB f0 f0f f1 f1f f2 f2f f3 f3f f4 f4f
  generalize (((((w3.setCell ⟨W0.heap.size, 0, none⟩ (.int .i64 0)).setCell ⟨W0.heap.size, 1, none⟩ (.int .i64 (s.nodes.length : Int))).setCell ⟨W0.heap.size, 2, none⟩ (.int .i64 (edgesW s.nodes))).setCell ⟨W0.heap.size, 3, none⟩ (.int .i64 (depthS s))).setCell ⟨W0.heap.size, 4, none⟩ (.int .i64 0)) = W5 at HH ⊢
  generalize hgg : W0.heap.size = g at HH ⊢
  clear hgg
  all_goals
    clear k0 k1 k0d k1d k0a k1a n0 HBA HZA HK0
    have k5 := HH.out.box
    have k5a := pw_cell_below (below_alloc (Below.refl W5.heap.size W5) (.map #[] 0)) k5
    have HI := Aside0.mk HH.out.start
    have hmm := @run_makeMap Tryd.prog
    clear HH
    go_wp2
    clear k5 k5a hmm
    generalize W5.alloc (.map #[] 0) = W6 at HI ⊢
    generalize W5.heap.size = mb at HI ⊢
    go_loopw [21] (fun v21 W => ∃ i : Nat, i ≤ s.nodes.length ∧ v21 = .int .i64 i ∧ Aside0 (MsRel s w g mb (texs (s.nodes.take i)) W)) (fun v21 _ => s.nodes.length - (intOf v21).toNat)
    case atStart => exact ⟨0, by omega, rfl, HI⟩
    case round =>
      clear HI
      obtain ⟨i, hi, rfl, HI⟩ := hrel
      by_cases hlt : i < s.nodes.length
      · obtain ⟨adn, A1, c1, A2, c2, A3, c3, rfl, x0, x1, x2, x3, hN⟩ := at_node HR.out i hlt
        replace x0 := pw_cell_below HI.out.below x0
        replace x1 := pw_cell_below HI.out.below x1
        replace x2 := pw_cell_below HI.out.below x2
        replace x3 := pw_cell_below HI.out.below x3
        have HN := Aside0.mk hN
        have y2 := box_cell wr _ rfl #[.int .i64 (nd s.nodes i).kind, .slice A1 (nd s.nodes i).ints.length c1, .slice A2 (nd s.nodes i).texts.length c2, .slice A3 (nd s.nodes i).kids.length c3] 26 2 (.slice A2 (nd s.nodes i).texts.length c2) rfl
        have HJ := Aside0.mk (HI.out.later (below_alloc (Below.refl _ _) (.cells #[.int .i64 (nd s.nodes i).kind, .slice A1 (nd s.nodes i).ints.length c1, .slice A2 (nd s.nodes i).texts.length c2, .slice A3 (nd s.nodes i).kids.length c3] 26)))
        have htl := hN.t.2.1
        clear hN
        go_wp2
        clear x0 x1 x2 x3 y2
        go_loopw [28] (fun v28 W => ∃ j : Nat, j ≤ (nd s.nodes i).texts.length ∧ v28 = .int .i64 j ∧ Aside0 (MsRel s w g mb (texs (s.nodes.take i) ++ (nd s.nodes i).texts.take j) W)) (fun v28 _ => (nd s.nodes i).texts.length - (intOf v28).toNat)
        case atStart => exact ⟨0, by omega, rfl, by rw [List.take_zero, List.append_nil]; exact HJ⟩
        case round =>
          clear HJ
          obtain ⟨j, hj, rfl, HJ⟩ := hrel
          obtain ⟨pr, hpr⟩ := texs_pre s.nodes i j hlt
          by_cases hjl : j < (nd s.nodes i).texts.length
          · obtain ⟨adt, rfl, z0⟩ := at_str (HN.out.below HJ.out.below).t j hjl
            have hsz : (str (nd s.nodes i).texts j).size ≤ 1000000 := HT.out _ (mem_texs.2 ⟨i, hlt, by
              have : str (nd s.nodes i).texts j = (nd s.nodes i).texts[j] := by unfold str; rw [List.getD_eq_getElem?_getD, List.getElem?_eq_getElem hjl]; rfl
              rw [this]; exact List.getElem_mem hjl⟩)
            have HTk := Aside0.mk (show texs (s.nodes.take i) ++ (nd s.nodes i).texts.take (j + 1) = (texs (s.nodes.take i) ++ (nd s.nodes i).texts.take j) ++ [str (nd s.nodes i).texts j] from by rw [take_str _ _ hjl, List.append_assoc])
            have hplen : (texs (s.nodes.take i) ++ (nd s.nodes i).texts.take j).length ≤ 1000000000 := by
              have h1 := HLn.out
              rw [hpr, List.length_append] at h1
              omega
            have hsum := meas_bound (l := texs (s.nodes.take i) ++ (nd s.nodes i).texts.take j) (fun x hx => HT.out x (by rw [hpr]; exact List.mem_append_left _ hx))
            clear hpr
            obtain ⟨t, ht⟩ : ∃ t, t = str (nd s.nodes i).texts j := ⟨_, rfl⟩
            rw [← ht] at z0 hsz HTk
            have HKy := Aside0.mk (keyS_of (s := t) (by unfold maxLen; omega))
            generalize texs (s.nodes.take i) ++ (nd s.nodes i).texts.take j = pl at HJ HTk hplen hsum
            have hsum2 : (meas pl).2 ≤ 1000000000000000 := by omega
            clear ht hsum
            by_cases hin : t ∈ (meas pl).1
            · have HV := Aside0.mk (visS_in hin)
              have HNx := Aside0.mk (HJ.out.had hin)
              rw [← HTk.out] at HNx
              clear hin
              go_wp2_with (at_lookup; refine wpList_lookup_F _ rfl (.tmp 32) (.tmp 33) 82 rfl 9 4 keyS Tryd.underlying82 (zeroB _) mb pl.length (visS (meas pl).1) rfl HJ.out.map (.string t) (.string t.data.toList) rfl HKy.out (.bool true) HV.out ?_)
              go_roundw
              case rel => exact ⟨j + 1, by omega, by go_num, HNx⟩
              case measure => simp [intOf]; omega
            · have HV := Aside0.mk (visS_out hin)
              have HIn := Aside0.mk hin
              have hw : IntKind.i64.wrap (((meas pl).2 : Int) + (t.size : Int)) = ((meas pl).2 : Int) + (t.size : Int) := wrap_i (by omega) (by omega)
              have hpl : pl.length < maxLen := by unfold maxLen; omega
              clear hin
              go_wp2_with (first
                | (at_lookup; refine wpList_lookup_F _ rfl (.tmp 32) (.tmp 33) 82 rfl 9 4 keyS Tryd.underlying82 (zeroB _) mb pl.length (visS (meas pl).1) rfl HJ.out.map (.string t) (.string t.data.toList) rfl HKy.out (.bool false) HV.out ?_)
                | (at_mapUpdate; refine wpList_update_F _ rfl (.tmp 36) (.tmp 37) _ 82 rfl 9 4 keyS Tryd.underlying82 mb pl.length (visS (meas pl).1) rfl HJ.out.map hpl (.string t) (.bool true) (.string t.data.toList) rfl rfl HKy.out ?_; intro w2' hM2 hg2; obtain ⟨hm2, hN2⟩ := HJ.out.new HIn.out hM2 hg2; have HN2 := Aside0.mk hN2; have q4 := (blk_cell hm2 4).trans rfl; have q4f := blk_frozen hm2 4; clear hM2 hg2 hm2 hN2))
              rw [← HTk.out] at HN2
              go_roundw
              case rel => exact ⟨j + 1, by omega, by go_num, HN2⟩
              case measure => simp [intOf]; omega
          · obtain rfl : j = (nd s.nodes i).texts.length := by omega
            have HNx := Aside0.mk (show MsRel s w g mb (texs (s.nodes.take (i + 1))) wr from by
              have h := HJ.out
              rw [List.take_length, ← texs_succ s.nodes i hlt] at h
              exact h)
            clear hpr
            go_wp2
            go_roundw
            case rel => exact ⟨i + 1, by omega, by go_num, HNx⟩
            case measure => simp [intOf]; omega
      · obtain rfl : i = s.nodes.length := by omega
        rw [List.take_length] at HI
        have q0 := (blk_cell HI.out.m 0).trans rfl
        have q1 := (blk_cell HI.out.m 1).trans rfl
        have q2 := (blk_cell HI.out.m 2).trans rfl
        have q3 := (blk_cell HI.out.m 3).trans rfl
        have q4 := (blk_cell HI.out.m 4).trans rfl
        have l0 := (blk_cell (HI.out.res) 0).trans rfl
        have l0f := blk_frozen (HI.out.res) 0
        have l1 := (blk_cell (blk_set (HI.out.res) 0 (.int .i64 0)) 1).trans rfl
        have l1f := blk_frozen (blk_set (HI.out.res) 0 (.int .i64 0)) 1
        have l2 := (blk_cell (blk_set (blk_set (HI.out.res) 0 (.int .i64 0)) 1 (.int .i64 (s.nodes.length : Int))) 2).trans rfl
        have l2f := blk_frozen (blk_set (blk_set (HI.out.res) 0 (.int .i64 0)) 1 (.int .i64 (s.nodes.length : Int))) 2
        have l3 := (blk_cell (blk_set (blk_set (blk_set (HI.out.res) 0 (.int .i64 0)) 1 (.int .i64 (s.nodes.length : Int))) 2 (.int .i64 (edgesW s.nodes))) 3).trans rfl
        have l3f := blk_frozen (blk_set (blk_set (blk_set (HI.out.res) 0 (.int .i64 0)) 1 (.int .i64 (s.nodes.length : Int))) 2 (.int .i64 (edgesW s.nodes))) 3
        have l4 := (blk_cell (blk_set (blk_set (blk_set (blk_set (HI.out.res) 0 (.int .i64 0)) 1 (.int .i64 (s.nodes.length : Int))) 2 (.int .i64 (edgesW s.nodes))) 3 (.int .i64 (depthS s))) 4).trans rfl
        have l4f := blk_frozen (blk_set (blk_set (blk_set (blk_set (HI.out.res) 0 (.int .i64 0)) 1 (.int .i64 (s.nodes.length : Int))) 2 (.int .i64 (edgesW s.nodes))) 3 (.int .i64 (depthS s))) 4
        go_wp2
        have h2 := And.intro ((blk_cell (box5 HI.out.res (.int .i64 0) (.int .i64 (s.nodes.length : Int)) (.int .i64 (edgesW s.nodes)) (.int .i64 (depthS s)) (.int .i64 ((meas (texs s.nodes)).2 : Int))) 0).trans rfl) (And.intro ((blk_cell (box5 HI.out.res (.int .i64 0) (.int .i64 (s.nodes.length : Int)) (.int .i64 (edgesW s.nodes)) (.int .i64 (depthS s)) (.int .i64 ((meas (texs s.nodes)).2 : Int))) 1).trans rfl) (And.intro ((blk_cell (box5 HI.out.res (.int .i64 0) (.int .i64 (s.nodes.length : Int)) (.int .i64 (edgesW s.nodes)) (.int .i64 (depthS s)) (.int .i64 ((meas (texs s.nodes)).2 : Int))) 2).trans rfl) (And.intro ((blk_cell (box5 HI.out.res (.int .i64 0) (.int .i64 (s.nodes.length : Int)) (.int .i64 (edgesW s.nodes)) (.int .i64 (depthS s)) (.int .i64 ((meas (texs s.nodes)).2 : Int))) 3).trans rfl) ((blk_cell (box5 HI.out.res (.int .i64 0) (.int .i64 (s.nodes.length : Int)) (.int .i64 (edgesW s.nodes)) (.int .i64 (depthS s)) (.int .i64 ((meas (texs s.nodes)).2 : Int))) 4).trans rfl))))
        exact bodyPost_ret (v := .agg #[.int .i64 0, .int .i64 (s.nodes.length : Int), .int .i64 (edgesW s.nodes), .int .i64 (depthS s), .int .i64 ((meas (texs s.nodes)).2 : Int)]) (by simp [results, Tryd.results26, go_sem, h2]) rfl ⟨rfl, below_set5 HI.out.below (by omega)⟩
end Go.Proofs.YtglfebpgdghlfaaDoor.L
end
section
namespace Go.Proofs.YtglfebpgdghlfaaDoor.L
open Go.RowKit Go.ChangeShapes Go.WideShapes Go.Proofs.YtglfebpgdghlfaaDoorW.PrintWords Go.Proofs.YtglfebpgdghlfaaDoorW.PrintLast Go.Proofs.YtglfebpgdghlfaaDoorW.PrintMore
attribute [local go_sem] max2_int min2_int max_two min_two max_three min_three max_four min_four
structure Lim where
  b : Int
  n : Int
  e : Int
  d : Int
  t : Int
abbrev limV (l : Lim) : Array Value := #[.int .i64 l.b, .int .i64 l.n, .int .i64 l.e, .int .i64 l.d, .int .i64 l.t]
structure Lim.Le (x y : Lim) : Prop where
  b : x.b ≤ y.b
  n : x.n ≤ y.n
  e : x.e ≤ y.e
  d : x.d ≤ y.d
  t : x.t ≤ y.t
abbrev eachV (x y : Lim) : Array Value := #[.int .i64 x.b, .int .i64 y.b, .int .i64 x.n, .int .i64 y.n, .int .i64 x.e, .int .i64 y.e, .int .i64 x.d, .int .i64 y.d, .int .i64 x.t, .int .i64 y.t]
set_option maxRecDepth 100000 in
set_option maxHeartbeats 2000000 in
theorem each_any (x y : Lim) (w : World) : Calls Tryd.prog 99 #[.agg (limV x), .agg (limV y)] w fun e w' => e = .returned (.agg (eachV x y)) ∧ Below w.heap.size w w' := by
  have HB := Aside0.mk (below_alloc (below_alloc (below_alloc (Below.refl w.heap.size w) (.cells (limV x) 50)) (.cells (limV y) 50)) (.cells (eachV x y) 131))
  have hu := Tryd.underlying50
  go_enter Tryd.func99, Tryd.ntmps99
  go_wp2
  exact bodyPost_ret (v := .agg (eachV x y)) (by simp [results, Tryd.results99, go_sem]) rfl ⟨rfl, HB.out⟩
theorem rx0 (x y : Lim) (W : World) : (Instr.index 131 (.agg (eachV x y)) (.int .i64 ((0 : Nat) : Int))).run Tryd.prog W = .ok (.agg #[.int .i64 x.b, .int .i64 y.b]) W := by simp [Instr.index, go_sem]
theorem rx1 (x y : Lim) (W : World) : (Instr.index 131 (.agg (eachV x y)) (.int .i64 ((1 : Nat) : Int))).run Tryd.prog W = .ok (.agg #[.int .i64 x.n, .int .i64 y.n]) W := by simp [Instr.index, go_sem]
theorem rx2 (x y : Lim) (W : World) : (Instr.index 131 (.agg (eachV x y)) (.int .i64 ((2 : Nat) : Int))).run Tryd.prog W = .ok (.agg #[.int .i64 x.e, .int .i64 y.e]) W := by simp [Instr.index, go_sem]
theorem rx3 (x y : Lim) (W : World) : (Instr.index 131 (.agg (eachV x y)) (.int .i64 ((3 : Nat) : Int))).run Tryd.prog W = .ok (.agg #[.int .i64 x.d, .int .i64 y.d]) W := by simp [Instr.index, go_sem]
theorem rx4 (x y : Lim) (W : World) : (Instr.index 131 (.agg (eachV x y)) (.int .i64 ((4 : Nat) : Int))).run Tryd.prog W = .ok (.agg #[.int .i64 x.t, .int .i64 y.t]) W := by simp [Instr.index, go_sem]
theorem wpList_index {P : Program} {ops : Array Oper} {rest : List Oper} {o : Oper} {a : Act} {Q : Exit → Act → World → Prop} {w : World} (hg : o.guard = none) (m x : Operand) (t : TypeId) (hop : o.op = Op.index t m x) (mv xv u : Value) (hm : a.eval m = mv) (hx : a.eval x = xv)
    (hrun : (Instr.index t mv xv).run P w = .ok u w) (hK : wpList P ops Q rest (a.put o.dst u) w) : wpList P ops Q (o :: rest) a w := by
  refine wpList_plain hg fun K' hK' => ?_
  unfold Oper.wp
  simp [execOp, hop, hm, hx, hrun, Result.andThen]
  exact hK' _ _ hK
set_option maxRecDepth 100000 in
set_option maxHeartbeats 4000000 in
theorem within_ok (x y : Lim) (h : Lim.Le x y) (w : World) : Calls Tryd.prog 63 #[.agg (limV x), .agg (limV y)] w fun e w' => e = .returned (.bool true) ∧ Below w.heap.size w w' := by
  have HB := Aside0.mk (below_alloc (below_alloc (Below.refl w.heap.size w) (.cells (limV x) 50)) (.cells (limV y) 50))
  have hu := Tryd.underlying50
  have HH := Aside0.mk h
  clear h
  go_enter Tryd.func63, Tryd.ntmps63
  go_wp2_with fail
  refine (each_any x y _).mono ?_
  rintro e w1 ⟨rfl, hB1⟩
  have HB1 := Aside0.mk (below_step HB.out hB1)
  clear hB1
  go_wp2
  go_loopw [10] (fun v10 W => ∃ k : Nat, k ≤ 5 ∧ v10 = .int .i64 k ∧ Aside0 (Below w.heap.size w W)) (fun v10 _ => 5 - (intOf v10).toNat)
  case atStart => exact ⟨0, by omega, rfl, HB1⟩
  case round =>
    clear HB1
    obtain ⟨k, hk, rfl, HW⟩ := hrel
    have d0 : decide (y.b < x.b) = false := decide_eq_false (by have := HH.out.b; omega)
    have d1 : decide (y.n < x.n) = false := decide_eq_false (by have := HH.out.n; omega)
    have d2 : decide (y.e < x.e) = false := decide_eq_false (by have := HH.out.e; omega)
    have d3 : decide (y.d < x.d) = false := decide_eq_false (by have := HH.out.d; omega)
    have d4 : decide (y.t < x.t) = false := decide_eq_false (by have := HH.out.t; omega)
    rcases (show k = 0 ∨ k = 1 ∨ k = 2 ∨ k = 3 ∨ k = 4 ∨ k = 5 from by omega) with rfl | rfl | rfl | rfl | rfl | rfl
    case inr.inr.inr.inr.inr =>
      go_wp2
      go_ret
      exact ⟨rfl, HW.out⟩
    case inl =>
      have HW2 := Aside0.mk (fun o : Obj => below_alloc HW.out o)
      go_wp2_with (refine wpList_index rfl (.tmp 9) (.tmp 10) 131 rfl _ _ _ rfl rfl (rx0 x y _) ?_)
      go_roundw
      case rel => exact ⟨_, by decide, rfl, ⟨HW2.out _⟩⟩
      case measure => simp [intOf]
    case inr.inl =>
      have HW2 := Aside0.mk (fun o : Obj => below_alloc HW.out o)
      go_wp2_with (refine wpList_index rfl (.tmp 9) (.tmp 10) 131 rfl _ _ _ rfl rfl (rx1 x y _) ?_)
      go_roundw
      case rel => exact ⟨_, by decide, rfl, ⟨HW2.out _⟩⟩
      case measure => simp [intOf]
    case inr.inr.inl =>
      have HW2 := Aside0.mk (fun o : Obj => below_alloc HW.out o)
      go_wp2_with (refine wpList_index rfl (.tmp 9) (.tmp 10) 131 rfl _ _ _ rfl rfl (rx2 x y _) ?_)
      go_roundw
      case rel => exact ⟨_, by decide, rfl, ⟨HW2.out _⟩⟩
      case measure => simp [intOf]
    case inr.inr.inr.inl =>
      have HW2 := Aside0.mk (fun o : Obj => below_alloc HW.out o)
      go_wp2_with (refine wpList_index rfl (.tmp 9) (.tmp 10) 131 rfl _ _ _ rfl rfl (rx3 x y _) ?_)
      go_roundw
      case rel => exact ⟨_, by decide, rfl, ⟨HW2.out _⟩⟩
      case measure => simp [intOf]
    case inr.inr.inr.inr.inl =>
      have HW2 := Aside0.mk (fun o : Obj => below_alloc HW.out o)
      go_wp2_with (refine wpList_index rfl (.tmp 9) (.tmp 10) 131 rfl _ _ _ rfl rfl (rx4 x y _) ?_)
      go_roundw
      case rel => exact ⟨_, by decide, rfl, ⟨HW2.out _⟩⟩
      case measure => simp [intOf]
def wideL : Lim := ⟨16777216, 16777216, 16777216, 16777216, 16777216⟩
def zeroL : Lim := ⟨0, 0, 0, 0, 0⟩
set_option maxRecDepth 100000 in
set_option maxHeartbeats 2000000 in
theorem lright_ok (x : Lim) (h1 : Lim.Le x wideL) (h0 : Lim.Le zeroL x) (w : World) : Calls Tryd.prog 62 #[.agg (limV x)] w fun e w' => e = .returned (.bool true) ∧ Below w.heap.size w w' := by
  have HB := Aside0.mk (below_alloc (Below.refl w.heap.size w) (.cells (limV x) 50))
  have hu := Tryd.underlying50
  have H1 := Aside0.mk h1
  have H0 := Aside0.mk h0
  have k0 := box_cell w _ rfl (limV x) 50 0 _ rfl
  have k1 := box_cell w _ rfl (limV x) 50 1 _ rfl
  have k2 := box_cell w _ rfl (limV x) 50 2 _ rfl
  have k3 := box_cell w _ rfl (limV x) 50 3 _ rfl
  have k4 := box_cell w _ rfl (limV x) 50 4 _ rfl
  clear h0 h1
  go_enter Tryd.func62, Tryd.ntmps62
  go_wp2_with fail
  refine (within_ok x wideL H1.out _).mono ?_
  rintro e w1 ⟨rfl, hB1⟩
  have HB1 := Aside0.mk (below_step HB.out hB1)
  replace k0 := pw_cell_below hB1 k0
  replace k1 := pw_cell_below hB1 k1
  replace k2 := pw_cell_below hB1 k2
  replace k3 := pw_cell_below hB1 k3
  replace k4 := pw_cell_below hB1 k4
  clear hB1
  go_wp2_with fail
  refine (within_ok zeroL x H0.out _).mono ?_
  rintro e w2 ⟨rfl, hB2⟩
  have HB2 := Aside0.mk (below_step HB1.out hB2)
  clear hB2 k0 k1 k2 k3 k4
  go_wp2
  go_ret
  exact ⟨rfl, HB2.out⟩
end Go.Proofs.YtglfebpgdghlfaaDoor.L
end
section
namespace Go.Proofs.YtglfebpgdghlfaaDoor.L
open Go.RowKit Go.ChangeShapes Go.WideShapes Go.Proofs.YtglfebpgdghlfaaDoorW.PrintWords Go.Proofs.YtglfebpgdghlfaaDoorW.PrintLast Go.Proofs.YtglfebpgdghlfaaDoorW.PrintMore
attribute [local go_sem] max2_int min2_int max_two min_two max_three min_three max_four min_four
theorem texs_le {b : Nat} : ∀ ns : List Node, (∀ n ∈ ns, n.texts.length ≤ b) → (texs ns).length ≤ ns.length * b
  | [], _ => by simp [texs]
  | n :: ns, h => by
    have h1 := texs_le ns (fun y hy => h y (by simp [hy]))
    have h2 := h n (by simp)
    have h3 : texs (n :: ns) = n.texts ++ texs ns := rfl
    rw [h3, List.length_append, List.length_cons, Nat.succ_mul]
    omega
theorem mem_nd {ns : List Node} {n : Node} (h : n ∈ ns) : ∃ i : Nat, i < ns.length ∧ n = nd ns i := by
  obtain ⟨i, hi, e⟩ := List.getElem_of_mem h
  refine ⟨i, hi, ?_⟩
  unfold nd
  rw [List.getD_eq_getElem?_getD, List.getElem?_eq_getElem hi]
  exact e.symm
end Go.Proofs.YtglfebpgdghlfaaDoor.L
end
section
namespace Go.Proofs.YtglfebpgdghlfaaDoor.L
open Go.RowKit Go.ChangeShapes Go.WideShapes Go.Proofs.YtglfebpgdghlfaaDoorW.PrintWords Go.Proofs.YtglfebpgdghlfaaDoorW.PrintLast Go.Proofs.YtglfebpgdghlfaaDoorW.PrintMore
attribute [local go_sem] max2_int min2_int max_two min_two max_three min_three max_four min_four
def Has (b : Nat) (cs : Array Value) (W : World) : Prop := ∃ t, W.heap[b]? = some (.cells cs t (0, 0))
theorem Lives.has {b : Nat} {W : World} (h : Lives 5 b W) (u0 u1 u2 u3 u4 : Value) : Has b #[u0, u1, u2, u3, u4] (((((W.setCell ⟨b, 0, none⟩ u0).setCell ⟨b, 1, none⟩ u1).setCell ⟨b, 2, none⟩ u2).setCell ⟨b, 3, none⟩ u3).setCell ⟨b, 4, none⟩ u4) := by
  obtain ⟨cs, hk, t, h⟩ := h
  obtain ⟨x0, x1, x2, x3, x4, rfl⟩ : ∃ x0 x1 x2 x3 x4, cs = #[x0, x1, x2, x3, x4] := by
    obtain ⟨l⟩ := cs
    match l, hk with
    | [x0, x1, x2, x3, x4], _ => exact ⟨_, _, _, _, _, rfl⟩
  exact ⟨t, box5 h u0 u1 u2 u3 u4⟩
theorem Has.lt {b : Nat} {cs : Array Value} {W : World} (h : Has b cs W) : b < W.heap.size := by obtain ⟨t, h⟩ := h; exact blk_lt h
theorem Has.below {b : Nat} {cs : Array Value} {W W1 : World} (hb : Below W.heap.size W W1) (h : Has b cs W) : Has b cs W1 := by
  obtain ⟨t, h⟩ := h
  exact ⟨t, (hb.block b (blk_lt h)).trans h⟩
theorem Has.alloc {b : Nat} {cs : Array Value} {W : World} (o : Obj) (h : Has b cs W) : Has b cs (W.alloc o) := h.below (below_alloc (Below.refl _ _) o)
theorem Has.far {b g i : Nat} {cs : Array Value} {W : World} {u : Value} (hne : b ≠ g) (h : Has b cs W) : Has b cs (W.setCell ⟨g, i, none⟩ u) := by
  obtain ⟨t, h⟩ := h
  exact ⟨t, (Below.heap_setCell W ⟨g, i, none⟩ u b hne).trans h⟩
theorem Has.cell {b : Nat} {cs : Array Value} {W : World} (h : Has b cs W) (i : Nat) {v : Value} (hv : cs[i]? = some v) : W.cell? ⟨b, i, none⟩ = some v := by
  obtain ⟨t, h⟩ := h
  exact (blk_cell h i).trans hv
theorem depthS_le {s : Scene} (hr : Right s) : 0 ≤ depthS s ∧ depthS s ≤ s.nodes.length + 1 := by
  unfold depthS
  rw [if_pos (gcheck_right.2 hr)]
  have := H_bound hr.dag (a := s.root) ⟨hr.r0, hr.r1⟩
  omega
end Go.Proofs.YtglfebpgdghlfaaDoor.L
end
section
namespace Go.Proofs.YtglfebpgdghlfaaDoor.L
open Go.RowKit Go.ChangeShapes Go.WideShapes Go.Proofs.YtglfebpgdghlfaaDoorW.PrintWords Go.Proofs.YtglfebpgdghlfaaDoorW.PrintLast Go.Proofs.YtglfebpgdghlfaaDoorW.PrintMore
attribute [local go_sem] max2_int min2_int max_two min_two max_three min_three max_four min_four
noncomputable def msL (s : Scene) : Lim := ⟨0, (s.nodes.length : Int), edgesW s.nodes, depthS s, (textSum s.nodes : Int)⟩
theorem Lim.le_refl (x : Lim) : Lim.Le x x := ⟨Int.le_refl _, Int.le_refl _, Int.le_refl _, Int.le_refl _, Int.le_refl _⟩
set_option maxRecDepth 100000 in
set_option maxHeartbeats 8000000 in
theorem valid_ok (A : Option Addr) (c : Nat) (s : Scene) (w : World) (h : kNode.C w A s.nodes.length s.nodes) (hT : Tabs w) (hTS : ∀ i : Nat, i < s.nodes.length → TextsSmall (nd s.nodes i)) (hM : rows s.nodes ≤ 400000) (hx : ∀ x ∈ texs s.nodes, x.size ≤ 1000000) (hl : (texs s.nodes).length ≤ 1000000000)
    (hty : (typedS newTab s.nodes).1 = 0) (hr : Right s) (h1 : Lim.Le (msL s) wideL) (h0 : Lim.Le zeroL (msL s)) :
    Calls Tryd.prog 34 #[.agg #[.slice A s.nodes.length c, .int .i64 s.root], .agg (limV (msL s))] w fun e w' => e = .returned (.tuple #[.int .i64 0, .int .i64 0]) ∧ Below w.heap.size w w' := by
  have HR := Aside0.mk h
  have HT := Aside0.mk hT
  have HTS := Aside0.mk hTS
  have HM := Aside0.mk hM
  have HX := Aside0.mk hx
  have HL := Aside0.mk hl
  have HTy := Aside0.mk hty
  have HRt := Aside0.mk hr
  have H1 := Aside0.mk h1
  have H0 := Aside0.mk h0
  have HMs := Aside0.mk (show (.agg #[.int .i64 0, .int .i64 (s.nodes.length : Int), .int .i64 (edgesW s.nodes), .int .i64 (depthS s), .int .i64 (textSum s.nodes : Int)] : Value) = .agg (limV (msL s)) from rfl)
  have HB := Aside0.mk (below_alloc (below_alloc (Below.refl w.heap.size w) (.cells #[.slice A s.nodes.length c, .int .i64 s.root] 39)) (.cells (limV (msL s)) 50))
  have k0 := box_cell2 w _ rfl #[.slice A s.nodes.length c, .int .i64 s.root] 39 (.cells (limV (msL s)) 50) 0 (.slice A s.nodes.length c) rfl
  have k1 := box_cell2 w _ rfl #[.slice A s.nodes.length c, .int .i64 s.root] 39 (.cells (limV (msL s)) 50) 1 (.int .i64 s.root) rfl
  have hu := Tryd.underlying39
  have hul := Tryd.underlying50
  clear h hT hTS hM hx hl hty hr h1 h0
  generalize msL s = m at H1 H0 HMs HB k0 k1 ⊢
  have l0 := box_cell (w.alloc (.cells #[.slice A s.nodes.length c, .int .i64 s.root] 39)) (w.heap.size + 1) (by simp) (limV m) 50 0 (.int .i64 m.b) rfl
  have l1 := box_cell (w.alloc (.cells #[.slice A s.nodes.length c, .int .i64 s.root] 39)) (w.heap.size + 1) (by simp) (limV m) 50 1 (.int .i64 m.n) rfl
  have l2 := box_cell (w.alloc (.cells #[.slice A s.nodes.length c, .int .i64 s.root] 39)) (w.heap.size + 1) (by simp) (limV m) 50 2 (.int .i64 m.e) rfl
  have l3 := box_cell (w.alloc (.cells #[.slice A s.nodes.length c, .int .i64 s.root] 39)) (w.heap.size + 1) (by simp) (limV m) 50 3 (.int .i64 m.d) rfl
  have l4 := box_cell (w.alloc (.cells #[.slice A s.nodes.length c, .int .i64 s.root] 39)) (w.heap.size + 1) (by simp) (limV m) 50 4 (.int .i64 m.t) rfl
  go_enter Tryd.func34, Tryd.ntmps34
  go_wp2_with fail
  refine (lright_ok m H1.out H0.out _).mono ?_
  rintro e w1 ⟨rfl, hB1⟩
  replace k0 := pw_cell_below hB1 k0
  replace k1 := pw_cell_below hB1 k1
  replace l0 := pw_cell_below hB1 l0
  replace l1 := pw_cell_below hB1 l1
  replace l2 := pw_cell_below hB1 l2
  replace l3 := pw_cell_below hB1 l3
  replace l4 := pw_cell_below hB1 l4
  have HB1 := Aside0.mk (below_step HB.out hB1)
  clear hB1 HB
  go_wp2_with fail
  refine (typed_any A c s _ (Kd.C_below HR.out HB1.out) (HT.out.below HB1.out) HTS.out).mono ?_
  rintro e w2 ⟨rfl, hB2⟩
  replace k0 := pw_cell_below hB2 k0
  replace k1 := pw_cell_below hB2 k1
  replace l0 := pw_cell_below hB2 l0
  replace l1 := pw_cell_below hB2 l1
  replace l2 := pw_cell_below hB2 l2
  replace l3 := pw_cell_below hB2 l3
  replace l4 := pw_cell_below hB2 l4
  have HB2 := Aside0.mk (below_step HB1.out hB2)
  clear hB2
  rw [HTy.out]
  go_wp2_with fail
  refine (gcheck_any A c s _ (Kd.C_below HR.out HB2.out) HM.out).mono ?_
  rintro e w3 ⟨rfl, hB3⟩
  replace k0 := pw_cell_below hB3 k0
  replace k1 := pw_cell_below hB3 k1
  replace l0 := pw_cell_below hB3 l0
  replace l1 := pw_cell_below hB3 l1
  replace l2 := pw_cell_below hB3 l2
  replace l3 := pw_cell_below hB3 l3
  replace l4 := pw_cell_below hB3 l4
  have HB3 := Aside0.mk (below_step HB2.out hB3)
  have hz := gcheck_zero HRt.out
  rw [hz]
  clear hB3 HB1 HB2 hz
  go_wp2
  go_region_held3 (fun W => W.cell? ⟨w.heap.size, 0, none⟩ = some (.slice A s.nodes.length c) ∧ W.cell? ⟨w.heap.size, 1, none⟩ = some (.int .i64 s.root) ∧ W.cell? ⟨w.heap.size + 1, 0, none⟩ = some (.int .i64 m.b) ∧ W.cell? ⟨w.heap.size + 1, 1, none⟩ = some (.int .i64 m.n) ∧ W.cell? ⟨w.heap.size + 1, 2, none⟩ = some (.int .i64 m.e) ∧ W.cell? ⟨w.heap.size + 1, 3, none⟩ = some (.int .i64 m.d) ∧ W.cell? ⟨w.heap.size + 1, 4, none⟩ = some (.int .i64 m.t))
    (first
      | (go_split_ands
         (repeat' apply And.intro)
         all_goals first
           | with_reducible assumption
           | with_reducible exact pw_cell_below hB (by assumption)
           | (simp [*]; done)))
    (first
      | (go_at_call 26; refine (measure_any A c s _ (Kd.C_drew (Kd.C_below HR.out HB3.out)) HM.out HX.out HL.out).mono ?_; rintro e w4 ⟨rfl, hB⟩; rw [HMs.out]; have HB4 := Aside0.mk (below_step (below_drew HB3.out) hB))
      | (go_at_call 63; refine (within_ok m m (Lim.le_refl m) _).mono ?_; rintro e w5 ⟨rfl, hB⟩; have HB5 := Aside0.mk (below_step HB4.out hB)))
  all_goals
    clear k0 k1 l0 l1 l2 l3 l4
    go_wp2
    go_ret2
    exact ⟨rfl, HB5.out⟩
end Go.Proofs.YtglfebpgdghlfaaDoor.L
end
