/- Part 5 of the texts that YtglfebpgdghlfaaDoorRowRK rests on, joined by a program: what its functions come to. Conditions: those that each theorem states. -/
import Derived.Test.YtglfebpgdghlfaaDoorQkd
import Derived.Test.YtglfebpgdghlfaaDoorProg
import Derived.Below
import Derived.Deep.Draws
import Derived.Deep.AppendLies
import Derived.Maps.AppendAt
import Derived.OwnWalk
import Derived.Laws.BytesArg
import Derived.Laws.MakeOwn
import Derived.Laws.OwnMore
import Derived.Deep.OwnRows
import Derived.Tactics
import Derived.Lib.ConvBytes
import Derived.Laws.Slices
import Derived.WalkKit
import Derived.KernelRfl
import Derived.RowKit3
import Derived.Deep.LoopGhost
import Derived.Deep.QuietTactic
import Derived.BigQuiet
import Derived.WideLaws
import Derived.Deep.DeepCutAuto
import Derived.Deep.CutBlock
import Derived.Deep.RegionHeld3
import Derived.Laws.Rows
import Derived.Lib.AppendStr
import Derived.ArgAppend
import Derived.Laws.IdiomCopy
import Derived.OrdersHeld
import Derived.Laws.BitsLemmas
import Derived.RowKit
import Derived.Lib.Bytes
import Derived.Lib.MapLaws
import Derived.StillTailTactics
import Derived.Test.YtglfebpgdghlfaaDoorCards
import Derived.Test.YtglfebpgdghlfaaDoorTie
import Derived.OpenShut
import Derived.ChangeOld
import Derived.SizedLaws
import Derived.LaidMore
import Derived.Lay
import Derived.SevenTiedAt
import Derived.Stop.Joined
import Derived.Lib.LaidU8
set_option linter.unusedVariables false
set_option linter.unusedSimpArgs false
section
-- PRINTED BY print.sh 35421559b90ae4d0a3588c463048766b98c2df88dd9212a6774a882060cdf62d: not written by this session
namespace Go.Proofs.YtglfebpgdghlfaaDoor.PUpgradeUps
open Go.RowKit Go.Proofs.YtglfebpgdghlfaaDoorW.PrintWords Go.Proofs.YtglfebpgdghlfaaDoorW.PrintLast Go.Proofs.YtglfebpgdghlfaaDoorW.PrintMore
attribute [local go_sem] max2_int min2_int max_two min_two max_three min_three max_four min_four   -- for this text's walks alone
set_option linter.unusedVariables false
set_option linter.unusedSimpArgs false
structure S26 where
 f0 : Int
 f1 : (List Int)
 f2 : (List ByteArray)
 f3 : (List Int)
end Go.Proofs.YtglfebpgdghlfaaDoor.PUpgradeUps
end
section
namespace Go.Proofs.YtglfebpgdghlfaaDoor.L
open Go.RowKit Go.ChangeShapes Go.WideShapes Go.Proofs.YtglfebpgdghlfaaDoorW.PrintWords Go.Proofs.YtglfebpgdghlfaaDoorW.PrintLast Go.Proofs.YtglfebpgdghlfaaDoorW.PrintMore
attribute [local go_sem] max2_int min2_int max_two min_two max_three min_three max_four min_four
open Go.Proofs.YtglfebpgdghlfaaDoor.PUpgradeUps
def ofS (x : S26) : Node := ⟨x.f0, x.f1, x.f2, x.f3⟩
end Go.Proofs.YtglfebpgdghlfaaDoor.L
end
section
namespace Go.Proofs.YtglfebpgdghlfaaDoor.L
open Go.RowKit Go.ChangeShapes Go.WideShapes Go.Proofs.YtglfebpgdghlfaaDoorW.PrintWords Go.Proofs.YtglfebpgdghlfaaDoorW.PrintLast Go.Proofs.YtglfebpgdghlfaaDoorW.PrintMore
attribute [local go_sem] max2_int min2_int max_two min_two max_three min_three max_four min_four
open Go.Proofs.YtglfebpgdghlfaaDoor.PUpgradeUps
theorem ob {z : Int} (m : Nat) (h : z = (m : Int)) : UInt8.ofNat z.toNat = UInt8.ofNat m := by rw [h]; rfl
end Go.Proofs.YtglfebpgdghlfaaDoor.L
end
section
namespace Go.Proofs.YtglfebpgdghlfaaDoor.L
open Go.RowKit Go.ChangeShapes Go.WideShapes Go.Proofs.YtglfebpgdghlfaaDoorW.PrintWords Go.Proofs.YtglfebpgdghlfaaDoorW.PrintLast Go.Proofs.YtglfebpgdghlfaaDoorW.PrintMore
attribute [local go_sem] max2_int min2_int max_two min_two max_three min_three max_four min_four
open Go.Proofs.YtglfebpgdghlfaaDoor.PUpgradeUps
def _root_.Go.Proofs.YtglfebpgdghlfaaDoor.PUpgradeUps.dioramaref09_Place.f (xs : List S26) (_ : Int) (a : Int) : Option Bool := some (isPl xs.length a)
def _root_.Go.Proofs.YtglfebpgdghlfaaDoor.PUpgradeUps.dioramaref09_Refs.f (_ : Nat) (xs : List S26) (_ : Int) : Option Int := some (refsAt (xs.map ofS))
theorem _root_.Go.Proofs.YtglfebpgdghlfaaDoor.PUpgradeUps.dioramaref09_Refs.mono : ∀ a0 a1 k, LeO (dioramaref09_Refs.f k a0 a1) (dioramaref09_Refs.f (k + 1) a0 a1) := fun _ _ _ => LeO.refl _
end Go.Proofs.YtglfebpgdghlfaaDoor.L
end
section
namespace Go.Proofs.YtglfebpgdghlfaaDoor.L
open Go.RowKit Go.ChangeShapes Go.WideShapes Go.Proofs.YtglfebpgdghlfaaDoorW.PrintWords Go.Proofs.YtglfebpgdghlfaaDoorW.PrintLast Go.Proofs.YtglfebpgdghlfaaDoorW.PrintMore
attribute [local go_sem] max2_int min2_int max_two min_two max_three min_three max_four min_four
open Go.Proofs.YtglfebpgdghlfaaDoor.PUpgradeUps
structure KidB (f : Int → Int) (n : Node) (v1 v2 v3 : Value) (j g : Nat) (W0 W : World) : Prop where
  below : Below W0.heap.size W0 W
  gb : W0.heap.size ≤ g
  box : W.heap[g]? = some (.cells #[.int .i64 n.kind, v1, v2, v3] 26 (0, 0))
  r1 : (Kd.int .i64).R 2 W W0.heap.size (fun _ => True) v1 n.ints
  r2 : Kd.string.R 9 W W0.heap.size (fun _ => True) v2 n.texts
  r3 : (Kd.int .i64).R 3 W W0.heap.size (fun _ => True) v3 (mapTake f n.kids j)
theorem KidB.drewN {f : Int → Int} {n : Node} {v1 v2 v3 : Value} {j g : Nat} {W0 W : World} (h : KidB f n v1 v2 v3 j g W0 W) (m : Nat) : KidB f n v1 v2 v3 j g W0 (W.drewN m) :=
  ⟨pw_below_drewN h.below m, h.gb, h.box, Kd.R_drewN h.r1 m, Kd.R_drewN h.r2 m, Kd.R_drewN h.r3 m⟩
theorem KidB.set {f : Int → Int} {n : Node} {v1 v2 : Value} {g' g c m : Nat} {j : Nat} {W0 W : World} (h : KidB f n v1 v2 (.slice (some ⟨g, 0, none⟩) m c) j g' W0 W) (hj : j < n.kids.length) :
    W.cell? ⟨g, j, none⟩ = some (.int .i64 (rd n.kids (j : Int))) ∧ W.frozen? ⟨g, j, none⟩ = false ∧ g ≠ g' ∧ KidB f n v1 v2 (.slice (some ⟨g, 0, none⟩) m c) (j + 1) g' W0 (W.setCell ⟨g, j, none⟩ (.int .i64 (f (rd n.kids (j : Int))))) := by
  have hm := (Kd.R_reads' h.r3).1
  rw [mapTake_len] at hm
  obtain ⟨c1, c2⟩ := ints_cell h.r3 j (by omega)
  obtain ⟨s1, s2, s3⟩ := ints_store h.r3 j (by omega) (f (rd n.kids (j : Int)))
  rw [mapTake_rd f _ _ hj] at c1
  rw [mapTake_set f _ _ hj] at s1
  obtain ⟨cells, hc⟩ := Kd.R_typed h.r3 g rfl
  have hne : g ≠ g' := fun e => by
    rw [e, h.box] at hc
    cases hc
  refine ⟨c1, c2, hne, below_set h.below s3, h.gb, blk_grown h.box s2 (fun e => ?_), Kd.R_grown1 h.r1 rfl s2 (Kd.R_ne h.r1 hc (by decide)), Kd.R_grown1 h.r2 rfl s2 (Kd.R_ne h.r2 hc (by decide)), s1⟩
  injection e with e
  exact hne e.symm
theorem KidB.drew {f : Int → Int} {n : Node} {v1 v2 v3 : Value} {j g : Nat} {W0 W : World} (h : KidB f n v1 v2 v3 j g W0 W) : KidB f n v1 v2 v3 j g W0 W.drew := h.drewN 1
end Go.Proofs.YtglfebpgdghlfaaDoor.L
end
section
namespace Go.Proofs.YtglfebpgdghlfaaDoor.L
open Go.RowKit Go.ChangeShapes Go.WideShapes Go.Proofs.YtglfebpgdghlfaaDoorW.PrintWords Go.Proofs.YtglfebpgdghlfaaDoorW.PrintLast Go.Proofs.YtglfebpgdghlfaaDoorW.PrintMore
attribute [local go_sem] max2_int min2_int max_two min_two max_three min_three max_four min_four
open Go.Proofs.YtglfebpgdghlfaaDoor.PUpgradeUps
def B (s : ByteArray) (i : Nat) : Nat := (s.get! i).toNat
end Go.Proofs.YtglfebpgdghlfaaDoor.L
end
section
namespace Go.Proofs.YtglfebpgdghlfaaDoor.L
open Go.RowKit Go.ChangeShapes Go.WideShapes Go.Proofs.YtglfebpgdghlfaaDoorW.PrintWords Go.Proofs.YtglfebpgdghlfaaDoorW.PrintLast Go.Proofs.YtglfebpgdghlfaaDoorW.PrintMore
attribute [local go_sem] max2_int min2_int max_two min_two max_three min_three max_four min_four
set_option maxRecDepth 100000 in
set_option maxHeartbeats 1000000 in
theorem empty_any (n : Node) (A1 : Option Addr) (c1 : Nat) (A2 : Option Addr) (c2 : Nat) (A3 : Option Addr) (c3 : Nat) (w : World) :
    Calls Tryd.prog 111 #[.agg #[.int .i64 n.kind, .slice A1 n.ints.length c1, .slice A2 n.texts.length c2, .slice A3 n.kids.length c3]] w fun e w' => e = .returned (.bool (emptyN n)) ∧ Below w.heap.size w w' := by
  have HB := Aside0.mk (below_alloc (Below.refl w.heap.size w) (.cells #[.int .i64 n.kind, .slice A1 n.ints.length c1, .slice A2 n.texts.length c2, .slice A3 n.kids.length c3] 26))
  have hu := Tryd.underlying26
  by_cases h0 : n.kind = 0
  · by_cases h1 : n.ints.length = 0
    · by_cases h2 : n.texts.length = 0
      · by_cases h3 : n.kids.length = 0
        · have HE := Aside0.mk (show emptyN n = true from decide_eq_true ⟨h0, h1, h2, h3⟩)
          rw [h0, h1, h2, h3] at HB ⊢
          clear h0 h1 h2 h3
          go_enter Tryd.func111, Tryd.ntmps111
          go_wp2
          go_ret
          exact ⟨ret_bool HE.out.symm, HB.out⟩
        · have HE := Aside0.mk (show emptyN n = false from decide_eq_false (fun h => h3 h.2.2.2))
          have d3 : ((n.kids.length : Int) == 0) = false := beq_eq_false_iff_ne.2 (by omega)
          rw [h0, h1, h2] at HB ⊢
          clear h0 h1 h2 h3
          go_enter Tryd.func111, Tryd.ntmps111
          go_wp2
          go_ret
          exact ⟨ret_bool HE.out.symm, HB.out⟩
      · have HE := Aside0.mk (show emptyN n = false from decide_eq_false (fun h => h2 h.2.2.1))
        have d3 : ((n.texts.length : Int) == 0) = false := beq_eq_false_iff_ne.2 (by omega)
        rw [h0, h1] at HB ⊢
        clear h0 h1 h2
        go_enter Tryd.func111, Tryd.ntmps111
        go_wp2
        go_ret
        exact ⟨ret_bool HE.out.symm, HB.out⟩
    · have HE := Aside0.mk (show emptyN n = false from decide_eq_false (fun h => h1 h.2.1))
      have d3 : ((n.ints.length : Int) == 0) = false := beq_eq_false_iff_ne.2 (by omega)
      rw [h0] at HB ⊢
      clear h0 h1
      go_enter Tryd.func111, Tryd.ntmps111
      go_wp2
      go_ret
      exact ⟨ret_bool HE.out.symm, HB.out⟩
  · have HE := Aside0.mk (show emptyN n = false from decide_eq_false (fun h => h0 h.1))
    have d3 : (n.kind == 0) = false := by simpa using h0
    clear h0
    go_enter Tryd.func111, Tryd.ntmps111
    go_wp2
    go_ret
    exact ⟨ret_bool HE.out.symm, HB.out⟩
structure BRel (a : Scene) (A : Option Addr) (c b mb cnt : Nat) (f : Lit → Option Value) (v : Value) (out : List Node) (w W : World) : Prop where
  below : Below w.heap.size w W
  blk : W.heap[b]? = some (.cells #[.slice A a.nodes.length c, .int .i64 a.root, .map (some mb), v] 89 (0, 0))
  map : MapF Tryd.prog 3 W mb cnt f
  rows : kNode.R 26 W w.heap.size (fun _ => True) v out
  bge : w.heap.size ≤ b
  mge : w.heap.size ≤ mb
section
variable {a : Scene} {A : Option Addr} {c b mb cnt : Nat} {f : Lit → Option Value} {v : Value} {out : List Node} {w W W1 : World}
theorem BRel.later (h : BRel a A c b mb cnt f v out w W) (hb : Below W.heap.size W W1) : BRel a A c b mb cnt f v out w W1 :=
  ⟨below_step h.below hb, (hb.block _ (blk_lt h.blk)).trans h.blk, h.map.below hb, Kd.R_below h.rows hb, h.bge, h.mge⟩
theorem BRel.drew (h : BRel a A c b mb cnt f v out w W) : BRel a A c b mb cnt f v out w W.drew := h.later (pw_below_drewN (Below.refl _ _) 1)
theorem BRel.grow {cnt' : Nat} {f' : Lit → Option Value} (h : BRel a A c b mb cnt f v out w W) (hg : W.grownBy W1 (some mb)) (hM : MapF Tryd.prog 3 W1 mb cnt' f') : BRel a A c b mb cnt' f' v out w W1 :=
  ⟨h.below.grown hg h.below.size (fun q hq => by injection hq with hq; have := h.mge; omega), blk_grown h.blk hg (fun e => by injection e with e; exact h.map.not_cells (by rw [← e]; exact h.blk)), hM, R_past_map h.rows h.map hg, h.bge, h.mge⟩
end
def CapB (B N : Nat) (w : World) : Prop := ∃ b A c, w.cell? ⟨B, 0, none⟩ = some (.pointer (some ⟨b, 0, none⟩)) ∧ w.cell? ⟨b, 3, none⟩ = some (.slice A N c) ∧ N ≤ 9223372036854775807
theorem CapB.below {B N : Nat} {w w' : World} (h : CapB B N w) (hb : Below w.heap.size w w') : CapB B N w' := by
  obtain ⟨b, A, c, h1, h2, hN⟩ := h
  exact ⟨b, A, c, pw_cell_below hb h1, pw_cell_below hb h2, hN⟩
set_option maxRecDepth 100000 in
set_option maxHeartbeats 1000000 in
theorem noAhead_any (k : Int) (B b : Nat) (A : Option Addr) (N c : Nat) (w : World) (h : w.cell? ⟨B, 0, none⟩ = some (.pointer (some ⟨b, 0, none⟩))) (h2 : w.cell? ⟨b, 3, none⟩ = some (.slice A N c)) (hN : N ≤ 9223372036854775807) :
    Calls Tryd.prog 94 #[.int .i64 k, .pointer (some ⟨B, 0, none⟩)] w fun e w' => e = .returned (.bool (noPlace N k)) ∧ Drawn0 w w' := by
  have hub := Tryd.underlying89
  by_cases h1 : k < 0
  · have E : Aside0 (noPlace N k = true) := ⟨by unfold noPlace; rw [decide_eq_true h1]; rfl⟩
    have d1 : decide (k < 0) = true := decide_eq_true h1
    clear h1
    go_enter Tryd.func94, Tryd.ntmps94
    go_wp2
    go_ret
    exact ⟨ret_bool E.out.symm, by repeat (first | exact Drawn0.refl _ | apply Drawn0.step)⟩
  · have d1 : decide (k < 0) = false := decide_eq_false h1
    by_cases h3 : (N : Int) ≤ k
    · have E : Aside0 (noPlace N k = true) := ⟨by unfold noPlace; rw [decide_eq_true h3]; simp⟩
      have d2 : decide ((N : Int) ≤ k) = true := decide_eq_true h3
      clear h1 h3
      go_enter Tryd.func94, Tryd.ntmps94
      go_wp2
      go_ret
      exact ⟨ret_bool E.out.symm, by repeat (first | exact Drawn0.refl _ | apply Drawn0.step)⟩
    · have E : Aside0 (noPlace N k = false) := ⟨by unfold noPlace; rw [decide_eq_false h1, decide_eq_false h3]; rfl⟩
      have d2 : decide ((N : Int) ≤ k) = false := decide_eq_false h3
      clear h1 h3
      go_enter Tryd.func94, Tryd.ntmps94
      go_wp2
      go_ret
      exact ⟨ret_bool E.out.symm, by repeat (first | exact Drawn0.refl _ | apply Drawn0.step)⟩
set_option maxRecDepth 100000 in
set_option maxHeartbeats 1000000 in
theorem aheadIdx_any (A : Option Addr) (c : Nat) (l : List Int) (B N : Nat) (w : World) (hl : (Kd.int .i64).C w A l.length l) (h : CapB B N w) :
    Calls Tryd.prog 115 #[.slice A l.length c, .func (.func 94) #[] #[.pointer (some ⟨B, 0, none⟩)]] w (KidIdx N l w) := by
  have HR := Aside0.mk hl
  have HC := Aside0.mk h
  have HB := Aside0.mk (Below.refl w.heap.size w)
  have b0 := hl.2.1
  clear hl h
  go_enter Tryd.func115, Tryd.ntmps115
  go_wp2
  go_loopw [5, 8] (fun _ v8 W => ∃ k : Nat, k ≤ l.length ∧ v8 = .int .i64 k ∧ Aside0 (∀ j, j < k → noPlace N (rd l j) = false) ∧ Aside0 (Below w.heap.size w W)) (fun _ v8 _ => l.length - (intOf v8).toNat)
  case atStart => exact ⟨0, by omega, rfl, ⟨fun j hj => by omega⟩, HB⟩
  case round =>
    obtain ⟨k, hk, rfl, HP, HB1⟩ := hrel
    by_cases hlt : k < l.length
    · obtain ⟨ad0, rfl, hx0⟩ := at_nat (Kd.C_below HR.out HB1.out) k (by omega)
      obtain ⟨bb, AA, cc, h3⟩ := HC.out.below HB1.out
      have h3 := Aside0.mk h3
      go_wp2_with fail
      refine (noAhead_any (rd l k) B _ _ N _ _ h3.out.1 h3.out.2.1 h3.out.2.2).mono ?_
      rintro e w' ⟨rfl, hB⟩
      have HB2 := Aside0.mk (below_step HB1.out hB.below)
      clear hB
      by_cases hi : noPlace N (rd l k) = true
      · have HI := Aside0.mk hi
        clear hi
        rw [HI.out]
        go_wp2
        go_ret
        exact ⟨k, rfl, by rw [kidsBad_at hlt HI.out]; exact decide_eq_true (by omega), HB2.out⟩
      · have HI := Aside0.mk (Bool.eq_false_iff.2 hi)
        clear hi
        rw [HI.out]
        go_wp2
        go_roundw
        case rel => exact ⟨k + 1, by omega, by go_num, ⟨ext_lt HP.out HI.out⟩, HB2⟩
        case measure => simp [intOf]; omega
    · have HE := Aside0.mk (kidsBad_no (by omega) HP.out)
      go_wp2
      go_ret
      exact ⟨-1, rfl, by rw [HE.out]; rfl, HB1.out⟩
set_option maxRecDepth 100000 in
set_option maxHeartbeats 1000000 in
theorem aheadHas_any (A : Option Addr) (c : Nat) (l : List Int) (B N : Nat) (w : World) (hl : (Kd.int .i64).C w A l.length l) (h : CapB B N w) :
    Calls Tryd.prog 93 #[.slice A l.length c, .func (.func 94) #[] #[.pointer (some ⟨B, 0, none⟩)]] w fun e w' => e = .returned (.bool (kidsBad N l)) ∧ Below w.heap.size w w' := by
  have HR := Aside0.mk hl
  have HC := Aside0.mk h
  clear hl h
  go_enter Tryd.func93, Tryd.ntmps93
  go_wp2_with fail
  refine (aheadIdx_any A c l B N _ HR.out HC.out).mono ?_
  rintro e w' ⟨i, rfl, hi, hB⟩
  have HI := Aside0.mk hi
  have HB := Aside0.mk hB
  clear hi hB
  go_wp2
  go_ret
  exact ⟨ret_bool HI.out, HB.out⟩
end Go.Proofs.YtglfebpgdghlfaaDoor.L
end
section
namespace Go.Proofs.YtglfebpgdghlfaaDoor.L
open Go.RowKit Go.ChangeShapes Go.WideShapes Go.Proofs.YtglfebpgdghlfaaDoorW.PrintWords Go.Proofs.YtglfebpgdghlfaaDoorW.PrintLast Go.Proofs.YtglfebpgdghlfaaDoorW.PrintMore
attribute [local go_sem] max2_int min2_int max_two min_two max_three min_three max_four min_four
theorem zeroI (w : World) : (zeroValue 3).run Tryd.prog w = .ok (.int .i64 0) w := by kernel_rfl
abbrev zeroN : Array Value := #[.int .i64 0, .slice none 0 0, .slice none 0 0, .slice none 0 0]
theorem OutRel.landed {P : Program} {k : TypeId} {n mb : Nat} {f : Lit → Option Value} {m : Node} {v1 v2 v3 : Value} {w : World} {rb g : Nat} {W W1 : World} (h : OutRel m v1 v2 v3 w rb g W) (hm : MapF P k W mb n f) (hlt : mb < w.heap.size) (hg : W.grownBy W1 (some mb)) :
    W1.heap[g]? = some (.cells #[.int .i64 m.kind, v1, v2, v3] 26 (0, 0)) ∧ W1.heap[rb]? = some (.cells #[.int .i64 0, .slice none 0 0, .slice none 0 0, .slice none 0 0] 26 (0, 0)) ∧
    ((((W1.setCell ⟨rb, 0, none⟩ (.int .i64 m.kind)).setCell ⟨rb, 1, none⟩ v1).setCell ⟨rb, 2, none⟩ v2).setCell ⟨rb, 3, none⟩ v3).heap[rb]? = some (.cells #[.int .i64 m.kind, v1, v2, v3] 26 (0, 0)) ∧
    kNode.M ((((W1.setCell ⟨rb, 0, none⟩ (.int .i64 m.kind)).setCell ⟨rb, 1, none⟩ v1).setCell ⟨rb, 2, none⟩ v2).setCell ⟨rb, 3, none⟩ v3) w.heap.size (fun _ => True) m [.int .i64 m.kind, v1, v2, v3] ∧
    w.grownBy ((((W1.setCell ⟨rb, 0, none⟩ (.int .i64 m.kind)).setCell ⟨rb, 1, none⟩ v1).setCell ⟨rb, 2, none⟩ v2).setCell ⟨rb, 3, none⟩ v3) (some mb) := by
  have hne : ∀ {q : Nat} {cs : Array Value} {T : TypeId}, W.heap[q]? = some (.cells cs T (0, 0)) → some q ≠ some mb := fun hq e => by
    injection e with e
    exact hm.not_cells (by rw [← e]; exact hq)
  have hb0 := blk_grown h.res hg (hne h.res)
  have hb1 := blk_set hb0 0 (.int .i64 m.kind)
  have hb2 := blk_set hb1 1 v1
  have hb3 := blk_set hb2 2 v2
  refine ⟨blk_grown h.box hg (hne h.box), hb0, box4 hb0 _ _ _ _, kNode_mkM ?_ ?_ ?_, ?_⟩
  · exact R_type (R_type (R_type (R_type (R_past_map h.r1 hm hg) hb0 (by decide) _ _) hb1 (by decide) _ _) hb2 (by decide) _ _) hb3 (by decide) _ _
  · exact R_type (R_type (R_type (R_type (R_past_map h.r2 hm hg) hb0 (by decide) _ _) hb1 (by decide) _ _) hb2 (by decide) _ _) hb3 (by decide) _ _
  · exact R_type (R_type (R_type (R_type (R_past_map h.r3 hm hg) hb0 (by decide) _ _) hb1 (by decide) _ _) hb2 (by decide) _ _) hb3 (by decide) _ _
  · refine ⟨hg.os.trans h.below.os, hg.tape.trans h.below.tape, hg.output.trans h.below.output, ?_, fun i hi hr => ?_⟩
    · have h1 := hg.size
      have h2 := h.below.size
      simpa using Nat.le_trans h2 h1
    · have hr1 : i ≠ rb := by have := h.rge; omega
      rw [Below.heap_setCell _ ⟨rb, 3, none⟩ v3 i hr1, Below.heap_setCell _ ⟨rb, 2, none⟩ v2 i hr1, Below.heap_setCell _ ⟨rb, 1, none⟩ v1 i hr1, Below.heap_setCell _ ⟨rb, 0, none⟩ (.int .i64 m.kind) i hr1, hg.block i (by have := h.below.size; omega) hr]
      exact h.below.block i hi
section
variable {a : Scene} {A : Option Addr} {c b mb cnt : Nat} {base : List Int} {v : Value} {out : List Node} {w : World}
set_option maxRecDepth 100000 in
set_option maxHeartbeats 4000000 in
theorem take_no (W : World) (h : BRel a A c b mb cnt (imgF base) v out w W) (p : Int) (hp0 : -9223372036854775808 ≤ p) (hp1 : p ≤ 9223372036854775807) (hno : takes a.nodes.length base p = false) :
    Calls Tryd.prog 112 #[.pointer (some ⟨b, 0, none⟩), .int .i64 p] W fun e W' => e = .returned (.tuple #[.agg #[.int .i64 0, .slice none 0 0, .slice none 0 0, .slice none 0 0], .bool false]) ∧ Below W.heap.size W W' := by
  have HB := Aside0.mk h
  have HA := Aside0.mk (below_alloc (Below.refl W.heap.size W) (.cells zeroN 26))
  have HM := Aside0.mk (h.map.below HA.out)
  have q0 : W.cell? ⟨b, 0, none⟩ = some (.slice A a.nodes.length c) := (blk_cell h.blk 0).trans rfl
  have q2 : W.cell? ⟨b, 2, none⟩ = some (.map (some mb)) := (blk_cell h.blk 2).trans rfl
  have hb := blk_lt h.blk
  have hub := Tryd.underlying89
  have hun := Tryd.underlying39
  have HK := Aside0.mk (keyI_of hp0 hp1)
  have HNo := Aside0.mk (of_decide_eq_false hno)
  clear h hno
  by_cases hin : 0 ≤ p ∧ p ∈ base
  · have HI := Aside0.mk (imgF_in hin.1 hin.2 (.int .i64 0))
    clear hin HNo
    go_enter Tryd.func112, Tryd.ntmps112
    go_wp2_with (at_lookup; refine wpList_lookup_F_ok _ rfl (.tmp 17) (.tmp 18) 87 rfl 3 3 keyI Tryd.underlying87 (zeroI _) mb cnt (imgF base) rfl HM.out (.int .i64 p) (.int .i64 p) rfl HK.out _ HI.out.1 true HI.out.2 ?_)
    exact bodyPost_ret (v := .tuple #[.agg #[.int .i64 0, .slice none 0 0, .slice none 0 0, .slice none 0 0], .bool false]) (by simp [results, Tryd.results112, go_sem]) rfl ⟨rfl, HA.out⟩
  · have HI := Aside0.mk (imgF_out hin (.int .i64 0))
    by_cases hp : p < 0
    · have d1 : decide (p < 0) = true := decide_eq_true hp
      clear hin HNo hp
      go_enter Tryd.func112, Tryd.ntmps112
      go_wp2_with (at_lookup; refine wpList_lookup_F_ok _ rfl (.tmp 17) (.tmp 18) 87 rfl 3 3 keyI Tryd.underlying87 (zeroI _) mb cnt (imgF base) rfl HM.out (.int .i64 p) (.int .i64 p) rfl HK.out _ HI.out.1 false HI.out.2 ?_)
      exact bodyPost_ret (v := .tuple #[.agg #[.int .i64 0, .slice none 0 0, .slice none 0 0, .slice none 0 0], .bool false]) (by simp [results, Tryd.results112, go_sem]) rfl ⟨rfl, HA.out⟩
    · have d1 : decide (p < 0) = false := decide_eq_false hp
      have d2 : decide ((a.nodes.length : Int) ≤ p) = true := decide_eq_true (Classical.byContradiction fun hh => HNo.out ⟨by omega, by omega, fun hm => hin ⟨by omega, hm⟩⟩)
      clear hin HNo hp
      go_enter Tryd.func112, Tryd.ntmps112
      go_wp2_with (at_lookup; refine wpList_lookup_F_ok _ rfl (.tmp 17) (.tmp 18) 87 rfl 3 3 keyI Tryd.underlying87 (zeroI _) mb cnt (imgF base) rfl HM.out (.int .i64 p) (.int .i64 p) rfl HK.out _ HI.out.1 false HI.out.2 ?_)
      exact bodyPost_ret (v := .tuple #[.agg #[.int .i64 0, .slice none 0 0, .slice none 0 0, .slice none 0 0], .bool false]) (by simp [results, Tryd.results112, go_sem]) rfl ⟨rfl, HA.out⟩
end
end Go.Proofs.YtglfebpgdghlfaaDoor.L
end
section
namespace Go.Proofs.YtglfebpgdghlfaaDoor.L
open Go.RowKit Go.ChangeShapes Go.WideShapes Go.Proofs.YtglfebpgdghlfaaDoorW.PrintWords Go.Proofs.YtglfebpgdghlfaaDoorW.PrintLast Go.Proofs.YtglfebpgdghlfaaDoorW.PrintMore
attribute [local go_sem] max2_int min2_int max_two min_two max_three min_three max_four min_four
def TakePost (a : Scene) (A : Option Addr) (c b mb cnt : Nat) (base : List Int) (v : Value) (out : List Node) (w : World) (i : Nat) (W : World) (e : Ending) (W' : World) : Prop :=
  ∃ v1 v2 v3, e = .returned (.tuple #[.agg #[.int .i64 (imgN base (nd a.nodes i)).kind, v1, v2, v3], .bool true]) ∧ kNode.M W' W.heap.size (fun _ => True) (imgN base (nd a.nodes i)) [.int .i64 (imgN base (nd a.nodes i)).kind, v1, v2, v3] ∧
    BRel a A c b mb (cnt + 1) (imgF (base ++ [(i : Int)])) v out w W' ∧ W.grownBy W' (some mb)
section
variable {a : Scene} {A : Option Addr} {c b mb cnt : Nat} {base : List Int} {v : Value} {out : List Node} {w : World}
set_option maxRecDepth 100000 in
set_option maxHeartbeats 8000000 in
theorem take_yes (W : World) (h : BRel a A c b mb cnt (imgF base) v out w W) (hlen : out.length = base.length) (hc : kNode.C w A a.nodes.length a.nodes) (hS : ∀ i : Nat, i < a.nodes.length → Small (nd a.nodes i)) (hP : Places a.nodes) (hn : a.nodes.length ≤ 1000000) (hcn : cnt ≤ 1000000) (i : Nat) (hi : i < a.nodes.length) (hni : ¬ (i : Int) ∈ base) :
    Calls Tryd.prog 112 #[.pointer (some ⟨b, 0, none⟩), .int .i64 (i : Int)] W (TakePost a A c b mb cnt base v out w i W) := by
  have HB := Aside0.mk h
  have hA0 := below_alloc (Below.refl W.heap.size W) (.cells zeroN 26)
  have HA := Aside0.mk hA0
  have HM := Aside0.mk (h.map.below hA0)
  have q0 : W.cell? ⟨b, 0, none⟩ = some (.slice A a.nodes.length c) := (blk_cell h.blk 0).trans rfl
  have q2 : W.cell? ⟨b, 2, none⟩ = some (.map (some mb)) := (blk_cell h.blk 2).trans rfl
  have hb := blk_lt h.blk
  have hub := Tryd.underlying89
  have hus := Tryd.underlying39
  have hun := Tryd.underlying26
  have HK := Aside0.mk (keyI_of (x := (i : Int)) (by omega) (by omega))
  have HI := Aside0.mk (imgF_out (base := base) (k := (i : Int)) (fun hh => hni hh.2) (.int .i64 0))
  have HNi := Aside0.mk hni
  have HPl := Aside0.mk (hP i hi)
  have HSm := Aside0.mk (hS i hi)
  have HLen := Aside0.mk hlen
  have HRes := Aside0.mk (show (W.alloc (.cells zeroN 26)).heap[W.heap.size]? = some (.cells zeroN 26 (0, 0)) from by simpa using heap_alloc_new W _)
  obtain ⟨adn, A1, c1, A2, c2, A3, c3, rfl, x0, x1, x2, x3, hN⟩ := at_node (Kd.C_below hc h.below) i hi
  have HN := Aside0.mk hN
  replace x0 := pw_cell_below hA0 x0
  replace x1 := pw_cell_below hA0 x1
  replace x2 := pw_cell_below hA0 x2
  replace x3 := pw_cell_below hA0 x3
  have d0 : decide ((i : Int) < 0) = false := decide_eq_false (by omega)
  have d1 : decide ((a.nodes.length : Int) ≤ (i : Int)) = false := decide_eq_false (by omega)
  have d1n : decide (a.nodes.length ≤ i) = false := decide_eq_false (by omega)
  clear h hc hS hP hni hN hA0 hlen
  go_enter Tryd.func112, Tryd.ntmps112
  go_wp2_with (at_lookup; refine wpList_lookup_F_ok _ rfl (.tmp 17) (.tmp 18) 87 rfl 3 3 keyI Tryd.underlying87 (zeroI _) mb cnt (imgF base) rfl HM.out (.int .i64 (i : Int)) (.int .i64 (i : Int)) rfl HK.out _ HI.out.1 false HI.out.2 ?_)
  refine (copy_any (nd a.nodes i) A1 c1 A2 c2 A3 c3 _ (HN.out.below HA.out) HSm.out).mono ?_
  rintro e w6 ⟨v', rfl, ⟨v1, v2, v3, rfl, hM6⟩, hB6⟩
  have HO := Aside0.mk (OutRel.start (w := W) (rb := W.heap.size) (below_step HA.out hB6) (Nat.le_refl _) ((hB6.block _ (blk_lt HRes.out)).trans HRes.out) HA.out.size hM6)
  clear hB6 hM6 HRes
  obtain ⟨A5, c5, hv1⟩ := Kd.R_slice HO.out.r1
  subst hv1
  obtain ⟨A6, c6, hv2⟩ := Kd.R_slice HO.out.r2
  subst hv2
  obtain ⟨A7, c7, hv3⟩ := Kd.R_slice HO.out.r3
  subst hv3
  go_wp2
  generalize w6.alloc (.cells #[.int .i64 (nd a.nodes i).kind, .slice A5 (nd a.nodes i).ints.length c5, .slice A6 (nd a.nodes i).texts.length c6, .slice A7 (nd a.nodes i).kids.length c7] 26) = W7 at HO ⊢
  generalize w6.heap.size = g at HO ⊢
  clear q0 q2 x0 x1 x2 x3
  go_loopw [50] (fun v50 W1 => ∃ j : Nat, j ≤ (nd a.nodes i).kids.length ∧ v50 = .int .i64 j ∧ Aside0 (OutRel ⟨(nd a.nodes i).kind, (nd a.nodes i).ints, (nd a.nodes i).texts, mapTake (img base) (nd a.nodes i).kids j⟩ (.slice A5 (nd a.nodes i).ints.length c5) (.slice A6 (nd a.nodes i).texts.length c6) (.slice A7 (nd a.nodes i).kids.length c7) W W.heap.size g W1)) (fun v50 _ => (nd a.nodes i).kids.length - (intOf v50).toNat)
  case atStart => exact ⟨0, by omega, rfl, ⟨by rw [mapTake_zero]; exact HO.out⟩⟩
  case round =>
    clear HO
    obtain ⟨j, hj, rfl, HJ⟩ := hrel
    have HB1 := Aside0.mk (HB.out.later HJ.out.below)
    have hkl : (nd a.nodes i).kids.length ≤ 1000000 := HSm.out.2.2
    have hbw := blk_lt HB1.out.blk
    have hgw := blk_lt HJ.out.box
    by_cases hjl : j < (nd a.nodes i).kids.length
    · obtain ⟨g7, c7', hv, -⟩ := Kd.R_form HJ.out.r3 (by show 0 < (mapTake _ _ _).length; rw [mapTake_len]; omega)
      injection hv with hA hx hcc
      clear hx
      subst hA hcc
      have HQ := Aside0.mk (HPl.out _ (rd_mem hjl))
      obtain ⟨k, hk⟩ : ∃ k : Nat, rd (nd a.nodes i).kids (j : Int) = (k : Int) := ⟨(rd (nd a.nodes i).kids (j : Int)).toNat, by have := HQ.out.1; omega⟩
      have hkn : k < a.nodes.length := by have := HQ.out.2; omega
      obtain ⟨s1, s2, hs3⟩ := HJ.out.setKid (f := j) (by show j < (mapTake _ _ _).length; rw [mapTake_len]; exact hjl) (img base (rd (nd a.nodes i).kids (j : Int)))
      have hs3 : OutRel ⟨(nd a.nodes i).kind, (nd a.nodes i).ints, (nd a.nodes i).texts, mapTake (img base) (nd a.nodes i).kids (j + 1)⟩ (.slice A5 (nd a.nodes i).ints.length c5) (.slice A6 (nd a.nodes i).texts.length c6) (.slice (some ⟨g7, 0, none⟩) (nd a.nodes i).kids.length c7) W W.heap.size g (wr.setCell ⟨g7, j, none⟩ (.int .i64 (img base (rd (nd a.nodes i).kids (j : Int))))) := by
        have h := hs3
        rw [show (mapTake (img base) (nd a.nodes i).kids j).set j (img base (rd (nd a.nodes i).kids (j : Int))) = mapTake (img base) (nd a.nodes i).kids (j + 1) from mapTake_set _ _ _ hjl] at h
        exact h
      rw [show rd (mapTake (img base) (nd a.nodes i).kids j) (j : Int) = rd (nd a.nodes i).kids (j : Int) from mapTake_rd _ _ _ hjl, hk] at s1
      rw [hk] at hs3
      have q3 : wr.cell? ⟨g, 3, none⟩ = some (.slice (some ⟨g7, 0, none⟩) (nd a.nodes i).kids.length c7) := (blk_cell HJ.out.box 3).trans rfl
      have q2 : wr.cell? ⟨b, 2, none⟩ = some (.map (some mb)) := (blk_cell HB1.out.blk 2).trans rfl
      have HKk := Aside0.mk (keyI_of (x := (k : Int)) (by omega) (by omega))
      clear hk
      by_cases hin : (k : Int) ∈ base
      · have HIk := Aside0.mk (imgF_in (base := base) (k := (k : Int)) (by omega) hin (.int .i64 0))
        have HS3 := Aside0.mk hs3
        clear hin hs3
        generalize img base (k : Int) = im at HIk HS3
        go_wp2_with (at_lookup; refine wpList_lookup_F_ok _ rfl (.tmp 59) (.tmp 60) 87 rfl 3 3 keyI Tryd.underlying87 (zeroI _) mb cnt (imgF base) rfl HB1.out.map (.int .i64 (k : Int)) (.int .i64 (k : Int)) rfl HKk.out _ HIk.out.1 true HIk.out.2 ?_)
        go_roundw
        case rel => exact ⟨j + 1, by omega, by go_num, HS3⟩
        case measure => simp [intOf]; omega
      · have HIk := Aside0.mk (imgF_out (base := base) (k := (k : Int)) (fun hh => hin hh.2) (.int .i64 0))
        rw [show img base (k : Int) = -1 from if_neg hin] at hs3
        have HS3 := Aside0.mk hs3
        clear hin hs3
        go_wp2_with (at_lookup; refine wpList_lookup_F_ok _ rfl (.tmp 59) (.tmp 60) 87 rfl 3 3 keyI Tryd.underlying87 (zeroI _) mb cnt (imgF base) rfl HB1.out.map (.int .i64 (k : Int)) (.int .i64 (k : Int)) rfl HKk.out _ HIk.out.1 false HIk.out.2 ?_)
        go_roundw
        case rel => exact ⟨j + 1, by omega, by go_num, HS3⟩
        case measure => simp [intOf]; omega
    · obtain rfl : j = (nd a.nodes i).kids.length := by omega
      obtain ⟨Av, cv, hv⟩ := Kd.R_slice HB1.out.rows
      subst hv
      have q2 : wr.cell? ⟨b, 2, none⟩ = some (.map (some mb)) := (blk_cell HB1.out.blk 2).trans rfl
      have q3 : wr.cell? ⟨b, 3, none⟩ = some (.slice Av out.length cv) := (blk_cell HB1.out.blk 3).trans rfl
      have HPut := Aside0.mk (imgF_put (base := base) (p := (i : Int)) (by omega) HNi.out)
      go_wp2
      go_still_tail 10, (by kernel_rfl)
      change wpList _ _ _ _ _ wr.drew
      have HJ2 := Aside0.mk (HJ.out.later (pw_below_drewN (Below.refl _ _) 1))
      have HM2 := Aside0.mk HB1.out.drew.map
      have hlt2 := MapF.lt HB.out.map
      go_wp2_with (at_mapUpdate; refine wpList_update_F _ rfl (.tmp 75) (.tmp 76) (.tmp 81) 87 rfl 3 3 keyI Tryd.underlying87 mb cnt (imgF base) rfl HM2.out (by unfold maxLen; omega) (.int .i64 (i : Int)) (.int .i64 (out.length : Int)) (.int .i64 (i : Int)) rfl rfl HK.out ?_; intro w2 hM2 hg2; have HMx := Aside0.mk hM2; have HL := Aside0.mk (HJ2.out.landed HM2.out hlt2 hg2); clear hM2 hg2; have y0 : w2.cell? ⟨g, 0, none⟩ = some (.int .i64 (nd a.nodes i).kind) := (blk_cell HL.out.1 0).trans rfl; have y1 : w2.cell? ⟨g, 1, none⟩ = some (.slice A5 (nd a.nodes i).ints.length c5) := (blk_cell HL.out.1 1).trans rfl; have y2 : w2.cell? ⟨g, 2, none⟩ = some (.slice A6 (nd a.nodes i).texts.length c6) := (blk_cell HL.out.1 2).trans rfl; have y3 : w2.cell? ⟨g, 3, none⟩ = some (.slice A7 (nd a.nodes i).kids.length c7) := (blk_cell HL.out.1 3).trans rfl; have e0 : w2.cell? ⟨W.heap.size, 0, none⟩ = some (.int .i64 0) := (blk_cell HL.out.2.1 0).trans rfl; have e0f := blk_frozen HL.out.2.1 0; have e1 : (w2.setCell ⟨W.heap.size, 0, none⟩ (.int .i64 (nd a.nodes i).kind)).cell? ⟨W.heap.size, 1, none⟩ = some (.slice none 0 0) := (blk_cell (blk_set HL.out.2.1 0 (.int .i64 (nd a.nodes i).kind)) 1).trans rfl; have e1f := blk_frozen (blk_set HL.out.2.1 0 (.int .i64 (nd a.nodes i).kind)) 1; have e2 : ((w2.setCell ⟨W.heap.size, 0, none⟩ (.int .i64 (nd a.nodes i).kind)).setCell ⟨W.heap.size, 1, none⟩ (.slice A5 (nd a.nodes i).ints.length c5)).cell? ⟨W.heap.size, 2, none⟩ = some (.slice none 0 0) := (blk_cell (blk_set (blk_set HL.out.2.1 0 (.int .i64 (nd a.nodes i).kind)) 1 (.slice A5 (nd a.nodes i).ints.length c5)) 2).trans rfl; have e2f := blk_frozen (blk_set (blk_set HL.out.2.1 0 (.int .i64 (nd a.nodes i).kind)) 1 (.slice A5 (nd a.nodes i).ints.length c5)) 2; have e3 : (((w2.setCell ⟨W.heap.size, 0, none⟩ (.int .i64 (nd a.nodes i).kind)).setCell ⟨W.heap.size, 1, none⟩ (.slice A5 (nd a.nodes i).ints.length c5)).setCell ⟨W.heap.size, 2, none⟩ (.slice A6 (nd a.nodes i).texts.length c6)).cell? ⟨W.heap.size, 3, none⟩ = some (.slice none 0 0) := (blk_cell (blk_set (blk_set (blk_set HL.out.2.1 0 (.int .i64 (nd a.nodes i).kind)) 1 (.slice A5 (nd a.nodes i).ints.length c5)) 2 (.slice A6 (nd a.nodes i).texts.length c6)) 3).trans rfl; have e3f := blk_frozen (blk_set (blk_set (blk_set HL.out.2.1 0 (.int .i64 (nd a.nodes i).kind)) 1 (.slice A5 (nd a.nodes i).ints.length c5)) 2 (.slice A6 (nd a.nodes i).texts.length c6)) 3)
      have h4 := res4 HL.out.2.2.1
      refine bodyPost_ret (v := .tuple #[.agg #[.int .i64 (nd a.nodes i).kind, .slice A5 (nd a.nodes i).ints.length c5, .slice A6 (nd a.nodes i).texts.length c6, .slice A7 (nd a.nodes i).kids.length c7], .bool true]) (by simp [results, Tryd.results112, go_sem, h4]) rfl
        ⟨_, _, _, rfl, ?_, HB.out.grow HL.out.2.2.2.2 ?_, HL.out.2.2.2.2⟩
      · have h := HL.out.2.2.2.1
        rw [mapTake_all] at h
        exact h
      · have h := HMx.out
        rw [HLen.out, HPut.out] at h
        have hne : mb ≠ W.heap.size := by omega
        exact (((h.setCell (a := ⟨W.heap.size, 0, none⟩) hne _).setCell (a := ⟨W.heap.size, 1, none⟩) hne _).setCell (a := ⟨W.heap.size, 2, none⟩) hne _).setCell (a := ⟨W.heap.size, 3, none⟩) hne _
end
end Go.Proofs.YtglfebpgdghlfaaDoor.L
end
section
namespace Go.Proofs.YtglfebpgdghlfaaDoor.L
open Go.RowKit Go.ChangeShapes Go.WideShapes Go.Proofs.YtglfebpgdghlfaaDoorW.PrintWords Go.Proofs.YtglfebpgdghlfaaDoorW.PrintLast Go.Proofs.YtglfebpgdghlfaaDoorW.PrintMore
attribute [local go_sem] max2_int min2_int max_two min_two max_three min_three max_four min_four
theorem grown_of_below {W W1 W2 : World} {row : Option Nat} (h : Below W.heap.size W W1) (hg : W1.grownBy W2 row) : W.grownBy W2 row :=
  ⟨hg.os.trans h.os, hg.tape.trans h.tape, hg.output.trans h.output, Nat.le_trans h.size hg.size, fun i hi hr => (hg.block i (Nat.lt_of_lt_of_le hi h.size) hr).trans (h.block i hi)⟩
theorem grown_then {W W1 W2 : World} {row : Option Nat} (hg : W.grownBy W1 row) (h : Below W1.heap.size W1 W2) : W.grownBy W2 row :=
  ⟨h.os.trans hg.os, h.tape.trans hg.tape, h.output.trans hg.output, Nat.le_trans hg.size h.size, fun i hi hr => (h.block i (Nat.lt_of_lt_of_le hi hg.size)).trans (hg.block i hi hr)⟩
theorem grown_set {W W1 : World} {row : Option Nat} (hg : W.grownBy W1 row) {rb i : Nat} (h : W.heap.size ≤ rb) (u : Value) : W.grownBy (W1.setCell ⟨rb, i, none⟩ u) row :=
  ⟨hg.os, hg.tape, hg.output, by have := hg.size; simpa using this, fun k hk hr => (Below.heap_setCell W1 ⟨rb, i, none⟩ u k (by show k ≠ rb; omega)).trans (hg.block k hk hr)⟩
theorem grown_set4 {W W1 : World} {row : Option Nat} (hg : W.grownBy W1 row) {rb i0 i1 i2 i3 : Nat} (h : W.heap.size ≤ rb) (u0 u1 u2 u3 : Value) : W.grownBy ((((W1.setCell ⟨rb, i0, none⟩ u0).setCell ⟨rb, i1, none⟩ u1).setCell ⟨rb, i2, none⟩ u2).setCell ⟨rb, i3, none⟩ u3) row :=
  grown_set (grown_set (grown_set (grown_set hg h u0) h u1) h u2) h u3
theorem grown_alloc {W W1 : World} {row : Option Nat} (hg : W.grownBy W1 row) (o : Obj) : W.grownBy (W1.alloc o) row := grown_then hg (below_alloc (Below.refl _ _) o)
theorem MapF.set4 {P : Program} {k : TypeId} {W : World} {mb n rb i0 i1 i2 i3 : Nat} {f : Lit → Option Value} (h : MapF P k W mb n f) (hne : mb ≠ rb) (u0 u1 u2 u3 : Value) : MapF P k ((((W.setCell ⟨rb, i0, none⟩ u0).setCell ⟨rb, i1, none⟩ u1).setCell ⟨rb, i2, none⟩ u2).setCell ⟨rb, i3, none⟩ u3) mb n f :=
  (((h.setCell (a := ⟨rb, i0, none⟩) hne _).setCell (a := ⟨rb, i1, none⟩) hne _).setCell (a := ⟨rb, i2, none⟩) hne _).setCell (a := ⟨rb, i3, none⟩) hne _
theorem node_landed {W : World} {rb B : Nat} {m : Node} {v1 v2 v3 : Value} (hM : kNode.M W B (fun _ => True) m [.int .i64 m.kind, v1, v2, v3]) (hb0 : W.heap[rb]? = some (.cells zeroN 26 (0, 0))) :
    ((((W.setCell ⟨rb, 0, none⟩ (.int .i64 m.kind)).setCell ⟨rb, 1, none⟩ v1).setCell ⟨rb, 2, none⟩ v2).setCell ⟨rb, 3, none⟩ v3).heap[rb]? = some (.cells #[.int .i64 m.kind, v1, v2, v3] 26 (0, 0)) ∧
    kNode.M ((((W.setCell ⟨rb, 0, none⟩ (.int .i64 m.kind)).setCell ⟨rb, 1, none⟩ v1).setCell ⟨rb, 2, none⟩ v2).setCell ⟨rb, 3, none⟩ v3) B (fun _ => True) m [.int .i64 m.kind, v1, v2, v3] := by
  obtain ⟨x1, x2, x3, e, h1, h2, h3⟩ := kNode_openM hM
  injection e with _ e
  injection e with e1 e
  injection e with e2 e
  injection e with e3 _
  subst e1 e2 e3
  have hb1 := blk_set hb0 0 (.int .i64 m.kind)
  have hb2 := blk_set hb1 1 v1
  have hb3 := blk_set hb2 2 v2
  refine ⟨box4 hb0 _ _ _ _, kNode_mkM ?_ ?_ ?_⟩
  · exact R_type (R_type (R_type (R_type h1 hb0 (by decide) _ _) hb1 (by decide) _ _) hb2 (by decide) _ _) hb3 (by decide) _ _
  · exact R_type (R_type (R_type (R_type h2 hb0 (by decide) _ _) hb1 (by decide) _ _) hb2 (by decide) _ _) hb3 (by decide) _ _
  · exact R_type (R_type (R_type (R_type h3 hb0 (by decide) _ _) hb1 (by decide) _ _) hb2 (by decide) _ _) hb3 (by decide) _ _
theorem M_lower {W : World} {B B' : Nat} {m : Node} {cs : List Value} (h : kNode.M W B (fun _ => True) m cs) (hB : B' ≤ B) : kNode.M W B' (fun _ => True) m cs := by
  obtain ⟨x1, x2, x3, rfl, h1, h2, h3⟩ := kNode_openM h
  exact kNode_mkM (Kd.R_lower h1 hB) (Kd.R_lower h2 hB) (Kd.R_lower h3 hB)
theorem M_below {W W1 : World} {B : Nat} {m : Node} {cs : List Value} (h : kNode.M W B (fun _ => True) m cs) (hb : Below W.heap.size W W1) : kNode.M W1 B (fun _ => True) m cs := by
  obtain ⟨x1, x2, x3, rfl, h1, h2, h3⟩ := kNode_openM h
  exact kNode_mkM (Kd.R_below h1 hb) (Kd.R_below h2 hb) (Kd.R_below h3 hb)
theorem slots4 {W : World} {rb : Nat} {y0 y1 y2 y3 : Value} {T : TypeId} (h : W.heap[rb]? = some (.cells #[y0, y1, y2, y3] T (0, 0))) (u0 u1 u2 : Value) :
    W.cell? ⟨rb, 0, none⟩ = some y0 ∧ W.frozen? ⟨rb, 0, none⟩ = false ∧ (W.setCell ⟨rb, 0, none⟩ u0).cell? ⟨rb, 1, none⟩ = some y1 ∧ (W.setCell ⟨rb, 0, none⟩ u0).frozen? ⟨rb, 1, none⟩ = false ∧
    ((W.setCell ⟨rb, 0, none⟩ u0).setCell ⟨rb, 1, none⟩ u1).cell? ⟨rb, 2, none⟩ = some y2 ∧ ((W.setCell ⟨rb, 0, none⟩ u0).setCell ⟨rb, 1, none⟩ u1).frozen? ⟨rb, 2, none⟩ = false ∧
    (((W.setCell ⟨rb, 0, none⟩ u0).setCell ⟨rb, 1, none⟩ u1).setCell ⟨rb, 2, none⟩ u2).cell? ⟨rb, 3, none⟩ = some y3 ∧ (((W.setCell ⟨rb, 0, none⟩ u0).setCell ⟨rb, 1, none⟩ u1).setCell ⟨rb, 2, none⟩ u2).frozen? ⟨rb, 3, none⟩ = false :=
  ⟨(blk_cell h 0).trans rfl, blk_frozen h 0, (blk_cell (blk_set h 0 u0) 1).trans rfl, blk_frozen (blk_set h 0 u0) 1, (blk_cell (blk_set (blk_set h 0 u0) 1 u1) 2).trans rfl, blk_frozen (blk_set (blk_set h 0 u0) 1 u1) 2, (blk_cell (blk_set (blk_set (blk_set h 0 u0) 1 u1) 2 u2) 3).trans rfl, blk_frozen (blk_set (blk_set (blk_set h 0 u0) 1 u1) 2 u2) 3⟩
theorem M_slices {W : World} {B : Nat} {m : Node} {v1 v2 v3 : Value} (h : kNode.M W B (fun _ => True) m [.int .i64 m.kind, v1, v2, v3]) : ∃ A1 c1 A2 c2 A3 c3, v1 = .slice A1 m.ints.length c1 ∧ v2 = .slice A2 m.texts.length c2 ∧ v3 = .slice A3 m.kids.length c3 := by
  obtain ⟨x1, x2, x3, e, h1, h2, h3⟩ := kNode_openM h
  injection e with _ e
  injection e with e1 e
  injection e with e2 e
  injection e with e3 _
  subst e1 e2 e3
  obtain ⟨A1, c1, r1⟩ := Kd.R_slice h1
  obtain ⟨A2, c2, r2⟩ := Kd.R_slice h2
  obtain ⟨A3, c3, r3⟩ := Kd.R_slice h3
  exact ⟨A1, c1, A2, c2, A3, c3, r1, r2, r3⟩
def OnePost (a : Scene) (A : Option Addr) (c b mb cnt : Nat) (base : List Int) (v : Value) (out : List Node) (w : World) (o : Opn) (r : Node × Int) (W : World) (e : Ending) (W' : World) : Prop :=
  ∃ v1 v2 v3, e = .returned (.tuple #[.agg #[.int .i64 r.1.kind, v1, v2, v3], .int .i64 r.2]) ∧ kNode.M W' W.heap.size (fun _ => True) r.1 [.int .i64 r.1.kind, v1, v2, v3] ∧
    (r.2 = 0 → ∃ cnt', cnt' ≤ cnt + 1 ∧ BRel a A c b mb cnt' (imgF (base ++ [baseOf o])) v out w W') ∧ W.grownBy W' (some mb)
section
variable {a : Scene} {A : Option Addr} {c b mb cnt : Nat} {base : List Int} {v : Value} {out : List Node} {w : World}
theorem OnePost.bad {o : Opn} {r : Node × Int} {W W' : World} (hr : r = (nodez, 21)) (hg : W.grownBy W' (some mb)) : OnePost a A c b mb cnt base v out w o r W (.returned (.tuple #[.agg #[.int .i64 0, .slice none 0 0, .slice none 0 0, .slice none 0 0], .int .i64 21])) W' := by
  subst hr
  exact ⟨_, _, _, rfl, nodez_M _ _, (fun h => absurd h (show ¬ (21 : Int) = 0 by decide)), hg⟩
theorem below_grown {W W1 : World} {row : Option Nat} (h : Below W.heap.size W W1) : W.grownBy W1 row := ⟨h.os, h.tape, h.output, h.size, fun i hi _ => h.block i hi⟩
set_option maxRecDepth 100000 in
set_option maxHeartbeats 4000000 in
theorem fresh_any (W : World) (h : BRel a A c b mb cnt (imgF base) v out w W) (o : Opn) (B1 : Option Addr) (d1 : Nat) (B2 : Option Addr) (d2 : Nat) (A1 : Option Addr) (c1 : Nat) (A2 : Option Addr) (c2 : Nat) (A3 : Option Addr) (c3 : Nat) (hO : OpnC W o B1 d1 B2 d2 A1 c1 A2 c2 A3 c3) (hs : Small o.node) (hk3 : o.kind = 3) :
    Calls Tryd.prog 92 #[.pointer (some ⟨b, 0, none⟩), .agg (opV o B1 d1 B2 d2 A1 c1 A2 c2 A3 c3)] W (OnePost a A c b mb cnt base v out w o (freshN o) W) := by
  have HB := Aside0.mk h
  have HO := Aside0.mk hO
  have HSm := Aside0.mk hs
  have hA0 := below_alloc (below_alloc (Below.refl W.heap.size W) (.cells (opV o B1 d1 B2 d2 A1 c1 A2 c2 A3 c3) 61)) (.cells zeroN 26)
  have HA := Aside0.mk hA0
  have huo := Tryd.underlying61
  have hun := Tryd.underlying26
  clear h hO hs hA0
  have HRes := Aside0.mk (show ((W.alloc (.cells (opV o B1 d1 B2 d2 A1 c1 A2 c2 A3 c3) 61)).alloc (.cells zeroN 26)).heap[W.heap.size + 1]? = some (.cells zeroN 26 (0, 0)) from by
    have := heap_alloc_new (W.alloc (.cells (opV o B1 d1 B2 d2 A1 c1 A2 c2 A3 c3) 61)) (.cells zeroN 26)
    simpa using this)
  by_cases h1 : o.base = 0
  · by_cases h2 : o.sets.length = 0
    · by_cases h3 : o.script.length = 0
      · have HE := Aside0.mk (show freshN o = (o.node, 0) from if_pos ⟨h1, h2, h3⟩)
        have HBase : Aside0 (baseOf o = -2) := ⟨if_pos hk3⟩
        have g1 : (o.base != 0) = false := by simpa using h1
        have g2 : decide (0 < o.sets.length) = false := decide_eq_false (by omega)
        have g3 : decide (0 < o.script.length) = false := decide_eq_false (by omega)
        clear h1 h2 h3
        go_enter Tryd.func92, Tryd.ntmps92
        go_wp2_with fail
        refine (copy_any o.node A1 c1 A2 c2 A3 c3 _ (HO.out.n.below HA.out) HSm.out).mono ?_
        rintro e w6 ⟨v', rfl, ⟨v1, v2, v3, rfl, hM6⟩, hB6⟩
        obtain ⟨A5, c5, A6, c6, A7, c7, rfl, rfl, rfl⟩ := M_slices hM6
        have HM6 := Aside0.mk (M_lower hM6 HA.out.size)
        have HRes6 := Aside0.mk ((hB6.block _ (blk_lt HRes.out)).trans HRes.out)
        have HB6 := Aside0.mk (below_step HA.out hB6)
        obtain ⟨e0, e0f, e1, e1f, e2, e2f, e3, e3f⟩ := slots4 HRes6.out (.int .i64 o.node.kind) (.slice A5 o.node.ints.length c5) (.slice A6 o.node.texts.length c6)
        have HL := Aside0.mk (node_landed HM6.out HRes6.out)
        clear hM6 hB6
        go_wp2
        have h4 := res4 HL.out.1
        have hB := below_set4 (i0 := 0) (i1 := 1) (i2 := 2) (i3 := 3) (u0 := .int .i64 o.node.kind) (u1 := .slice A5 o.node.ints.length c5) (u2 := .slice A6 o.node.texts.length c6) (u3 := .slice A7 o.node.kids.length c7) HB6.out (Nat.le_succ W.heap.size)
        refine bodyPost_ret (v := .tuple #[.agg #[.int .i64 o.node.kind, .slice A5 o.node.ints.length c5, .slice A6 o.node.texts.length c6, .slice A7 o.node.kids.length c7], .int .i64 0]) (by simp [results, Tryd.results92, go_sem, h4]) rfl
          ⟨_, _, _, by rw [HE.out], by rw [HE.out]; exact HL.out.2, fun _ => ⟨cnt, Nat.le_succ _, ?_⟩, below_grown hB⟩
        rw [HBase.out, imgF_fresh]
        exact HB.out.later hB
      · have HE := Aside0.mk (show freshN o = (nodez, 21) from if_neg (fun hh => h3 hh.2.2))
        have g1 : (o.base != 0) = false := by simpa using h1
        have g2 : decide (0 < o.sets.length) = false := decide_eq_false (by omega)
        have g3 : decide (0 < o.script.length) = true := decide_eq_true (by omega)
        clear h1 h2 h3
        go_enter Tryd.func92, Tryd.ntmps92
        go_wp2
        exact bodyPost_ret (v := .tuple #[.agg #[.int .i64 0, .slice none 0 0, .slice none 0 0, .slice none 0 0], .int .i64 21]) (by simp [results, Tryd.results92, go_sem]) rfl (OnePost.bad HE.out (below_grown HA.out))
    · have HE := Aside0.mk (show freshN o = (nodez, 21) from if_neg (fun hh => h2 hh.2.1))
      have g1 : (o.base != 0) = false := by simpa using h1
      have g2 : decide (0 < o.sets.length) = true := decide_eq_true (by omega)
      clear h1 h2
      go_enter Tryd.func92, Tryd.ntmps92
      go_wp2
      exact bodyPost_ret (v := .tuple #[.agg #[.int .i64 0, .slice none 0 0, .slice none 0 0, .slice none 0 0], .int .i64 21]) (by simp [results, Tryd.results92, go_sem]) rfl (OnePost.bad HE.out (below_grown HA.out))
  · have HE := Aside0.mk (show freshN o = (nodez, 21) from if_neg (fun hh => h1 hh.1))
    have g1 : (o.base != 0) = true := by simpa using h1
    clear h1
    go_enter Tryd.func92, Tryd.ntmps92
    go_wp2
    exact bodyPost_ret (v := .tuple #[.agg #[.int .i64 0, .slice none 0 0, .slice none 0 0, .slice none 0 0], .int .i64 21]) (by simp [results, Tryd.results92, go_sem]) rfl (OnePost.bad HE.out (below_grown HA.out))
end
end Go.Proofs.YtglfebpgdghlfaaDoor.L
end
section
namespace Go.Proofs.YtglfebpgdghlfaaDoor.L
open Go.RowKit Go.ChangeShapes Go.WideShapes Go.Proofs.YtglfebpgdghlfaaDoorW.PrintWords Go.Proofs.YtglfebpgdghlfaaDoorW.PrintLast Go.Proofs.YtglfebpgdghlfaaDoorW.PrintMore
attribute [local go_sem] max2_int min2_int max_two min_two max_three min_three max_four min_four
section
variable {a : Scene} {A : Option Addr} {c b mb cnt : Nat} {base : List Int} {v : Value} {out : List Node} {w : World}
set_option maxRecDepth 100000 in
set_option maxHeartbeats 8000000 in
theorem keep_any (W : World) (h : BRel a A c b mb cnt (imgF base) v out w W) (hlen : out.length = base.length) (hc : kNode.C w A a.nodes.length a.nodes) (hS : ∀ i : Nat, i < a.nodes.length → Small (nd a.nodes i)) (hP : Places a.nodes) (hn : a.nodes.length ≤ 1000000) (hcn : cnt ≤ 1000000)
    (o : Opn) (B1 : Option Addr) (d1 : Nat) (B2 : Option Addr) (d2 : Nat) (A1 : Option Addr) (c1 : Nat) (A2 : Option Addr) (c2 : Nat) (A3 : Option Addr) (c3 : Nat) (hO : OpnC W o B1 d1 B2 d2 A1 c1 A2 c2 A3 c3) (hb0 : -9223372036854775808 ≤ o.base) (hb1 : o.base ≤ 9223372036854775807) (hk3 : ¬ o.kind = 3) :
    Calls Tryd.prog 90 #[.pointer (some ⟨b, 0, none⟩), .agg (opV o B1 d1 B2 d2 A1 c1 A2 c2 A3 c3)] W (OnePost a A c b mb cnt base v out w o (keepN a.nodes base o) W) := by
  have HB := Aside0.mk h
  have HO := Aside0.mk hO
  have HC := Aside0.mk hc
  have HSm := Aside0.mk hS
  have HPl := Aside0.mk hP
  have HLen := Aside0.mk hlen
  have hA0 := below_alloc (below_alloc (Below.refl W.heap.size W) (.cells (opV o B1 d1 B2 d2 A1 c1 A2 c2 A3 c3) 61)) (.cells zeroN 26)
  have HA := Aside0.mk hA0
  have huo := Tryd.underlying61
  have hun := Tryd.underlying26
  have hA1 := below_alloc (Below.refl W.heap.size W) (.cells (opV o B1 d1 B2 d2 A1 c1 A2 c2 A3 c3) 61)
  have HRes := Aside0.mk (show ((W.alloc (.cells (opV o B1 d1 B2 d2 A1 c1 A2 c2 A3 c3) 61)).alloc (.cells zeroN 26)).heap[W.heap.size + 1]? = some (.cells zeroN 26 (0, 0)) from by
    have := heap_alloc_new (W.alloc (.cells (opV o B1 d1 B2 d2 A1 c1 A2 c2 A3 c3) 61)) (.cells zeroN 26)
    simpa using this)
  have k1 : ((W.alloc (.cells (opV o B1 d1 B2 d2 A1 c1 A2 c2 A3 c3) 61)).alloc (.cells zeroN 26)).cell? ⟨W.heap.size, 1, none⟩ = some (.int .i64 o.base) := box_cell2 W _ rfl _ _ _ 1 _ rfl
  have HBase : Aside0 (baseOf o = o.base) := ⟨if_neg hk3⟩
  have hrb : W.heap.size + 1 < ((W.alloc (.cells (opV o B1 d1 B2 d2 A1 c1 A2 c2 A3 c3) 61)).alloc (.cells zeroN 26)).heap.size := blk_lt HRes.out
  have HK1 := Aside0.mk k1
  have HRb := Aside0.mk hrb
  clear h hO hA0 hA1 hc hS hP hlen hrb k1
  by_cases h2 : o.sets.length = 0
  · by_cases h3 : o.script.length = 0
    · have g2 : decide (0 < o.sets.length) = false := decide_eq_false (by omega)
      have g3 : decide (0 < o.script.length) = false := decide_eq_false (by omega)
      have HH := Aside0.mk (And.intro h2 h3)
      clear h2 h3
      go_enter Tryd.func90, Tryd.ntmps90
      go_wp2_with fail
      refine (empty_any o.node A1 c1 A2 c2 A3 c3 _).mono ?_
      rintro e w5 ⟨rfl, hB5⟩
      have HRes5 := Aside0.mk ((hB5.block _ (blk_lt HRes.out)).trans HRes.out)
      have k1 := pw_cell_below hB5 HK1.out
      have hrb5 : W.heap.size + 1 < w5.heap.size := blk_lt HRes5.out
      have HB5 := Aside0.mk (below_step HA.out hB5)
      clear hB5 HRes HA HK1 HRb
      by_cases hem : emptyN o.node = true
      · rw [hem]
        by_cases htk : takes a.nodes.length base o.base = true
        · have HE := Aside0.mk (show keepN a.nodes base o = (imgN base (nd a.nodes o.base.toNat), 0) from if_pos ⟨HH.out.1, HH.out.2, hem, htk⟩)
          obtain ⟨ht0, ht1, htn⟩ := of_decide_eq_true htk
          obtain ⟨i, hi⟩ := Int.eq_ofNat_of_zero_le ht0
          rw [hi] at HE HBase k1 ht1 htn
          rw [Int.toNat_natCast] at HE
          have HTn := Aside0.mk htn
          clear hem htk ht0 hi htn hb0 hb1
          go_wp2_with fail
          refine (take_yes w5 (HB.out.later HB5.out) HLen.out HC.out HSm.out HPl.out hn hcn i (by omega) HTn.out).mono ?_
          rintro e w6 ⟨v1, v2, v3, rfl, hM6, hR6, hg6⟩
          generalize imgN base (nd a.nodes i) = m at HE hM6 ⊢
          obtain ⟨A5, c5, A6, c6, A7, c7, rfl, rfl, rfl⟩ := M_slices hM6
          have hM6' := M_lower hM6 HB5.out.size
          have hres6 : w6.heap[W.heap.size + 1]? = some (.cells zeroN 26 (0, 0)) := (hg6.block _ hrb5 (fun e => by injection e with e; exact (HB.out.later HB5.out).map.not_cells (by rw [← e]; exact HRes5.out))).trans HRes5.out
          have HL := Aside0.mk (node_landed hM6' hres6)
          have hrb6 : W.heap.size + 1 < w6.heap.size := blk_lt hres6
          obtain ⟨e0, e0f, e1, e1f, e2, e2f, e3, e3f⟩ := slots4 hres6 (.int .i64 m.kind) (.slice A5 m.ints.length c5) (.slice A6 m.texts.length c6)
          have HG := Aside0.mk (grown_of_below HB5.out hg6)
          have HM := Aside0.mk hR6.map
          have hmb : mb ≠ W.heap.size + 1 := by have := MapF.lt HB.out.map; omega
          clear hM6 hM6' hres6 hR6 hg6 k1
          go_wp2
          have h4 := res4a HL.out.1 (.cells #[.int .i64 m.kind, .slice A5 m.ints.length c5, .slice A6 m.texts.length c6, .slice A7 m.kids.length c7] 26)
          have hG := grown_alloc (grown_set4 (i0 := 0) (i1 := 1) (i2 := 2) (i3 := 3) HG.out (Nat.le_succ W.heap.size) (.int .i64 m.kind) (.slice A5 m.ints.length c5) (.slice A6 m.texts.length c6) (.slice A7 m.kids.length c7)) (.cells #[.int .i64 m.kind, .slice A5 m.ints.length c5, .slice A6 m.texts.length c6, .slice A7 m.kids.length c7] 26)
          refine bodyPost_ret (v := .tuple #[.agg #[.int .i64 m.kind, .slice A5 m.ints.length c5, .slice A6 m.texts.length c6, .slice A7 m.kids.length c7], .int .i64 0]) (by simp [results, Tryd.results90, go_sem, h4]) rfl
            ⟨_, _, _, by rw [HE.out], by rw [HE.out]; exact M_below HL.out.2 (below_alloc (Below.refl _ _) _), fun _ => ⟨cnt + 1, Nat.le_refl _, ?_⟩, hG⟩
          rw [HBase.out]
          exact HB.out.grow hG ((MapF.set4 HM.out hmb _ _ _ _).below (below_alloc (Below.refl _ _) _))
        · have HE := Aside0.mk (show keepN a.nodes base o = (nodez, 21) from if_neg (fun hh => htk hh.2.2.2))
          have HTk := Aside0.mk (Bool.eq_false_iff.2 htk)
          clear hem htk
          go_wp2_with fail
          refine (take_no w5 (HB.out.later HB5.out) o.base hb0 hb1 HTk.out).mono ?_
          rintro e w6 ⟨rfl, hB6⟩
          have hres6 := (hB6.block _ hrb5).trans HRes5.out
          have HZ := Aside0.mk (box4 hres6 (.int .i64 0) (.slice none 0 0) (.slice none 0 0) (.slice none 0 0))
          have HB6 := Aside0.mk (below_alloc (below_set4 (i0 := 0) (i1 := 1) (i2 := 2) (i3 := 3) (u0 := .int .i64 0) (u1 := .slice none 0 0) (u2 := .slice none 0 0) (u3 := .slice none 0 0) (below_step HB5.out hB6) (Nat.le_succ W.heap.size)) (.cells zeroN 26))
          have hrb6 : W.heap.size + 1 < w6.heap.size := blk_lt hres6
          obtain ⟨e0, e0f, e1, e1f, e2, e2f, e3, e3f⟩ := slots4 hres6 (.int .i64 0) (.slice none 0 0) (.slice none 0 0)
          clear hres6 hB6 k1
          go_wp2
          have h4 := res4a HZ.out (.cells zeroN 26)
          exact bodyPost_ret (v := .tuple #[.agg #[.int .i64 0, .slice none 0 0, .slice none 0 0, .slice none 0 0], .int .i64 21]) (by simp [results, Tryd.results90, go_sem, h4]) rfl (OnePost.bad HE.out (below_grown HB6.out))
      · have HE := Aside0.mk (show keepN a.nodes base o = (nodez, 21) from if_neg (fun hh => hem hh.2.2.1))
        rw [Bool.eq_false_iff.2 hem]
        have HZ := Aside0.mk (box4 HRes5.out (.int .i64 0) (.slice none 0 0) (.slice none 0 0) (.slice none 0 0))
        have HB6 := Aside0.mk (below_set4 (i0 := 0) (i1 := 1) (i2 := 2) (i3 := 3) (u0 := .int .i64 0) (u1 := .slice none 0 0) (u2 := .slice none 0 0) (u3 := .slice none 0 0) HB5.out (Nat.le_succ W.heap.size))
        obtain ⟨e0, e0f, e1, e1f, e2, e2f, e3, e3f⟩ := slots4 HRes5.out (.int .i64 0) (.slice none 0 0) (.slice none 0 0)
        clear hem k1
        go_wp2
        have h4 := res4 HZ.out
        exact bodyPost_ret (v := .tuple #[.agg #[.int .i64 0, .slice none 0 0, .slice none 0 0, .slice none 0 0], .int .i64 21]) (by simp [results, Tryd.results90, go_sem, h4]) rfl (OnePost.bad HE.out (below_grown HB6.out))
    · have HE := Aside0.mk (show keepN a.nodes base o = (nodez, 21) from if_neg (fun hh => h3 hh.2.1))
      have g2 : decide (0 < o.sets.length) = false := decide_eq_false (by omega)
      have g3 : decide (0 < o.script.length) = true := decide_eq_true (by omega)
      clear h2 h3
      go_enter Tryd.func90, Tryd.ntmps90
      go_wp2
      exact bodyPost_ret (v := .tuple #[.agg #[.int .i64 0, .slice none 0 0, .slice none 0 0, .slice none 0 0], .int .i64 21]) (by simp [results, Tryd.results90, go_sem]) rfl (OnePost.bad HE.out (below_grown HA.out))
  · have HE := Aside0.mk (show keepN a.nodes base o = (nodez, 21) from if_neg (fun hh => h2 hh.1))
    have g2 : decide (0 < o.sets.length) = true := decide_eq_true (by omega)
    clear h2
    go_enter Tryd.func90, Tryd.ntmps90
    go_wp2
    exact bodyPost_ret (v := .tuple #[.agg #[.int .i64 0, .slice none 0 0, .slice none 0 0, .slice none 0 0], .int .i64 21]) (by simp [results, Tryd.results90, go_sem]) rfl (OnePost.bad HE.out (below_grown HA.out))
end
end Go.Proofs.YtglfebpgdghlfaaDoor.L
end
section
namespace Go.Proofs.YtglfebpgdghlfaaDoor.L
open Go.RowKit Go.ChangeShapes Go.WideShapes Go.Proofs.YtglfebpgdghlfaaDoorW.PrintWords Go.Proofs.YtglfebpgdghlfaaDoorW.PrintLast Go.Proofs.YtglfebpgdghlfaaDoorW.PrintMore
attribute [local go_sem] max2_int min2_int max_two min_two max_three min_three max_four min_four
set_option maxRecDepth 100000 in
set_option maxHeartbeats 8000000 in
theorem fset_any (n : Node) (A1 : Option Addr) (c1 : Nat) (A2 : Option Addr) (c2 : Nat) (A3 : Option Addr) (c3 : Nat) (A4 : Option Addr) (c4 : Nat) (l : List SetV) (w : World) (h : NodeC w n A1 c1 A2 c2 A3 c3) (hs : Small n) (h4 : kSet.C w A4 l.length l) (hl : l.length ≤ 1000000) :
    Calls Tryd.prog 113 #[.agg #[.int .i64 n.kind, .slice A1 n.ints.length c1, .slice A2 n.texts.length c2, .slice A3 n.kids.length c3], .slice A4 l.length c4] w (NodePost (setR n l) w) := by
  have HN := Aside0.mk h
  have HSm := Aside0.mk hs
  have HL := Aside0.mk h4
  have HB := Aside0.mk (below_alloc (below_alloc (Below.refl w.heap.size w) (.cells #[.int .i64 n.kind, .slice A1 n.ints.length c1, .slice A2 n.texts.length c2, .slice A3 n.kids.length c3] 26)) (.cells #[.int .i64 0, .slice none 0 0, .slice none 0 0, .slice none 0 0] 26))
  have k0 := box_cell2 w _ rfl #[.int .i64 n.kind, .slice A1 n.ints.length c1, .slice A2 n.texts.length c2, .slice A3 n.kids.length c3] 26 (.cells #[.int .i64 0, .slice none 0 0, .slice none 0 0, .slice none 0 0] 26) 0 _ rfl
  have k1 := box_cell2 w _ rfl #[.int .i64 n.kind, .slice A1 n.ints.length c1, .slice A2 n.texts.length c2, .slice A3 n.kids.length c3] 26 (.cells #[.int .i64 0, .slice none 0 0, .slice none 0 0, .slice none 0 0] 26) 1 _ rfl
  have k2 := box_cell2 w _ rfl #[.int .i64 n.kind, .slice A1 n.ints.length c1, .slice A2 n.texts.length c2, .slice A3 n.kids.length c3] 26 (.cells #[.int .i64 0, .slice none 0 0, .slice none 0 0, .slice none 0 0] 26) 2 _ rfl
  have k3 := box_cell2 w _ rfl #[.int .i64 n.kind, .slice A1 n.ints.length c1, .slice A2 n.texts.length c2, .slice A3 n.kids.length c3] 26 (.cells #[.int .i64 0, .slice none 0 0, .slice none 0 0, .slice none 0 0] 26) 3 _ rfl
  have HRes := Aside0.mk (show ((w.alloc (.cells #[.int .i64 n.kind, .slice A1 n.ints.length c1, .slice A2 n.texts.length c2, .slice A3 n.kids.length c3] 26)).alloc (.cells #[.int .i64 0, .slice none 0 0, .slice none 0 0, .slice none 0 0] 26)).heap[w.heap.size + 1]? = some (.cells #[.int .i64 0, .slice none 0 0, .slice none 0 0, .slice none 0 0] 26 (0, 0)) from by
    have := heap_alloc_new (w.alloc (.cells #[.int .i64 n.kind, .slice A1 n.ints.length c1, .slice A2 n.texts.length c2, .slice A3 n.kids.length c3] 26)) (.cells #[.int .i64 0, .slice none 0 0, .slice none 0 0, .slice none 0 0] 26)
    simpa using this)
  have hun := Tryd.underlying26
  have hus := Tryd.underlying84
  clear h hs h4
  go_enter Tryd.func113, Tryd.ntmps113
  go_wp2_with fail
  refine (copy_any n A1 c1 A2 c2 A3 c3 _ (HN.out.below HB.out) HSm.out).mono ?_
  rintro e w6 ⟨v, rfl, ⟨v1, v2, v3, rfl, hM6⟩, hB6⟩
  have HO := Aside0.mk (OutRel.start (below_step HB.out hB6) (Nat.le_succ _) ((hB6.block _ (blk_lt HRes.out)).trans HRes.out) HB.out.size hM6)
  clear hB6 hM6 k0 k1 k2 k3
  obtain ⟨A5, c5, hv1⟩ := Kd.R_slice HO.out.r1
  subst hv1
  obtain ⟨A6, c6, hv2⟩ := Kd.R_slice HO.out.r2
  subst hv2
  obtain ⟨A7, c7, hv3⟩ := Kd.R_slice HO.out.r3
  subst hv3
  go_wp2
  generalize w6.alloc (.cells #[.int .i64 n.kind, .slice A5 n.ints.length c5, .slice A6 n.texts.length c6, .slice A7 n.kids.length c7] 26) = W7 at HO ⊢
  generalize w6.heap.size = g at HO ⊢
  go_loopw [13] (fun v13 W => ∃ k : Nat, k ≤ l.length ∧ v13 = .int .i64 k ∧ ∃ m, Aside0 (setAll n (l.take k) = some m ∧ m.kind = n.kind) ∧ Aside0 (OutRel m (.slice A5 n.ints.length c5) (.slice A6 n.texts.length c6) (.slice A7 n.kids.length c7) w (w.heap.size + 1) g W)) (fun v13 _ => l.length - (intOf v13).toNat)
  case atStart => exact ⟨0, by omega, rfl, n, ⟨rfl, rfl⟩, HO⟩
  case round =>
    clear HO
    obtain ⟨k, hk, rfl, m, HS, HO⟩ := hrel
    have q0 : wr.cell? ⟨g, 0, none⟩ = some (.int .i64 m.kind) := (blk_cell HO.out.box 0).trans rfl
    have q1 : wr.cell? ⟨g, 1, none⟩ = some (.slice A5 n.ints.length c5) := (blk_cell HO.out.box 1).trans rfl
    have q2 : wr.cell? ⟨g, 2, none⟩ = some (.slice A6 n.texts.length c6) := (blk_cell HO.out.box 2).trans rfl
    have q3 : wr.cell? ⟨g, 3, none⟩ = some (.slice A7 n.kids.length c7) := (blk_cell HO.out.box 3).trans rfl
    have hl1 := (Kd.R_reads' HO.out.r1).1
    have hl2 := (Kd.R_reads' HO.out.r2).1
    have HLn := Aside0.mk (And.intro hl1 hl2)
    have hwr := blk_lt HO.out.res
    have hgl := blk_lt HO.out.box
    clear hl1 hl2
    by_cases hlt : k < l.length
    · obtain ⟨ad, rfl, x0, x1, x2, x3⟩ := at_set (Kd.C_below HL.out HO.out.below) k hlt
      have HStep := Aside0.mk (setAll_step (n := n) hlt)
      have HBd := Aside0.mk (fun hb => setR_bad hlt HS.out.1 hb)
      generalize st l k = x at x0 x1 x2 x3 HStep HBd
      have e0 : wr.cell? ⟨w.heap.size + 1, 0, none⟩ = some (.int .i64 0) := (blk_cell HO.out.res 0).trans rfl
      have e0f := blk_frozen HO.out.res 0
      have e1 : (wr.setCell ⟨w.heap.size + 1, 0, none⟩ (.int .i64 0)).cell? ⟨w.heap.size + 1, 1, none⟩ = some (.slice none 0 0) := (blk_cell (blk_set HO.out.res 0 (.int .i64 0)) 1).trans rfl
      have e1f := blk_frozen (blk_set HO.out.res 0 (.int .i64 0)) 1
      have e2 : ((wr.setCell ⟨w.heap.size + 1, 0, none⟩ (.int .i64 0)).setCell ⟨w.heap.size + 1, 1, none⟩ (.slice none 0 0)).cell? ⟨w.heap.size + 1, 2, none⟩ = some (.slice none 0 0) := (blk_cell (blk_set (blk_set HO.out.res 0 (.int .i64 0)) 1 (.slice none 0 0)) 2).trans rfl
      have e2f := blk_frozen (blk_set (blk_set HO.out.res 0 (.int .i64 0)) 1 (.slice none 0 0)) 2
      have e3 : (((wr.setCell ⟨w.heap.size + 1, 0, none⟩ (.int .i64 0)).setCell ⟨w.heap.size + 1, 1, none⟩ (.slice none 0 0)).setCell ⟨w.heap.size + 1, 2, none⟩ (.slice none 0 0)).cell? ⟨w.heap.size + 1, 3, none⟩ = some (.slice none 0 0) := (blk_cell (blk_set (blk_set (blk_set HO.out.res 0 (.int .i64 0)) 1 (.slice none 0 0)) 2 (.slice none 0 0)) 3).trans rfl
      have e3f := blk_frozen (blk_set (blk_set (blk_set HO.out.res 0 (.int .i64 0)) 1 (.slice none 0 0)) 2 (.slice none 0 0)) 3
      have HZ := Aside0.mk (box4 HO.out.res (.int .i64 0) (.slice none 0 0) (.slice none 0 0) (.slice none 0 0))
      have HZB := Aside0.mk (below_set4 (i0 := 0) (i1 := 1) (i2 := 2) (i3 := 3) (u0 := .int .i64 0) (u1 := .slice none 0 0) (u2 := .slice none 0 0) (u3 := .slice none 0 0) HO.out.below (show w.heap.size ≤ w.heap.size + 1 by omega))
      cases ht : x.text with
      | true =>
        rw [ht] at x0
        by_cases hok : x.n = 0 ∧ 0 ≤ x.field ∧ x.field < (m.texts.length : Int)
        · obtain ⟨hn, hf0, hf1⟩ := hok
          obtain ⟨f, hf⟩ := Int.eq_ofNat_of_zero_le hf0
          have hfl : f < m.texts.length := by omega
          have HN1 := Aside0.mk (setOne_text ht hn hf hfl)
          have HL2 := HLn.out.2
          obtain ⟨g6, c6', hv, -⟩ := Kd.R_form HO.out.r2 (by omega)
          injection hv with hA _ hc
          subst hA hc
          obtain ⟨⟨y, s1⟩, s2, hs3⟩ := HO.out.setText hfl x.s
          rw [hn] at x2
          rw [hf] at x1
          have HS3 := Aside0.mk hs3
          have hg6 : g6 < wr.heap.size := World.block_lt_of_cell? wr _ s1
          have d1 : decide ((f : Int) < (n.texts.length : Int)) = true := decide_eq_true (by omega)
          clear HL2 hn hf hf0 hf1 hs3 e0 e0f e1 e1f e2 e2f e3 e3f
          go_wp2
          go_roundw
          case rel => exact ⟨k + 1, by omega, by go_num, ⟨m.kind, m.ints, m.texts.set f x.s, m.kids⟩, ⟨by rw [HStep.out, HS.out.1]; exact HN1.out, HS.out.2⟩, ⟨HS3.out.alloc _⟩⟩
          case measure => simp [intOf]; omega
        · have HBad := Aside0.mk (HBd.out (setOne_text_bad ht hok))
          have h3 : ¬ x.n = 0 ∨ (x.n = 0 ∧ ¬ 0 ≤ x.field) ∨ (x.n = 0 ∧ 0 ≤ x.field ∧ ¬ x.field < (m.texts.length : Int)) := by omega
          have HL2 := HLn.out.2
          rcases h3 with hn | ⟨hn, hf0⟩ | ⟨hn, hf0, hf1⟩
          · have d1 : (x.n == 0) = false := by simpa using hn
            clear hn hok ht HL2
            go_wp2
            have h4 := res4a HZ.out (.cells #[.bool true, .int .i64 x.field, .int .i64 x.n, .string x.s] 84)
            exact bodyPost_ret (v := .tuple #[.agg #[.int .i64 0, .slice none 0 0, .slice none 0 0, .slice none 0 0], .int .i64 21]) (by simp [results, Tryd.results113, go_sem, h4]) rfl
              ⟨_, _, _, by rw [HBad.out]; rfl, by rw [HBad.out]; exact nodez_M _ _, below_alloc HZB.out _⟩
          · rw [hn] at x2
            have d1 : decide (0 ≤ x.field) = false := decide_eq_false hf0
            clear hn hok ht hf0 HL2
            go_wp2
            have h4 := res4a HZ.out (.cells #[.bool true, .int .i64 x.field, .int .i64 0, .string x.s] 84)
            exact bodyPost_ret (v := .tuple #[.agg #[.int .i64 0, .slice none 0 0, .slice none 0 0, .slice none 0 0], .int .i64 21]) (by simp [results, Tryd.results113, go_sem, h4]) rfl
              ⟨_, _, _, by rw [HBad.out]; rfl, by rw [HBad.out]; exact nodez_M _ _, below_alloc HZB.out _⟩
          · rw [hn] at x2
            have d1 : decide (0 ≤ x.field) = true := decide_eq_true hf0
            have d2 : decide (x.field < (n.texts.length : Int)) = false := decide_eq_false (by omega)
            clear hn hok ht hf0 hf1 HL2
            go_wp2
            have h4 := res4a HZ.out (.cells #[.bool true, .int .i64 x.field, .int .i64 0, .string x.s] 84)
            exact bodyPost_ret (v := .tuple #[.agg #[.int .i64 0, .slice none 0 0, .slice none 0 0, .slice none 0 0], .int .i64 21]) (by simp [results, Tryd.results113, go_sem, h4]) rfl
              ⟨_, _, _, by rw [HBad.out]; rfl, by rw [HBad.out]; exact nodez_M _ _, below_alloc HZB.out _⟩
      | false =>
        rw [ht] at x0
        by_cases hok : x.s = ByteArray.empty ∧ 0 ≤ x.field ∧ x.field < (m.ints.length : Int)
        · obtain ⟨hn, hf0, hf1⟩ := hok
          obtain ⟨f, hf⟩ := Int.eq_ofNat_of_zero_le hf0
          have hfl : f < m.ints.length := by omega
          have HN1 := Aside0.mk (setOne_int ht hn hf hfl)
          have HL2 := HLn.out.1
          obtain ⟨g6, c6', hv, -⟩ := Kd.R_form HO.out.r1 (by omega)
          injection hv with hA _ hc
          subst hA hc
          obtain ⟨⟨y, s1⟩, s2, hs3⟩ := HO.out.setInt hfl x.n
          rw [hn] at x3
          rw [hf] at x1
          have HS3 := Aside0.mk hs3
          have hg6 : g6 < wr.heap.size := World.block_lt_of_cell? wr _ s1
          have d1 : decide ((f : Int) < (n.ints.length : Int)) = true := decide_eq_true (by omega)
          clear HL2 hn hf hf0 hf1 hs3 e0 e0f e1 e1f e2 e2f e3 e3f
          go_wp2
          go_roundw
          case rel => exact ⟨k + 1, by omega, by go_num, ⟨m.kind, m.ints.set f x.n, m.texts, m.kids⟩, ⟨by rw [HStep.out, HS.out.1]; exact HN1.out, HS.out.2⟩, ⟨HS3.out.alloc _⟩⟩
          case measure => simp [intOf]; omega
        · have HBad := Aside0.mk (HBd.out (setOne_int_bad ht hok))
          have HL2 := HLn.out.1
          have h3 : ¬ x.s = ByteArray.empty ∨ (x.s = ByteArray.empty ∧ ¬ 0 ≤ x.field) ∨ (x.s = ByteArray.empty ∧ 0 ≤ x.field ∧ ¬ x.field < (m.ints.length : Int)) := by
            by_cases h1 : x.s = ByteArray.empty
            · by_cases h2 : 0 ≤ x.field
              · exact .inr (.inr ⟨h1, h2, fun h => hok ⟨h1, h2, h⟩⟩)
              · exact .inr (.inl ⟨h1, h2⟩)
            · exact .inl h1
          rcases h3 with hn | ⟨hn, hf0⟩ | ⟨hn, hf0, hf1⟩
          · have d1 : ¬ x.s.toList = [] := fun h => hn (toList_nil.1 h)
            clear hn hok ht HL2
            go_wp2
            have h4 := res4a HZ.out (.cells #[.bool false, .int .i64 x.field, .int .i64 x.n, .string x.s] 84)
            exact bodyPost_ret (v := .tuple #[.agg #[.int .i64 0, .slice none 0 0, .slice none 0 0, .slice none 0 0], .int .i64 21]) (by simp [results, Tryd.results113, go_sem, h4]) rfl
              ⟨_, _, _, by rw [HBad.out]; rfl, by rw [HBad.out]; exact nodez_M _ _, below_alloc HZB.out _⟩
          · rw [hn] at x3
            have d1 : decide (0 ≤ x.field) = false := decide_eq_false hf0
            clear hn hok ht hf0 HL2
            go_wp2
            have h4 := res4a HZ.out (.cells #[.bool false, .int .i64 x.field, .int .i64 x.n, .string ByteArray.empty] 84)
            exact bodyPost_ret (v := .tuple #[.agg #[.int .i64 0, .slice none 0 0, .slice none 0 0, .slice none 0 0], .int .i64 21]) (by simp [results, Tryd.results113, go_sem, h4]) rfl
              ⟨_, _, _, by rw [HBad.out]; rfl, by rw [HBad.out]; exact nodez_M _ _, below_alloc HZB.out _⟩
          · rw [hn] at x3
            have d1 : decide (0 ≤ x.field) = true := decide_eq_true hf0
            have d2 : decide (x.field < (n.ints.length : Int)) = false := decide_eq_false (by omega)
            clear hn hok ht hf0 hf1 HL2
            go_wp2
            have h4 := res4a HZ.out (.cells #[.bool false, .int .i64 x.field, .int .i64 x.n, .string ByteArray.empty] 84)
            exact bodyPost_ret (v := .tuple #[.agg #[.int .i64 0, .slice none 0 0, .slice none 0 0, .slice none 0 0], .int .i64 21]) (by simp [results, Tryd.results113, go_sem, h4]) rfl
              ⟨_, _, _, by rw [HBad.out]; rfl, by rw [HBad.out]; exact nodez_M _ _, below_alloc HZB.out _⟩
    · obtain rfl : k = l.length := by omega
      have HFin := Aside0.mk (setR_all (l := l) (by have h := HS.out.1; rwa [List.take_length] at h))
      have HD := Aside0.mk HO.out.done
      have e0 : wr.cell? ⟨w.heap.size + 1, 0, none⟩ = some (.int .i64 0) := (blk_cell HO.out.res 0).trans rfl
      have e0f := blk_frozen HO.out.res 0
      have e1 : (wr.setCell ⟨w.heap.size + 1, 0, none⟩ (.int .i64 m.kind)).cell? ⟨w.heap.size + 1, 1, none⟩ = some (.slice none 0 0) := (blk_cell (blk_set HO.out.res 0 (.int .i64 m.kind)) 1).trans rfl
      have e1f := blk_frozen (blk_set HO.out.res 0 (.int .i64 m.kind)) 1
      have e2 : ((wr.setCell ⟨w.heap.size + 1, 0, none⟩ (.int .i64 m.kind)).setCell ⟨w.heap.size + 1, 1, none⟩ (.slice A5 n.ints.length c5)).cell? ⟨w.heap.size + 1, 2, none⟩ = some (.slice none 0 0) := (blk_cell (blk_set (blk_set HO.out.res 0 (.int .i64 m.kind)) 1 (.slice A5 n.ints.length c5)) 2).trans rfl
      have e2f := blk_frozen (blk_set (blk_set HO.out.res 0 (.int .i64 m.kind)) 1 (.slice A5 n.ints.length c5)) 2
      have e3 : (((wr.setCell ⟨w.heap.size + 1, 0, none⟩ (.int .i64 m.kind)).setCell ⟨w.heap.size + 1, 1, none⟩ (.slice A5 n.ints.length c5)).setCell ⟨w.heap.size + 1, 2, none⟩ (.slice A6 n.texts.length c6)).cell? ⟨w.heap.size + 1, 3, none⟩ = some (.slice none 0 0) := (blk_cell (blk_set (blk_set (blk_set HO.out.res 0 (.int .i64 m.kind)) 1 (.slice A5 n.ints.length c5)) 2 (.slice A6 n.texts.length c6)) 3).trans rfl
      have e3f := blk_frozen (blk_set (blk_set (blk_set HO.out.res 0 (.int .i64 m.kind)) 1 (.slice A5 n.ints.length c5)) 2 (.slice A6 n.texts.length c6)) 3
      go_wp2
      have h4 := res4 HD.out.1
      exact bodyPost_ret (v := .tuple #[.agg #[.int .i64 m.kind, .slice A5 n.ints.length c5, .slice A6 n.texts.length c6, .slice A7 n.kids.length c7], .int .i64 0]) (by simp [results, Tryd.results113, go_sem, h4]) rfl
        ⟨_, _, _, by rw [HFin.out], by rw [HFin.out]; exact HD.out.2.1, HD.out.2.2⟩
end Go.Proofs.YtglfebpgdghlfaaDoor.L
end
section
namespace Go.Proofs.YtglfebpgdghlfaaDoor.L
open Go.RowKit Go.ChangeShapes Go.WideShapes Go.Proofs.YtglfebpgdghlfaaDoorW.PrintWords Go.Proofs.YtglfebpgdghlfaaDoorW.PrintLast Go.Proofs.YtglfebpgdghlfaaDoorW.PrintMore
attribute [local go_sem] max2_int min2_int max_two min_two max_three min_three max_four min_four
theorem M_nodeC {W : World} {B : Nat} {m : Node} {A1 A2 A3 : Option Addr} {c1 c2 c3 : Nat} (h : kNode.M W B (fun _ => True) m [.int .i64 m.kind, .slice A1 m.ints.length c1, .slice A2 m.texts.length c2, .slice A3 m.kids.length c3]) : NodeC W m A1 c1 A2 c2 A3 c3 := by
  obtain ⟨x1, x2, x3, e, h1, h2, h3⟩ := kNode_openM h
  injection e with _ e
  injection e with e1 e
  injection e with e2 e
  injection e with e3 _
  subst e1 e2 e3
  exact ⟨(Kd.R_reads' h1).2.1, (Kd.R_reads' h2).2.1, (Kd.R_reads' h3).2.1, (Kd.R_reads' h1).2.2, (Kd.R_reads' h2).2.2, (Kd.R_reads' h3).2.2⟩
theorem blk_set4 {W : World} {q rb i0 i1 i2 i3 : Nat} {o : Obj} (h : W.heap[q]? = some o) (hne : q ≠ rb) (u0 u1 u2 u3 : Value) : ((((W.setCell ⟨rb, i0, none⟩ u0).setCell ⟨rb, i1, none⟩ u1).setCell ⟨rb, i2, none⟩ u2).setCell ⟨rb, i3, none⟩ u3).heap[q]? = some o := by
  rw [Below.heap_setCell _ ⟨rb, i3, none⟩ u3 q hne, Below.heap_setCell _ ⟨rb, i2, none⟩ u2 q hne, Below.heap_setCell _ ⟨rb, i1, none⟩ u1 q hne, Below.heap_setCell _ ⟨rb, i0, none⟩ u0 q hne]
  exact h
theorem blk_at {W : World} {q : Nat} {cs : Array Value} {T : TypeId} (h : W.heap[q]? = some (.cells cs T (0, 0))) (i : Nat) {v : Value} (hv : cs[i]? = some v) : W.cell? ⟨q, i, none⟩ = some v := (blk_cell h i).trans hv
theorem setR_some {n m : Node} {l : List SetV} (h : setAll n l = some m) : setR n l = (m, 0) := by unfold setR; rw [h]
theorem setR_no {n : Node} {l : List SetV} (h : setAll n l = none) : setR n l = (nodez, 21) := by unfold setR; rw [h]
structure EdRel (m : Node) (v1 v2 v3 : Value) (w W : World) (mb cnt : Nat) (f : Lit → Option Value) (g : Nat) (cs : Array Value) (W1 : World) : Prop where
  node : kNode.M W1 W.heap.size (fun _ => True) m [.int .i64 m.kind, v1, v2, v3]
  box : W1.heap[g]? = some (.cells #[.int .i64 m.kind, v1, v2, v3] 26 (0, 0))
  res : W1.heap[W.heap.size + 1]? = some (.cells zeroN 26 (0, 0))
  ob : W1.heap[W.heap.size]? = some (.cells cs 61 (0, 0))
  map : MapF Tryd.prog 3 W1 mb cnt f
  grown : W.grownBy W1 (some mb)
  ge : W.heap.size + 1 < g
section
variable {m : Node} {v1 v2 v3 : Value} {w W : World} {mb cnt : Nat} {f : Lit → Option Value} {g : Nat} {cs : Array Value} {W1 W2 : World}
theorem EdRel.later (h : EdRel m v1 v2 v3 w W mb cnt f g cs W1) (hb : Below W1.heap.size W1 W2) : EdRel m v1 v2 v3 w W mb cnt f g cs W2 :=
  ⟨M_below h.node hb, (hb.block _ (blk_lt h.box)).trans h.box, (hb.block _ (blk_lt h.res)).trans h.res, (hb.block _ (blk_lt h.ob)).trans h.ob, h.map.below hb, grown_then h.grown hb, h.ge⟩
theorem EdRel.put {m2 : Node} {x1 x2 x3 : Value} (h : EdRel m v1 v2 v3 w W mb cnt f g cs W1) (hm : mb < W.heap.size) (hM : kNode.M W1 W.heap.size (fun _ => True) m2 [.int .i64 m2.kind, x1, x2, x3]) :
    EdRel m2 x1 x2 x3 w W mb cnt f g cs ((((W1.setCell ⟨g, 0, none⟩ (.int .i64 m2.kind)).setCell ⟨g, 1, none⟩ x1).setCell ⟨g, 2, none⟩ x2).setCell ⟨g, 3, none⟩ x3) := by
  have hg := h.ge
  obtain ⟨y1, y2, y3, e, r1, r2, r3⟩ := kNode_openM hM
  injection e with _ e
  injection e with e1 e
  injection e with e2 e
  injection e with e3 _
  subst e1 e2 e3
  have hb0 := h.box
  have hb1 := blk_set hb0 0 (.int .i64 m2.kind)
  have hb2 := blk_set hb1 1 x1
  have hb3 := blk_set hb2 2 x2
  refine ⟨kNode_mkM ?_ ?_ ?_, box4 h.box _ _ _ _, blk_set4 h.res (by omega) _ _ _ _, blk_set4 h.ob (by omega) _ _ _ _, MapF.set4 h.map (by omega) _ _ _ _, grown_set4 h.grown (by omega) _ _ _ _, h.ge⟩
  · exact R_type (R_type (R_type (R_type r1 hb0 (by decide) _ _) hb1 (by decide) _ _) hb2 (by decide) _ _) hb3 (by decide) _ _
  · exact R_type (R_type (R_type (R_type r2 hb0 (by decide) _ _) hb1 (by decide) _ _) hb2 (by decide) _ _) hb3 (by decide) _ _
  · exact R_type (R_type (R_type (R_type r3 hb0 (by decide) _ _) hb1 (by decide) _ _) hb2 (by decide) _ _) hb3 (by decide) _ _
theorem EdRel.kid {x3 : Value} {l : List Int} (h : EdRel m v1 v2 v3 w W mb cnt f g cs W1) (hm : mb < W.heap.size) (hR : (Kd.int .i64).R 3 W1 W.heap.size (fun _ => True) x3 l) :
    EdRel ⟨m.kind, m.ints, m.texts, l⟩ v1 v2 x3 w W mb cnt f g cs (W1.setCell ⟨g, 3, none⟩ x3) := by
  have hg := h.ge
  obtain ⟨y1, y2, y3, e, r1, r2, r3⟩ := kNode_openM h.node
  injection e with _ e
  injection e with e1 e
  injection e with e2 e
  injection e with e3 _
  subst e1 e2 e3
  have hb3 := blk_set h.box 3 x3
  refine ⟨kNode_mkM (R_type r1 h.box (by decide) _ _) (R_type r2 h.box (by decide) _ _) (R_type hR h.box (by decide) _ _), by simpa using hb3, ?_, ?_, h.map.setCell (a := ⟨g, 3, none⟩) (by show mb ≠ g; omega) _, grown_set h.grown (by omega) _, h.ge⟩
  · exact (Below.heap_setCell W1 ⟨g, 3, none⟩ x3 _ (by show W.heap.size + 1 ≠ g; omega)).trans h.res
  · exact (Below.heap_setCell W1 ⟨g, 3, none⟩ x3 _ (by show W.heap.size ≠ g; omega)).trans h.ob
theorem EdRel.ret {m2 : Node} {x1 x2 x3 : Value} (h : EdRel m v1 v2 v3 w W mb cnt f g cs W1) (hm : mb < W.heap.size) (hM : kNode.M W1 W.heap.size (fun _ => True) m2 [.int .i64 m2.kind, x1, x2, x3]) :
    ((((W1.setCell ⟨W.heap.size + 1, 0, none⟩ (.int .i64 m2.kind)).setCell ⟨W.heap.size + 1, 1, none⟩ x1).setCell ⟨W.heap.size + 1, 2, none⟩ x2).setCell ⟨W.heap.size + 1, 3, none⟩ x3).heap[W.heap.size + 1]? = some (.cells #[.int .i64 m2.kind, x1, x2, x3] 26 (0, 0)) ∧
    kNode.M ((((W1.setCell ⟨W.heap.size + 1, 0, none⟩ (.int .i64 m2.kind)).setCell ⟨W.heap.size + 1, 1, none⟩ x1).setCell ⟨W.heap.size + 1, 2, none⟩ x2).setCell ⟨W.heap.size + 1, 3, none⟩ x3) W.heap.size (fun _ => True) m2 [.int .i64 m2.kind, x1, x2, x3] ∧
    W.grownBy ((((W1.setCell ⟨W.heap.size + 1, 0, none⟩ (.int .i64 m2.kind)).setCell ⟨W.heap.size + 1, 1, none⟩ x1).setCell ⟨W.heap.size + 1, 2, none⟩ x2).setCell ⟨W.heap.size + 1, 3, none⟩ x3) (some mb) ∧
    MapF Tryd.prog 3 ((((W1.setCell ⟨W.heap.size + 1, 0, none⟩ (.int .i64 m2.kind)).setCell ⟨W.heap.size + 1, 1, none⟩ x1).setCell ⟨W.heap.size + 1, 2, none⟩ x2).setCell ⟨W.heap.size + 1, 3, none⟩ x3) mb cnt f := by
  obtain ⟨h1, h2⟩ := node_landed hM h.res
  exact ⟨h1, h2, grown_set4 h.grown (Nat.le_succ _) _ _ _ _, MapF.set4 h.map (by omega) _ _ _ _⟩
theorem EdRel.retZ (h : EdRel m v1 v2 v3 w W mb cnt f g cs W1) (hm : mb < W.heap.size) :
    ((((W1.setCell ⟨W.heap.size + 1, 0, none⟩ (.int .i64 0)).setCell ⟨W.heap.size + 1, 1, none⟩ (.slice none 0 0)).setCell ⟨W.heap.size + 1, 2, none⟩ (.slice none 0 0)).setCell ⟨W.heap.size + 1, 3, none⟩ (.slice none 0 0)).heap[W.heap.size + 1]? = some (.cells #[.int .i64 0, .slice none 0 0, .slice none 0 0, .slice none 0 0] 26 (0, 0)) ∧
    W.grownBy ((((W1.setCell ⟨W.heap.size + 1, 0, none⟩ (.int .i64 0)).setCell ⟨W.heap.size + 1, 1, none⟩ (.slice none 0 0)).setCell ⟨W.heap.size + 1, 2, none⟩ (.slice none 0 0)).setCell ⟨W.heap.size + 1, 3, none⟩ (.slice none 0 0)) (some mb) :=
  let r := h.ret (m2 := nodez) hm (nodez_M _ _)
  ⟨r.1, r.2.2.1⟩
end
end Go.Proofs.YtglfebpgdghlfaaDoor.L
end
section
namespace Go.Proofs.YtglfebpgdghlfaaDoor.L
open Go.RowKit Go.ChangeShapes Go.WideShapes Go.Proofs.YtglfebpgdghlfaaDoorW.PrintWords Go.Proofs.YtglfebpgdghlfaaDoorW.PrintLast Go.Proofs.YtglfebpgdghlfaaDoorW.PrintMore
attribute [local go_sem] max2_int min2_int max_two min_two max_three min_three max_four min_four
theorem setOne_kids {n m : Node} {x : SetV} (h : setOne n x = some m) : m.kids = n.kids ∧ m.ints.length = n.ints.length ∧ m.texts.length = n.texts.length ∧ m.kind = n.kind := by
  unfold setOne at h
  split at h
  · split at h
    · injection h with h
      subst h
      exact ⟨rfl, rfl, List.length_set, rfl⟩
    · cases h
  · split at h
    · injection h with h
      subst h
      exact ⟨rfl, List.length_set, rfl, rfl⟩
    · cases h
theorem setAll_kids {l : List SetV} : ∀ {n m : Node}, setAll n l = some m → m.kids = n.kids ∧ m.ints.length = n.ints.length ∧ m.texts.length = n.texts.length ∧ m.kind = n.kind := by
  induction l with
  | nil => intro n m h; injection h with h; subst h; exact ⟨rfl, rfl, rfl, rfl⟩
  | cons x l ih =>
    intro n m h
    have h' : l.foldl setStep (setOne n x) = some m := h
    cases hx : setOne n x with
    | none =>
      rw [hx] at h'
      have hn : ∀ r : List SetV, r.foldl setStep none = none := fun r => by
        induction r with
        | nil => rfl
        | cons y r ih => exact ih
      rw [hn] at h'
      cases h'
    | some n1 =>
      rw [hx] at h'
      obtain ⟨h1, h2, h3, h4⟩ := ih (n := n1) h'
      obtain ⟨g1, g2, g3, g4⟩ := setOne_kids hx
      exact ⟨h1.trans g1, h2.trans g2, h3.trans g3, h4.trans g4⟩
section
variable {a : Scene} {A : Option Addr} {c b mb cnt : Nat} {base : List Int} {v : Value} {out : List Node} {w : World}
set_option maxRecDepth 100000 in
set_option maxHeartbeats 8000000 in
theorem edit_any (W : World) (h : BRel a A c b mb cnt (imgF base) v out w W) (hlen : out.length = base.length) (hc : kNode.C w A a.nodes.length a.nodes) (hS : ∀ i : Nat, i < a.nodes.length → Small (nd a.nodes i)) (hKl : ∀ i : Nat, i < a.nodes.length → (nd a.nodes i).kids.length ≤ 400000) (hP : Places a.nodes) (hn : a.nodes.length ≤ 1000000) (hcn : cnt ≤ 1000000)
    (o : Opn) (B1 : Option Addr) (d1 : Nat) (B2 : Option Addr) (d2 : Nat) (A1 : Option Addr) (c1 : Nat) (A2 : Option Addr) (c2 : Nat) (A3 : Option Addr) (c3 : Nat) (hO : OpnC w o B1 d1 B2 d2 A1 c1 A2 c2 A3 c3) (hls : o.sets.length ≤ 1000000) (hle : o.script.length ≤ 1000000) (hb0 : -9223372036854775808 ≤ o.base) (hb1 : o.base ≤ 9223372036854775807) (hk3 : ¬ o.kind = 3) :
    Calls Tryd.prog 91 #[.pointer (some ⟨b, 0, none⟩), .agg (opV o B1 d1 B2 d2 A1 c1 A2 c2 A3 c3)] W (OnePost a A c b mb cnt base v out w o (changeN a.nodes base o) W) := by
  have HB := Aside0.mk h
  have HO := Aside0.mk hO
  have HC := Aside0.mk hc
  have HSm := Aside0.mk hS
  have HKl := Aside0.mk hKl
  have HPl := Aside0.mk hP
  have HLen := Aside0.mk hlen
  have HLs := Aside0.mk (And.intro hls hle)
  have hA0 := below_alloc (below_alloc (Below.refl W.heap.size W) (.cells (opV o B1 d1 B2 d2 A1 c1 A2 c2 A3 c3) 61)) (.cells zeroN 26)
  have HA := Aside0.mk hA0
  have huo := Tryd.underlying61
  have hun := Tryd.underlying26
  have HRes := Aside0.mk (show ((W.alloc (.cells (opV o B1 d1 B2 d2 A1 c1 A2 c2 A3 c3) 61)).alloc (.cells zeroN 26)).heap[W.heap.size + 1]? = some (.cells zeroN 26 (0, 0)) from by
    have := heap_alloc_new (W.alloc (.cells (opV o B1 d1 B2 d2 A1 c1 A2 c2 A3 c3) 61)) (.cells zeroN 26)
    simpa using this)
  have HOb := Aside0.mk (show ((W.alloc (.cells (opV o B1 d1 B2 d2 A1 c1 A2 c2 A3 c3) 61)).alloc (.cells zeroN 26)).heap[W.heap.size]? = some (.cells (opV o B1 d1 B2 d2 A1 c1 A2 c2 A3 c3) 61 (0, 0)) from by
    refine ((below_alloc (Below.refl _ _) (.cells zeroN 26)).block _ (by simp)).trans ?_
    simpa using heap_alloc_new W (.cells (opV o B1 d1 B2 d2 A1 c1 A2 c2 A3 c3) 61))
  have HBase : Aside0 (baseOf o = o.base) := ⟨if_neg hk3⟩
  have HMb := Aside0.mk (MapF.lt h.map)
  clear h hO hA0 hc hS hP hlen hKl hls hle
  go_enter Tryd.func91, Tryd.ntmps91
  go_wp2_with fail
  refine (empty_any o.node A1 c1 A2 c2 A3 c3 _).mono ?_
  rintro e w5 ⟨rfl, hB5⟩
  have HRes5 := Aside0.mk ((hB5.block _ (blk_lt HRes.out)).trans HRes.out)
  have HOb5 := Aside0.mk ((hB5.block _ (blk_lt HOb.out)).trans HOb.out)
  have k1 : w5.cell? ⟨W.heap.size, 1, none⟩ = some (.int .i64 o.base) := blk_at HOb5.out 1 rfl
  have hrb5 : W.heap.size + 1 < w5.heap.size := blk_lt HRes5.out
  have HB5 := Aside0.mk (below_step HA.out hB5)
  clear hB5 HRes HA HOb
  by_cases hem : emptyN o.node = true
  · rw [hem]
    by_cases htk : takes a.nodes.length base o.base = true
    · have HE := Aside0.mk (show changeN a.nodes base o = editN (imgN base (nd a.nodes o.base.toNat)) o from if_pos ⟨hem, htk⟩)
      obtain ⟨ht0, ht1, htn⟩ := of_decide_eq_true htk
      obtain ⟨i, hi⟩ := Int.eq_ofNat_of_zero_le ht0
      rw [hi] at HE HBase k1 ht1 htn
      rw [Int.toNat_natCast] at HE
      have HTn := Aside0.mk htn
      clear hem htk ht0 hi htn hb0 hb1
      go_wp2_with fail
      refine (take_yes w5 (HB.out.later HB5.out) HLen.out HC.out HSm.out HPl.out hn hcn i (by omega) HTn.out).mono ?_
      rintro e w6 ⟨v1, v2, v3, rfl, hM6, hR6, hg6⟩
      have HMs := Aside0.mk (show Small (imgN base (nd a.nodes i)) ∧ (imgN base (nd a.nodes i)).kids.length ≤ 400000 from by
        have h1 := HSm.out i (by omega)
        have h2 := HKl.out i (by omega)
        exact ⟨⟨h1.1, h1.2.1, by show (List.map _ _).length ≤ _; rw [List.length_map]; exact h1.2.2⟩, by show (List.map _ _).length ≤ _; rw [List.length_map]; exact h2⟩)
      generalize imgN base (nd a.nodes i) = m at HE hM6 HMs ⊢
      obtain ⟨A5, c5, A6, c6, A7, c7, rfl, rfl, rfl⟩ := M_slices hM6
      have hne : ∀ {q : Nat} {cs : Array Value} {T : TypeId}, w5.heap[q]? = some (.cells cs T (0, 0)) → some q ≠ some mb := fun hq e => by
        injection e with e
        exact (HB.out.later HB5.out).map.not_cells (by rw [← e]; exact hq)
      have HR7 := Aside0.mk (show EdRel m (.slice A5 m.ints.length c5) (.slice A6 m.texts.length c6) (.slice A7 m.kids.length c7) w W mb (cnt + 1) (imgF (base ++ [(i : Int)])) w6.heap.size (opV o B1 d1 B2 d2 A1 c1 A2 c2 A3 c3) (w6.alloc (.cells #[.int .i64 m.kind, .slice A5 m.ints.length c5, .slice A6 m.texts.length c6, .slice A7 m.kids.length c7] 26)) from by
        have hb := below_alloc (Below.refl w6.heap.size w6) (.cells #[.int .i64 m.kind, .slice A5 m.ints.length c5, .slice A6 m.texts.length c6, .slice A7 m.kids.length c7] 26)
        have r6 := (hg6.block _ hrb5 (hne HRes5.out)).trans HRes5.out
        have o6 := (hg6.block _ (blk_lt HOb5.out) (hne HOb5.out)).trans HOb5.out
        exact ⟨M_below (M_lower hM6 HB5.out.size) hb, by simpa using heap_alloc_new w6 _, (hb.block _ (blk_lt r6)).trans r6, (hb.block _ (blk_lt o6)).trans o6, hR6.map.below hb, grown_then (grown_of_below HB5.out hg6) hb, blk_lt r6⟩)
      have k2 : (w6.alloc (.cells #[.int .i64 m.kind, .slice A5 m.ints.length c5, .slice A6 m.texts.length c6, .slice A7 m.kids.length c7] 26)).cell? ⟨W.heap.size, 2, none⟩ = some (.slice B1 o.sets.length d1) := blk_at HR7.out.ob 2 rfl
      clear hM6 hR6 hg6 k1 hne
      go_wp2_with fail
      generalize w6.alloc (.cells #[.int .i64 m.kind, .slice A5 m.ints.length c5, .slice A6 m.texts.length c6, .slice A7 m.kids.length c7] 26) = W7 at HR7 ⊢
      generalize w6.heap.size = g at HR7 ⊢
      clear k2
      have HBl7 := Aside0.mk (HB.out.below.grown HR7.out.grown HB.out.below.size (fun q hq => by injection hq with hq; have := HB.out.mge; omega))
      refine (fset_any m A5 c5 A6 c6 A7 c7 B1 d1 o.sets W7 (M_nodeC HR7.out.node) HMs.out.1 (Kd.C_below HO.out.s HBl7.out) HLs.out.1).mono ?_
      have hge := HR7.out.ge
      have hmb := HMb.out
      have hne2 : W.heap.size + 1 ≠ g := by omega
      cases hsa : setAll m o.sets with
      | none =>
        rw [setR_no hsa]
        have HE2 := Aside0.mk (show changeN a.nodes base o = (nodez, 21) from by rw [HE.out]; unfold editN; rw [hsa])
        generalize nodez = z
        rintro e w8 ⟨y1, y2, y3, rfl, hM8, hB8⟩
        dsimp only at hM8 ⊢
        obtain ⟨A8, c8, A9, c9, A10, c10, rfl, rfl, rfl⟩ := M_slices hM8
        have hR8' := HR7.out.later hB8
        have HR8 := Aside0.mk (hR8'.put hmb (M_lower hM8 HR7.out.grown.size))
        have HZ := Aside0.mk (HR8.out.retZ hmb)
        obtain ⟨f0, f0f, f1, f1f, f2, f2f, f3, f3f⟩ := slots4 hR8'.box (.int .i64 z.kind) (.slice A8 z.ints.length c8) (.slice A9 z.texts.length c9)
        obtain ⟨e0, e0f, e1, e1f, e2, e2f, e3, e3f⟩ := slots4 HR8.out.res (.int .i64 0) (.slice none 0 0) (.slice none 0 0)
        clear hsa hR8' hM8 hB8
        go_wp2
        have h4 := res4 HZ.out.1
        exact bodyPost_ret (v := .tuple #[.agg #[.int .i64 0, .slice none 0 0, .slice none 0 0, .slice none 0 0], .int .i64 21]) (by simp [results, Tryd.results91, go_sem, h4]) rfl (OnePost.bad HE2.out HZ.out.2)
      | some m2 =>
        rw [setR_some hsa]
        obtain ⟨hk2, -, -, -⟩ := setAll_kids hsa
        have HKl2 := Aside0.mk (show m2.kids.length ≤ 400000 from by rw [hk2]; exact HMs.out.2)
        have HE2 := Aside0.mk (show changeN a.nodes base o = if (app m2.kids o.script).2 = true then (⟨m2.kind, m2.ints, m2.texts, (app m2.kids o.script).1⟩, 0) else (nodez, 21) from by rw [HE.out]; unfold editN; rw [hsa])
        rintro e w8 ⟨y1, y2, y3, rfl, hM8, hB8⟩
        obtain ⟨A8, c8, A9, c9, A10, c10, rfl, rfl, rfl⟩ := M_slices hM8
        have hR8' := HR7.out.later hB8
        have HR8 := Aside0.mk (hR8'.put hmb (M_lower hM8 HR7.out.grown.size))
        obtain ⟨f0, f0f, f1, f1f, f2, f2f, f3, f3f⟩ := slots4 hR8'.box (.int .i64 m2.kind) (.slice A8 m2.ints.length c8) (.slice A9 m2.texts.length c9)
        have k2 : w8.cell? ⟨W.heap.size, 3, none⟩ = some (.slice B2 o.script.length d2) := blk_at hR8'.ob 3 rfl
        have k3 : ((((w8.setCell ⟨g, 0, none⟩ (.int .i64 m2.kind)).setCell ⟨g, 1, none⟩ (.slice A8 m2.ints.length c8)).setCell ⟨g, 2, none⟩ (.slice A9 m2.texts.length c9)).setCell ⟨g, 3, none⟩ (.slice A10 m2.kids.length c10)).cell? ⟨W.heap.size, 3, none⟩ = some (.slice B2 o.script.length d2) := blk_at HR8.out.ob 3 rfl
        have k4 : ((((w8.setCell ⟨g, 0, none⟩ (.int .i64 m2.kind)).setCell ⟨g, 1, none⟩ (.slice A8 m2.ints.length c8)).setCell ⟨g, 2, none⟩ (.slice A9 m2.texts.length c9)).setCell ⟨g, 3, none⟩ (.slice A10 m2.kids.length c10)).cell? ⟨g, 3, none⟩ = some (.slice A10 m2.kids.length c10) := blk_at HR8.out.box 3 rfl
        have hnew : W.heap.size ≠ g := by omega
        clear hsa hk2 hR8' hM8 hB8
        go_wp2_with fail
        clear f0 f0f f1 f1f f2 f2f f3 f3f k2 k3 k4
        generalize ((((w8.setCell ⟨g, 0, none⟩ (.int .i64 m2.kind)).setCell ⟨g, 1, none⟩ (.slice A8 m2.ints.length c8)).setCell ⟨g, 2, none⟩ (.slice A9 m2.texts.length c9)).setCell ⟨g, 3, none⟩ (.slice A10 m2.kids.length c10)) = W9 at HR8 ⊢
        have HBl9 := Aside0.mk (HB.out.below.grown HR8.out.grown HB.out.below.size (fun q hq => by injection hq with hq; have := HB.out.mge; omega))
        have hN9 := M_nodeC HR8.out.node
        refine (apply_any A10 c10 m2.kids B2 d2 o.script W9 hN9.k hN9.l3 (Kd.C_below HO.out.e HBl9.out) HKl2.out HLs.out.2).mono ?_
        rintro e w10 ⟨y, rfl, hR10, hB10⟩
        have HR10 := Aside0.mk (HR8.out.later hB10)
        have hK10 := Kd.R_lower hR10 HR8.out.grown.size
        generalize app m2.kids o.script = q at HE2 hK10 ⊢
        obtain ⟨ql, qb⟩ := q
        obtain ⟨A11, c11, hy⟩ := Kd.R_slice hK10
        subst hy
        have HR11 := Aside0.mk (HR10.out.kid hmb hK10)
        have f3 : w10.cell? ⟨g, 3, none⟩ = some (.slice A10 m2.kids.length c10) := blk_at HR10.out.box 3 rfl
        have f3f := blk_frozen HR10.out.box 3
        clear hN9 hR10 hB10 hK10
        cases qb with
        | true =>
          have HE3 := Aside0.mk (HE2.out.trans (if_pos rfl))
          have HZ := Aside0.mk (HR11.out.ret hmb HR11.out.node)
          obtain ⟨e0, e0f, e1, e1f, e2, e2f, e3, e3f⟩ := slots4 HR11.out.res (.int .i64 m2.kind) (.slice A8 m2.ints.length c8) (.slice A9 m2.texts.length c9)
          have b0 : (w10.setCell ⟨g, 3, none⟩ (.slice A11 ql.length c11)).cell? ⟨g, 0, none⟩ = some (.int .i64 m2.kind) := blk_at HR11.out.box 0 rfl
          have b1 : (w10.setCell ⟨g, 3, none⟩ (.slice A11 ql.length c11)).cell? ⟨g, 1, none⟩ = some (.slice A8 m2.ints.length c8) := blk_at HR11.out.box 1 rfl
          have b2 : (w10.setCell ⟨g, 3, none⟩ (.slice A11 ql.length c11)).cell? ⟨g, 2, none⟩ = some (.slice A9 m2.texts.length c9) := blk_at HR11.out.box 2 rfl
          have b3 : (w10.setCell ⟨g, 3, none⟩ (.slice A11 ql.length c11)).cell? ⟨g, 3, none⟩ = some (.slice A11 ql.length c11) := blk_at HR11.out.box 3 rfl
          go_wp2
          have h4 := res4 HZ.out.1
          refine bodyPost_ret (v := .tuple #[.agg #[.int .i64 m2.kind, .slice A8 m2.ints.length c8, .slice A9 m2.texts.length c9, .slice A11 ql.length c11], .int .i64 0]) (by simp [results, Tryd.results91, go_sem, h4]) rfl
            ⟨_, _, _, by rw [HE3.out], by rw [HE3.out]; exact HZ.out.2.1, fun _ => ⟨cnt + 1, Nat.le_refl _, ?_⟩, HZ.out.2.2.1⟩
          rw [HBase.out]
          exact HB.out.grow HZ.out.2.2.1 HZ.out.2.2.2
        | false =>
          have HE3 := Aside0.mk (HE2.out.trans (if_neg Bool.false_ne_true))
          have HZ := Aside0.mk (HR11.out.retZ hmb)
          obtain ⟨e0, e0f, e1, e1f, e2, e2f, e3, e3f⟩ := slots4 HR11.out.res (.int .i64 0) (.slice none 0 0) (.slice none 0 0)
          go_wp2
          have h4 := res4 HZ.out.1
          exact bodyPost_ret (v := .tuple #[.agg #[.int .i64 0, .slice none 0 0, .slice none 0 0, .slice none 0 0], .int .i64 21]) (by simp [results, Tryd.results91, go_sem, h4]) rfl (OnePost.bad HE3.out HZ.out.2)
    · have HE := Aside0.mk (show changeN a.nodes base o = (nodez, 21) from if_neg (fun hh => htk hh.2))
      have HTk := Aside0.mk (Bool.eq_false_iff.2 htk)
      clear hem htk
      go_wp2_with fail
      refine (take_no w5 (HB.out.later HB5.out) o.base hb0 hb1 HTk.out).mono ?_
      rintro e w6 ⟨rfl, hB6⟩
      have hres6 := (hB6.block _ hrb5).trans HRes5.out
      have HZ := Aside0.mk (box4 hres6 (.int .i64 0) (.slice none 0 0) (.slice none 0 0) (.slice none 0 0))
      have HB6 := Aside0.mk (below_alloc (below_set4 (i0 := 0) (i1 := 1) (i2 := 2) (i3 := 3) (u0 := .int .i64 0) (u1 := .slice none 0 0) (u2 := .slice none 0 0) (u3 := .slice none 0 0) (below_step HB5.out hB6) (Nat.le_succ W.heap.size)) (.cells zeroN 26))
      have hrb6 : W.heap.size + 1 < w6.heap.size := blk_lt hres6
      obtain ⟨e0, e0f, e1, e1f, e2, e2f, e3, e3f⟩ := slots4 hres6 (.int .i64 0) (.slice none 0 0) (.slice none 0 0)
      clear hres6 hB6 k1
      go_wp2
      have h4 := res4a HZ.out (.cells zeroN 26)
      exact bodyPost_ret (v := .tuple #[.agg #[.int .i64 0, .slice none 0 0, .slice none 0 0, .slice none 0 0], .int .i64 21]) (by simp [results, Tryd.results91, go_sem, h4]) rfl (OnePost.bad HE.out (below_grown HB6.out))
  · have HE := Aside0.mk (show changeN a.nodes base o = (nodez, 21) from if_neg (fun hh => hem hh.1))
    rw [Bool.eq_false_iff.2 hem]
    have HZ := Aside0.mk (box4 HRes5.out (.int .i64 0) (.slice none 0 0) (.slice none 0 0) (.slice none 0 0))
    have HB6 := Aside0.mk (below_set4 (i0 := 0) (i1 := 1) (i2 := 2) (i3 := 3) (u0 := .int .i64 0) (u1 := .slice none 0 0) (u2 := .slice none 0 0) (u3 := .slice none 0 0) HB5.out (Nat.le_succ W.heap.size))
    obtain ⟨e0, e0f, e1, e1f, e2, e2f, e3, e3f⟩ := slots4 HRes5.out (.int .i64 0) (.slice none 0 0) (.slice none 0 0)
    clear hem k1
    go_wp2
    have h4 := res4 HZ.out
    exact bodyPost_ret (v := .tuple #[.agg #[.int .i64 0, .slice none 0 0, .slice none 0 0, .slice none 0 0], .int .i64 21]) (by simp [results, Tryd.results91, go_sem, h4]) rfl (OnePost.bad HE.out (below_grown HB6.out))
end
end Go.Proofs.YtglfebpgdghlfaaDoor.L
end
section
namespace Go.Proofs.YtglfebpgdghlfaaDoor.L
open Go.RowKit Go.ChangeShapes Go.WideShapes Go.Proofs.YtglfebpgdghlfaaDoorW.PrintWords Go.Proofs.YtglfebpgdghlfaaDoorW.PrintLast Go.Proofs.YtglfebpgdghlfaaDoorW.PrintMore
attribute [local go_sem] max2_int min2_int max_two min_two max_three min_three max_four min_four
def OkN (b : Nat) (n : Node) : Prop := n.ints.length ≤ 1000000 ∧ n.texts.length ≤ 1000000 ∧ n.kids.length ≤ b ∧ ∀ x ∈ n.texts, x.size ≤ 1000000
theorem OkN.small {b : Nat} {n : Node} (h : OkN b n) (hb : b ≤ 1000000) : Small n := ⟨h.1, h.2.1, Nat.le_trans h.2.2.1 hb⟩
theorem OkN.texts {b : Nat} {n : Node} (h : OkN b n) : TextsSmall n := fun j hj => by
  have h1 : str n.texts j = n.texts[j] := by unfold str; rw [List.getD_eq_getElem?_getD, List.getElem?_eq_getElem hj]; rfl
  rw [h1]
  exact h.2.2.2 _ (List.getElem_mem hj)
structure OpOk (o : Opn) : Prop where
  node : OkN 5000 o.node
  sets : o.sets.length ≤ 1000000
  script : o.script.length ≤ 1000
  strs : ∀ x ∈ o.sets, x.s.size ≤ 1000000
  k0 : -9223372036854775808 ≤ o.kind
  k1 : o.kind ≤ 9223372036854775807
  b0 : -9223372036854775808 ≤ o.base
  b1 : o.base ≤ 9223372036854775807
theorem setOne_texts {n m : Node} {x : SetV} (h : setOne n x = some m) : ∀ y ∈ m.texts, y ∈ n.texts ∨ y = x.s := by
  unfold setOne at h
  split at h
  · split at h
    · injection h with h
      subst h
      intro y hy
      rcases List.mem_or_eq_of_mem_set hy with h | h
      · exact .inl h
      · exact .inr h
    · cases h
  · split at h
    · injection h with h
      subst h
      exact fun y hy => .inl hy
    · cases h
theorem setAll_texts {l : List SetV} : ∀ {n m : Node}, setAll n l = some m → ∀ y ∈ m.texts, y ∈ n.texts ∨ ∃ x ∈ l, y = x.s := by
  induction l with
  | nil => intro n m h; injection h with h; subst h; exact fun y hy => .inl hy
  | cons x l ih =>
    intro n m h
    have h' : l.foldl setStep (setOne n x) = some m := h
    cases hx : setOne n x with
    | none =>
      rw [hx] at h'
      have hn : ∀ r : List SetV, r.foldl setStep none = none := fun r => by
        induction r with
        | nil => rfl
        | cons y r ih => exact ih
      rw [hn] at h'
      cases h'
    | some n1 =>
      rw [hx] at h'
      intro y hy
      rcases ih (n := n1) h' y hy with h1 | ⟨z, hz, e⟩
      · rcases setOne_texts hx y h1 with h2 | h2
        · exact .inl h2
        · exact .inr ⟨x, by simp, h2⟩
      · exact .inr ⟨z, by simp [hz], e⟩
theorem runE_len {a : List Int} {l : List Ed} : ∀ k, k ≤ l.length → ∀ o r, runE a (l.take k) = some (o, r) → o.length + r.length ≤ a.length + k := fun k => by
  induction k with
  | zero => intro _ o r h; rw [List.take_zero] at h; injection h with h; injection h with h1 h2; subst h1 h2; simp
  | succ k ih =>
    intro hk o r h
    rw [runE_step (by omega)] at h
    cases hp : runE a (l.take k) with
    | none => rw [hp] at h; cases h
    | some q =>
      obtain ⟨o1, r1⟩ := q
      have h1 := ih (by omega) o1 r1 hp
      rw [hp] at h
      unfold stepE at h
      simp only [] at h
      split at h
      · injection h with h; injection h with h2 h3; subst h2 h3; simp; omega
      · split at h
        · rename_i hh
          injection h with h; injection h with h2 h3; subst h2 h3
          rw [List.length_append, List.length_drop]
          split
          · rw [List.length_take]; omega
          · simp; omega
        · cases h
theorem app_len (a : List Int) (l : List Ed) : (app a l).1.length ≤ a.length + l.length := by
  unfold app
  split
  · rename_i o h
    have := runE_len (a := a) (l := l) l.length (Nat.le_refl _) o [] (by rw [List.take_length]; exact h)
    simpa using this
  · simp
theorem oneN_ok {a : List Node} {base : List Int} {o : Opn} (ha : ∀ i : Nat, i < a.length → OkN 4000 (nd a i)) (ho : OpOk o) (h0 : (oneN a base o).2 = 0) : OkN 5000 (oneN a base o).1 := by
  have img_ok : ∀ p : Int, takes a.length base p = true → OkN 4000 (imgN base (nd a p.toNat)) := fun p hp => by
    obtain ⟨h1, h2, _⟩ := of_decide_eq_true hp
    have h3 := ha p.toNat (by omega)
    exact ⟨h3.1, h3.2.1, by show (List.map _ _).length ≤ _; rw [List.length_map]; exact h3.2.2.1, h3.2.2.2⟩
  have bad : ∀ {b : Nat}, OkN b nodez := fun {b} => ⟨by simp [nodez], by simp [nodez], by simp [nodez], fun x hx => by simp [nodez] at hx⟩
  unfold oneN
  split
  · unfold keepN
    split
    · rename_i h
      have h1 := img_ok _ h.2.2.2
      exact ⟨h1.1, h1.2.1, Nat.le_trans h1.2.2.1 (by omega), h1.2.2.2⟩
    · exact bad
  · split
    · unfold changeN
      split
      · rename_i h
        have h1 := img_ok _ h.2
        unfold editN
        split
        · exact bad
        · rename_i m hm
          obtain ⟨g1, g2, g3, g4⟩ := setAll_kids hm
          have gt := setAll_texts hm
          split
          · refine ⟨by show m.ints.length ≤ _; rw [g2]; exact h1.1, by show m.texts.length ≤ _; rw [g3]; exact h1.2.1, ?_, fun x hx => ?_⟩
            · have := app_len m.kids o.script
              rw [g1] at this
              have h2 := h1.2.2.1
              have h3 := ho.script
              show (app m.kids o.script).1.length ≤ 5000
              rw [g1]
              omega
            · rcases gt x hx with h2 | ⟨y, hy, e⟩
              · exact h1.2.2.2 x h2
              · rw [e]; exact ho.strs y hy
          · exact bad
      · exact bad
    · split
      · unfold freshN
        split
        · exact ho.node
        · exact bad
      · exact bad
theorem rows_ok {out : List Node} (h : ∀ i : Nat, i < out.length → OkN 5000 (nd out i)) (hn : out.length ≤ 60) : rows out ≤ 400000 := by
  have h1 : rows out ≤ out.length * (5000 + 1) := by
    unfold rows
    have key : ∀ l : List Nat, (∀ x ∈ l, wt out x ≤ 5001) → (l.map (wt out)).sum ≤ l.length * 5001 := fun l => by
      induction l with
      | nil => intro _; simp
      | cons x l ih =>
        intro hl
        have h2 := ih (fun y hy => hl y (by simp [hy]))
        have h3 := hl x (by simp)
        rw [List.map_cons, List.sum_cons, List.length_cons, Nat.succ_mul]
        omega
    have := key (List.range out.length) (fun x hx => by
      have := (h x (List.mem_range.1 hx)).2.2.1
      unfold wt
      omega)
    rwa [List.length_range] at this
  have h2 : out.length * 5001 ≤ 60 * 5001 := Nat.mul_le_mul hn (Nat.le_refl _)
  omega
theorem nd_snoc {out : List Node} {m : Node} {P : Node → Prop} (h : ∀ i : Nat, i < out.length → P (nd out i)) (hm : P m) : ∀ i : Nat, i < (out ++ [m]).length → P (nd (out ++ [m]) i) := fun i hi => by
  rw [List.length_append, List.length_singleton] at hi
  by_cases e : i < out.length
  · have : nd (out ++ [m]) i = nd out i := by unfold nd; rw [List.getD_eq_getElem?_getD, List.getD_eq_getElem?_getD, List.getElem?_append_left e]
    rw [this]; exact h i e
  · have e' : i = out.length := by omega
    have : nd (out ++ [m]) i = m := by unfold nd; rw [List.getD_eq_getElem?_getD, List.getElem?_append_right (by omega), e']; simp
    rw [this]; exact hm
end Go.Proofs.YtglfebpgdghlfaaDoor.L
end
section
namespace Go.Proofs.YtglfebpgdghlfaaDoor.L
open Go.RowKit Go.ChangeShapes Go.WideShapes Go.Proofs.YtglfebpgdghlfaaDoorW.PrintWords Go.Proofs.YtglfebpgdghlfaaDoorW.PrintLast Go.Proofs.YtglfebpgdghlfaaDoorW.PrintMore
attribute [local go_sem] max2_int min2_int max_two min_two max_three min_three max_four min_four
theorem NodePost.bad {r : Node × Int} {w w' : World} (hr : r = (nodez, 21)) (hB : Below w.heap.size w w') : NodePost r w (.returned (.tuple #[.agg #[.int .i64 0, .slice none 0 0, .slice none 0 0, .slice none 0 0], .int .i64 21])) w' := by
  subst hr
  exact ⟨_, _, _, rfl, nodez_M _ _, hB⟩
structure OneBx (w : World) (A : Option Addr) (c : Nat) (a : Scene) (cs : Array Value) (W : World) : Prop where
  below : Below w.heap.size w W
  sb : W.heap[w.heap.size]? = some (.cells #[.slice A a.nodes.length c, .int .i64 a.root] 39 (0, 0))
  ob : W.heap[w.heap.size + 1]? = some (.cells cs 61 (0, 0))
  res : W.heap[w.heap.size + 2]? = some (.cells zeroN 26 (0, 0))
  non : W.heap[w.heap.size + 3]? = some (.cells zeroN 26 (0, 0))
theorem OneBx.later {w : World} {A : Option Addr} {c : Nat} {a : Scene} {cs : Array Value} {W W1 : World} (h : OneBx w A c a cs W) (hb : Below W.heap.size W W1) : OneBx w A c a cs W1 :=
  ⟨below_step h.below hb, (hb.block _ (blk_lt h.sb)).trans h.sb, (hb.block _ (blk_lt h.ob)).trans h.ob, (hb.block _ (blk_lt h.res)).trans h.res, (hb.block _ (blk_lt h.non)).trans h.non⟩
theorem OneBx.far {w : World} {A : Option Addr} {c : Nat} {a : Scene} {cs : Array Value} {W : World} {g i : Nat} (h : OneBx w A c a cs W) (hg : w.heap.size + 3 < g) (u : Value) : OneBx w A c a cs (W.setCell ⟨g, i, none⟩ u) :=
  ⟨below_set h.below (by omega), (Below.heap_setCell W ⟨g, i, none⟩ u _ (by show w.heap.size ≠ g; omega)).trans h.sb, (Below.heap_setCell W ⟨g, i, none⟩ u _ (by show w.heap.size + 1 ≠ g; omega)).trans h.ob, (Below.heap_setCell W ⟨g, i, none⟩ u _ (by show w.heap.size + 2 ≠ g; omega)).trans h.res, (Below.heap_setCell W ⟨g, i, none⟩ u _ (by show w.heap.size + 3 ≠ g; omega)).trans h.non⟩
theorem OneBx.far4 {w : World} {A : Option Addr} {c : Nat} {a : Scene} {cs : Array Value} {W : World} {g i0 i1 i2 i3 : Nat} (h : OneBx w A c a cs W) (hg : w.heap.size + 3 < g) (u0 u1 u2 u3 : Value) : OneBx w A c a cs ((((W.setCell ⟨g, i0, none⟩ u0).setCell ⟨g, i1, none⟩ u1).setCell ⟨g, i2, none⟩ u2).setCell ⟨g, i3, none⟩ u3) :=
  (((h.far hg u0).far hg u1).far hg u2).far hg u3
theorem OutRel.m {m : Node} {v1 v2 v3 : Value} {w : World} {rb g : Nat} {W : World} (h : OutRel m v1 v2 v3 w rb g W) : kNode.M W w.heap.size (fun _ => True) m [.int .i64 m.kind, v1, v2, v3] := kNode_mkM h.r1 h.r2 h.r3
end Go.Proofs.YtglfebpgdghlfaaDoor.L
end
section
namespace Go.Proofs.YtglfebpgdghlfaaDoor.L
open Go.RowKit Go.ChangeShapes Go.WideShapes Go.Proofs.YtglfebpgdghlfaaDoorW.PrintWords Go.Proofs.YtglfebpgdghlfaaDoorW.PrintLast Go.Proofs.YtglfebpgdghlfaaDoorW.PrintMore
attribute [local go_sem] max2_int min2_int max_two min_two max_three min_three max_four min_four
open Go.Proofs.YtglfebpgdghlfaaDoor.PUpgradeUps
structure LedInv (ns : List Node) (K : List Int) (met : List Bool) (vs work : List Int) : Prop where
  len : met.length = ns.length
  tell : ∀ i : Nat, i < ns.length → rdOf false met (i : Int) = decide ((i : Int) ∈ vs)
  vpl : ∀ x ∈ vs, 0 ≤ x ∧ x < (ns.length : Int)
  wpl : ∀ x ∈ work, 0 ≤ x ∧ x < (ns.length : Int)
  vin : ∀ x ∈ vs, Rch ns K x
  win : ∀ x ∈ work, Rch ns K x
  k0 : ∀ k ∈ K, k ∈ vs ∨ k ∈ work
  clo : ∀ x ∈ vs, ∀ k ∈ kids ns x, k ∈ vs ∨ k ∈ work
theorem LedInv.done {ns : List Node} {K : List Int} {met : List Bool} {vs : List Int} (h : LedInv ns K met vs []) (x : Int) : Rch ns K x ↔ x ∈ vs := by
  refine ⟨fun hr => ?_, h.vin x⟩
  induction hr with
  | base hk => exact (h.k0 _ hk).resolve_right (by simp)
  | step _ hk ih => exact (h.clo _ ih _ hk).resolve_right (by simp)
theorem LedInv.meet {ns : List Node} {K : List Int} {met : List Bool} {vs work : List Int} {x : Int} (hP : Places ns) (h : LedInv ns K met vs (x :: work)) (hx : ¬ x ∈ vs) : LedInv ns K (met.set x.toNat true) (x :: vs) (work ++ kids ns x) := by
  have hxp := h.wpl x (by simp)
  obtain ⟨q, rfl⟩ : ∃ q : Nat, x = (q : Int) := ⟨x.toNat, by omega⟩
  have hkp : ∀ k ∈ kids ns q, 0 ≤ k ∧ k < (ns.length : Int) := fun k hk => hP q (by omega) k hk
  refine ⟨by rw [List.length_set]; exact h.len, fun i hi => ?_, fun y hy => ?_, fun y hy => ?_, fun y hy => ?_, fun y hy => ?_, fun k hk => ?_, fun y hy k hk => ?_⟩
  · have ht := h.tell i hi
    unfold rdOf at ht ⊢
    rw [Int.toNat_natCast] at ht ⊢
    rw [Int.toNat_natCast, List.getD_eq_getElem?_getD, List.getElem?_set]
    rw [List.getD_eq_getElem?_getD] at ht
    by_cases e : q = i
    · subst e
      rw [if_pos rfl, if_pos (by rw [h.len]; exact hi)]
      simp
    · rw [if_neg e, ht]
      have : ((i : Int) ∈ (q : Int) :: vs) ↔ (i : Int) ∈ vs := by
        rw [List.mem_cons]
        exact ⟨fun h => h.resolve_left (fun e' => e (by omega)), .inr⟩
      exact decide_eq_decide.2 this.symm
  · rcases List.mem_cons.1 hy with rfl | hy
    · exact hxp
    · exact h.vpl y hy
  · rcases List.mem_append.1 hy with hy | hy
    · exact h.wpl y (by simp [hy])
    · exact hkp y hy
  · rcases List.mem_cons.1 hy with rfl | hy
    · exact h.win _ (by simp)
    · exact h.vin y hy
  · rcases List.mem_append.1 hy with hy | hy
    · exact h.win y (by simp [hy])
    · exact .step (h.win _ (List.mem_cons_self)) hy
  · rcases h.k0 k hk with hm | hm
    · exact .inl (by simp [hm])
    · rcases List.mem_cons.1 hm with rfl | hm
      · exact .inl (by simp)
      · exact .inr (by simp [hm])
  · rcases List.mem_cons.1 hy with rfl | hy
    · exact .inr (by simp [hk])
    · rcases h.clo y hy k hk with hm | hm
      · exact .inl (by simp [hm])
      · rcases List.mem_cons.1 hm with rfl | hm
        · exact .inl (by simp)
        · exact .inr (by simp [hm])
end Go.Proofs.YtglfebpgdghlfaaDoor.L
end
section
namespace Go.Proofs.YtglfebpgdghlfaaDoor.L
open Go.RowKit Go.ChangeShapes Go.WideShapes Go.Proofs.YtglfebpgdghlfaaDoorW.PrintWords Go.Proofs.YtglfebpgdghlfaaDoorW.PrintLast Go.Proofs.YtglfebpgdghlfaaDoorW.PrintMore
attribute [local go_sem] max2_int min2_int max_two min_two max_three min_three max_four min_four
open Go.Proofs.YtglfebpgdghlfaaDoor.PUpgradeUps
structure Iso (ns ms : List Node) (f : Int → Int) : Prop where
  len : ns.length = ms.length
  pl : ∀ x, Pl ms x → Pl ns (f x)
  inj : ∀ x y, Pl ms x → Pl ms y → f x = f y → x = y
  nd : ∀ x, Pl ms x → nd ns (f x).toNat = ⟨(nd ms x.toNat).kind, (nd ms x.toNat).ints, (nd ms x.toNat).texts, (kids ms x).map f⟩
theorem Iso.kids {ns ms : List Node} {f : Int → Int} (h : Iso ns ms f) {x : Int} (hx : Pl ms x) : L.kids ns (f x) = (L.kids ms x).map f := by
  show (L.nd ns (f x).toNat).kids = _
  rw [h.nd x hx]
theorem Iso.mem {ns ms : List Node} {f : Int → Int} (h : Iso ns ms f) {x : Int} (hx : Pl ms x) {l : List Int} (hl : ∀ y ∈ l, Pl ms y) : f x ∈ l.map f ↔ x ∈ l := by
  refine ⟨fun hm => ?_, fun hm => List.mem_map_of_mem hm⟩
  obtain ⟨y, hy, e⟩ := List.mem_map.1 hm
  rw [h.inj x y hx (hl y hy) e.symm]; exact hy
theorem kids_pl {ms : List Node} (hP : Places ms) {x : Int} (hx : Pl ms x) : ∀ k ∈ kids ms x, Pl ms k := fun k hk => hP x.toNat (by have := hx.1; have := hx.2; omega) k hk
theorem Iso.meet {ns ms : List Node} {f : Int → Int} (h : Iso ns ms f) (hP : Places ms) : ∀ (m : Nat) (a : Int) (met : List Int), Pl ms a → (∀ x ∈ met, Pl ms x) →
    L.meet ns m (f a) (met.map f) = (L.meet ms m a met).map f ∧ ∀ x ∈ L.meet ms m a met, Pl ms x
  | 0, a, met, _, hm => ⟨rfl, hm⟩
  | m + 1, a, met, ha, hm => by
    unfold L.meet
    by_cases hin : a ∈ met
    · rw [if_pos hin, if_pos ((h.mem ha hm).2 hin)]
      exact ⟨rfl, hm⟩
    · rw [if_neg hin, if_neg (fun e => hin ((h.mem ha hm).1 e)), h.kids ha, List.foldl_map]
      have key : ∀ (l met : List Int), (∀ k ∈ l, Pl ms k) → (∀ x ∈ met, Pl ms x) →
          l.foldl (fun v k => L.meet ns m (f k) v) (met.map f) = (l.foldl (fun v k => L.meet ms m k v) met).map f ∧ ∀ x ∈ l.foldl (fun v k => L.meet ms m k v) met, Pl ms x := by
        intro l
        induction l with
        | nil => intro met _ hm; exact ⟨rfl, hm⟩
        | cons k l ih =>
          intro met hl hm
          obtain ⟨e1, e2⟩ := Iso.meet h hP m k met (hl k (by simp)) hm
          rw [List.foldl_cons, List.foldl_cons, e1]
          exact ih _ (fun y hy => hl y (by simp [hy])) e2
      obtain ⟨e1, e2⟩ := key (L.kids ms a) met (kids_pl hP ha) hm
      refine ⟨?_, fun x hx => ?_⟩
      · rw [List.map_append, ← e1]; rfl
      · rcases List.mem_append.1 hx with hx | hx
        · exact e2 x hx
        · rw [List.mem_singleton.1 hx]; exact ha
theorem Iso.rch {ns ms : List Node} {f : Int → Int} (h : Iso ns ms f) (hP : Places ms) {l : List Int} (hl : ∀ k ∈ l, Pl ms k) {x : Int} (hr : Rch ms l x) : Rch ns (l.map f) (f x) ∧ Pl ms x := by
  induction hr with
  | base hk => exact ⟨.base (List.mem_map_of_mem hk), hl _ hk⟩
  | step _ hk ih => exact ⟨.step ih.1 (by rw [h.kids ih.2]; exact List.mem_map_of_mem hk), kids_pl hP ih.2 _ hk⟩
theorem Iso.dag {ns ms : List Node} {f : Int → Int} (h : Iso ns ms f) (hP : Places ms) (hc : ∀ p : Nat, p < ns.length → ¬ Cyc ns p) : Dag ms := by
  refine ⟨hP, fun p hp hcy => ?_⟩
  have hx : Pl ms (p : Int) := ⟨by omega, by omega⟩
  have h1 := (h.rch hP (kids_pl hP hx) hcy).1
  rw [← h.kids hx] at h1
  have hpl := h.pl _ hx
  obtain ⟨q, hq⟩ : ∃ q : Nat, f (p : Int) = (q : Int) := ⟨(f p).toNat, by have := hpl.1; omega⟩
  rw [hq] at h1 hpl
  exact hc q (by have := hpl.2; omega) h1
theorem idxOf_map {f : Int → Int} {P : Int → Prop} (hf : ∀ x y, P x → P y → f x = f y → x = y) {k : Int} (hk : P k) : ∀ l : List Int, (∀ y ∈ l, P y) → (l.map f).idxOf (f k) = l.idxOf k
  | [], _ => rfl
  | y :: l, h => by
    rw [List.map_cons, List.idxOf_cons, List.idxOf_cons, idxOf_map hf hk l (fun z hz => h z (by simp [hz]))]
    by_cases e : y = k
    · rw [e]; simp
    · have : ¬ f y = f k := fun e' => e (hf y k (h y (by simp)) hk e')
      rw [beq_eq_false_iff_ne.2 e, beq_eq_false_iff_ne.2 this]
theorem Iso.ord {s t : Scene} {f : Int → Int} (h : Iso s.nodes t.nodes f) (hP : Places t.nodes) (hr : Pl t.nodes t.root) (he : s.root = f t.root) : L.ord s = (L.ord t).map f ∧ ∀ x ∈ L.ord t, Pl t.nodes x := by
  unfold L.ord M
  rw [he, h.len]
  exact h.meet hP _ _ [] hr (fun x hx => by simp at hx)
theorem Iso.canonL {s t : Scene} {f : Int → Int} (h : Iso s.nodes t.nodes f) (hP : Places t.nodes) (hr : Pl t.nodes t.root) (he : s.root = f t.root) : L.canonL s = L.canonL t := by
  obtain ⟨ho, hop⟩ := h.ord hP hr he
  unfold L.canonL
  rw [ho, List.map_map]
  refine List.map_congr_left (fun a ha => ?_)
  have hap := hop a ha
  show relab s (L.nd s.nodes (f a).toNat) = relab t (L.nd t.nodes a.toNat)
  unfold relab
  rw [h.nd a hap]
  show Node.mk _ _ _ _ = Node.mk _ _ _ _
  congr 1
  rw [List.map_map]
  refine List.map_congr_left (fun k hk => ?_)
  show ((idx s (f k) : Nat) : Int) = (idx t k : Int)
  unfold idx
  rw [ho, idxOf_map (P := Pl t.nodes) h.inj (kids_pl hP hap k hk) _ hop]
theorem Shut.len {ns : List Node} {m : List Int} (h : Shut ns m) : m.length ≤ ns.length := nodup_len h.nd h.pl
end Go.Proofs.YtglfebpgdghlfaaDoor.L
end
section
namespace Go.Proofs.YtglfebpgdghlfaaDoor.L
open Go.RowKit Go.ChangeShapes Go.WideShapes Go.Proofs.YtglfebpgdghlfaaDoorW.PrintWords Go.Proofs.YtglfebpgdghlfaaDoorW.PrintLast Go.Proofs.YtglfebpgdghlfaaDoorW.PrintMore
attribute [local go_sem] max2_int min2_int max_two min_two max_three min_three max_four min_four
open Go.Proofs.YtglfebpgdghlfaaDoor.PUpgradeUps
def isTr (n : Node) : Bool := decide (n.kind = 2)
def lows (ns : List Node) (n : Nat) : List Nat := (List.range n).filter (fun p => isTr (nd ns p))
def cnt (ns : List Node) (n : Nat) : Nat := (lows ns n).length
end Go.Proofs.YtglfebpgdghlfaaDoor.L
end
section
namespace Go.Proofs.YtglfebpgdghlfaaDoor.L
open Go.RowKit Go.ChangeShapes Go.WideShapes Go.Proofs.YtglfebpgdghlfaaDoorW.PrintWords Go.Proofs.YtglfebpgdghlfaaDoorW.PrintLast Go.Proofs.YtglfebpgdghlfaaDoorW.PrintMore
attribute [local go_sem] max2_int min2_int max_two min_two max_three min_three max_four min_four
def maxl (l : List Nat) : Nat := l.foldl max 0
theorem maxl_snoc (l : List Nat) (x : Nat) : maxl (l ++ [x]) = max (maxl l) x := by unfold maxl; rw [List.foldl_append]; rfl
def hgt (ns : List Node) : Nat → Int → Nat
  | 0, _ => 0
  | f + 1, a => maxl ((kids ns a).map (hgt ns f)) + 1
theorem hgt_fuel {ns : List Node} (h : Dag ns) : ∀ (f g : Nat) (a : Int), Pl ns a → reachN ns a < f → reachN ns a < g → hgt ns f a = hgt ns g a
  | 0, _, _, _, hf, _ => by omega
  | f + 1, 0, _, _, _, hg => by omega
  | f + 1, g + 1, a, ha, hf, hg => by
    unfold hgt
    congr 2
    exact List.map_congr_left (fun k hk => hgt_fuel h f g k (h.kid ha hk) (by have := h.lower ha hk; omega) (by have := h.lower ha hk; omega))
def H (ns : List Node) (a : Int) : Nat := hgt ns (ns.length + 1) a
theorem H_eq {ns : List Node} (h : Dag ns) {a : Int} (ha : Pl ns a) : H ns a = maxl ((kids ns a).map (H ns)) + 1 := by
  unfold H
  conv => lhs; unfold hgt
  congr 2
  refine List.map_congr_left (fun k hk => hgt_fuel h _ _ k (h.kid ha hk) ?_ ?_)
  · have := h.lower ha hk; have := reachN_le ns a; omega
  · have := reachN_le ns k; omega
structure DpInv (ns : List Node) (L : List Int) (i j : Nat) (deep : List Int) : Prop where
  len : deep.length = ns.length
  tell : ∀ p : Nat, p < ns.length → (p : Int) ∈ L.take i → rd deep (p : Int) = (H ns (p : Int) : Int)
  rest : ∀ p : Nat, p < ns.length → ¬ (p : Int) ∈ L.take i → rd deep (p : Int) = if rd L (i : Int) = (p : Int) ∧ i < L.length then (maxl (((kids ns (p : Int)).take j).map (H ns)) : Int) else 0
theorem rd_setN {l : List Int} {q p : Nat} {v : Int} (hq : q < l.length) : rd (l.set q v) (p : Int) = if p = q then v else rd l (p : Int) := by
  unfold rd
  rw [Int.toNat_natCast, List.getD_eq_getElem?_getD, List.getD_eq_getElem?_getD, List.getElem?_set]
  by_cases e : p = q
  · subst e; rw [if_pos rfl, if_pos rfl, if_pos hq]; rfl
  · rw [if_neg e, if_neg (fun h => e h.symm)]
theorem DpInv.start (ns : List Node) (L : List Int) : DpInv ns L 0 0 (List.replicate ns.length 0) := by
  have hz : ∀ p : Nat, rd (List.replicate ns.length 0) (p : Int) = 0 := fun p => by
    unfold rd
    rw [Int.toNat_natCast, List.getD_eq_getElem?_getD, List.getElem?_replicate]
    split <;> rfl
  refine ⟨by simp, fun p _ h => by simp at h, fun p _ _ => ?_⟩
  rw [hz]
  split
  · rw [List.take_zero]; rfl
  · rfl
theorem take_not {L : List Int} (hnd : L.Nodup) {i : Nat} (hi : i < L.length) : ¬ rd L (i : Int) ∈ L.take i := fun hm => by
  obtain ⟨m, hm', e⟩ := List.getElem_of_mem hm
  rw [List.length_take] at hm'
  rw [List.getElem_take, rd_eq hi] at e
  have := (List.getElem_inj hnd).1 e
  omega
theorem DpInv.kid {ns : List Node} {L : List Int} {i j q k : Nat} {deep : List Int} (hT : Topo ns L) (h : DpInv ns L i j deep) (hi : i < L.length) (hq : rd L (i : Int) = (q : Int)) (hqn : q < ns.length) (hj : j < (kids ns (q : Int)).length) (hk : rd (kids ns (q : Int)) (j : Int) = (k : Int)) (hkn : k < ns.length) :
    rd deep (q : Int) = (maxl (((kids ns (q : Int)).take j).map (H ns)) : Int) ∧ rd deep (k : Int) = (H ns (k : Int) : Int) ∧ DpInv ns L i (j + 1) (deep.set q ((max (maxl (((kids ns (q : Int)).take j).map (H ns))) (H ns (k : Int)) : Nat) : Int)) := by
  have hnq : ¬ (q : Int) ∈ L.take i := by rw [← hq]; exact take_not hT.nd hi
  have h1 := h.rest q hqn hnq
  rw [if_pos ⟨hq, hi⟩] at h1
  have hkm : (k : Int) ∈ L.take i := by
    refine hT.ahead i hi _ ?_
    rw [hq, ← hk]
    exact rd_mem hj
  refine ⟨h1, h.tell k hkn hkm, by rw [List.length_set]; exact h.len, fun p hp hm => ?_, fun p hp hm => ?_⟩
  · rw [rd_setN (by rw [h.len]; exact hqn), if_neg (fun e => hnq (by rw [← e]; exact hm))]
    exact h.tell p hp hm
  · rw [rd_setN (by rw [h.len]; exact hqn)]
    by_cases e : p = q
    · subst e
      rw [if_pos rfl, if_pos ⟨hq, hi⟩, take_succ_rd hj, List.map_append, hk]
      show _ = ((maxl (_ ++ [H ns (k : Int)]) : Nat) : Int)
      rw [maxl_snoc]
    · have h2 := h.rest p hp hm
      rw [if_neg (fun hh => e (by have := hh.1; rw [hq] at this; omega))] at h2
      rw [if_neg e, if_neg (fun hh => e (by have := hh.1; rw [hq] at this; omega))]
      exact h2
theorem DpInv.node {ns : List Node} {L : List Int} {i q : Nat} {deep : List Int} (hd : Dag ns) (hT : Topo ns L) (h : DpInv ns L i (kids ns (q : Int)).length deep) (hi : i < L.length) (hq : rd L (i : Int) = (q : Int)) (hqn : q < ns.length) :
    rd deep (q : Int) + 1 = (H ns (q : Int) : Int) ∧ DpInv ns L (i + 1) 0 (deep.set q (H ns (q : Int) : Int)) := by
  have hnq : ¬ (q : Int) ∈ L.take i := by rw [← hq]; exact take_not hT.nd hi
  have h1 := h.rest q hqn hnq
  rw [if_pos ⟨hq, hi⟩, List.take_length] at h1
  have hH := H_eq hd (a := (q : Int)) ⟨by omega, by omega⟩
  have htk : L.take (i + 1) = L.take i ++ [(q : Int)] := by rw [take_succ_rd hi, hq]
  refine ⟨by rw [h1, hH]; rfl, by rw [List.length_set]; exact h.len, fun p hp hm => ?_, fun p hp hm => ?_⟩
  · rw [rd_setN (by rw [h.len]; exact hqn)]
    by_cases e : p = q
    · subst e; rw [if_pos rfl]
    · rw [if_neg e]
      rw [htk] at hm
      rcases List.mem_append.1 hm with hm | hm
      · exact h.tell p hp hm
      · exact absurd (List.mem_singleton.1 hm) (fun e' => e (by omega))
  · rw [htk] at hm
    have e : ¬ p = q := fun e => hm (by rw [e]; simp)
    rw [rd_setN (by rw [h.len]; exact hqn), if_neg e, List.take_zero]
    have h2 := h.rest p hp (fun hh => hm (List.mem_append_left _ hh))
    rw [if_neg (fun hh => e (by have := hh.1; rw [hq] at this; omega))] at h2
    rw [h2]
    split <;> rfl
structure DpRel (s : Scene) (L : List Int) (w : World) (A : Option Addr) (c g cd : Nat) (Ao : Option Addr) (co i j : Nat) (deep : List Int) (W : World) : Prop where
  inv : DpInv s.nodes L i j deep
  row : (Kd.int .i64).R 3 W w.heap.size (fun _ => True) (.slice (some ⟨g, 0, none⟩) s.nodes.length cd) deep
  ord : (Kd.int .i64).R 3 W w.heap.size (fun k => k ≠ g) (.slice Ao L.length co) L
  box : W.heap[w.heap.size]? = some (.cells #[.slice A s.nodes.length c, .int .i64 s.root] 39 (0, 0))
  below : Below w.heap.size w W
theorem DpRel.drew {s : Scene} {L : List Int} {w : World} {A : Option Addr} {c g cd : Nat} {Ao : Option Addr} {co i j : Nat} {deep : List Int} {W : World} (h : DpRel s L w A c g cd Ao co i j deep W) : DpRel s L w A c g cd Ao co i j deep W.drew :=
  ⟨h.inv, Kd.R_drew h.row, Kd.R_drew h.ord, h.box, below_drew h.below⟩
theorem DpRel.put {s : Scene} {L : List Int} {w : World} {A : Option Addr} {c g cd : Nat} {Ao : Option Addr} {co i j i' j' q : Nat} {deep : List Int} {W : World} {v : Int} (h : DpRel s L w A c g cd Ao co i j deep W) (hq : q < s.nodes.length) (hi : DpInv s.nodes L i' j' (deep.set q v)) :
    DpRel s L w A c g cd Ao co i' j' (deep.set q v) (W.setCell ⟨g, q, none⟩ (.int .i64 v)) := by
  obtain ⟨s1, s2, s3⟩ := ints_store h.row q hq v
  exact ⟨hi, s1, Kd.R_far (p := ⟨g, q, none⟩) h.ord (fun k hk => hk) _, blk_grown h.box s2 (Kd.R_ne h.row h.box (by decide)), below_set h.below s3⟩
end Go.Proofs.YtglfebpgdghlfaaDoor.L
end
section
namespace Go.Proofs.YtglfebpgdghlfaaDoor.L
open Go.RowKit Go.ChangeShapes Go.WideShapes Go.Proofs.YtglfebpgdghlfaaDoorW.PrintWords Go.Proofs.YtglfebpgdghlfaaDoorW.PrintLast Go.Proofs.YtglfebpgdghlfaaDoorW.PrintMore
attribute [local go_sem] max2_int min2_int max_two min_two max_three min_three max_four min_four
theorem canon_iso {s : Scene} (h : Right s) : Iso (canonL s) s.nodes (fun x => (idx s x : Int)) := by
  have hlen : (canonL s).length = s.nodes.length := by
    have := ord_len h
    simp [canonL, this]
  refine ⟨hlen, fun x hx => ?_, fun x y hx hy he => ?_, fun x hx => ?_⟩
  · obtain ⟨q, rfl⟩ : ∃ q : Nat, x = (q : Int) := ⟨x.toNat, by have := hx.1; omega⟩
    have := (at_idx h (p := q) (by have := hx.2; omega)).1
    exact ⟨by omega, by omega⟩
  · obtain ⟨q, rfl⟩ : ∃ q : Nat, x = (q : Int) := ⟨x.toNat, by have := hx.1; omega⟩
    obtain ⟨r, rfl⟩ : ∃ r : Nat, y = (r : Int) := ⟨y.toNat, by have := hy.1; omega⟩
    have := idx_inj h (p := q) (q := r) (by have := hx.2; omega) (by have := hy.2; omega) (by
      have he' : (idx s (q : Int) : Int) = (idx s (r : Int) : Int) := he
      omega)
    rw [this]
  · obtain ⟨q, rfl⟩ : ∃ q : Nat, x = (q : Int) := ⟨x.toNat, by have := hx.1; omega⟩
    obtain ⟨h1, h2⟩ := at_idx h (p := q) (by have := hx.2; omega)
    show nd (canonL s) ((idx s (q : Int) : Int)).toNat = _
    rw [Int.toNat_natCast]
    have hl : idx s (q : Int) < (ord s).length := by rw [ord_len h]; exact h1
    unfold canonL
    unfold nd
    rw [List.getD_eq_getElem?_getD, List.getElem?_map, List.getElem?_eq_getElem hl]
    have h3 : (ord s)[idx s (q : Int)] = (q : Int) := (rd_eq hl).symm.trans h2
    rw [h3]
    rfl
theorem canon_root {s : Scene} (h : Right s) : (s.nodes.length : Int) - 1 = (idx s s.root : Int) := by
  have hpl : Pl s.nodes s.root := ⟨h.r0, h.r1⟩
  have ho : ord s = ML s.nodes (kids s.nodes s.root) [] ++ [s.root] := by
    show M s.nodes s.root [] = _
    exact M_out h.dag hpl (by simp)
  have hl := ord_len h
  have hnd := ord_nodup h
  rw [ho] at hl hnd
  rw [List.length_append, List.length_singleton] at hl
  have hni : ¬ s.root ∈ ML s.nodes (kids s.nodes s.root) [] := fun hm => by
    exact (List.nodup_append.1 hnd).2.2 s.root hm s.root (by simp) rfl
  unfold idx
  rw [ho, List.idxOf_append, if_neg hni]
  simp
  omega
theorem canon_right {s : Scene} (h : Right s) : Right ⟨canonL s, (s.nodes.length : Int) - 1⟩ := by
  have hi := canon_iso h
  have hlen : (canonL s).length = s.nodes.length := hi.len
  have hn : 0 < s.nodes.length := by have := h.r0; have := h.r1; omega
  have hsur : ∀ m : Nat, m < (canonL s).length → ∃ q : Nat, q < s.nodes.length ∧ (m : Int) = (idx s (q : Int) : Int) := fun m hm => by
    obtain ⟨q, hq, hqn⟩ := ord_at h (m := m) (by omega)
    refine ⟨q, hqn, ?_⟩
    have := idx_at h (m := m) (by omega)
    rw [hq] at this
    rw [this]
  refine ⟨by show 0 ≤ (s.nodes.length : Int) - 1; omega, by show (s.nodes.length : Int) - 1 < ((canonL s).length : Int); omega, fun m hm k hk => ?_, fun m hm hc => ?_, fun m hm => ?_⟩
  · obtain ⟨q, hq, e⟩ := hsur m hm
    have hkk : k ∈ kids (canonL s) (idx s (q : Int) : Int) := by rw [← e]; unfold kids; rw [Int.toNat_natCast]; exact hk
    rw [hi.kids ⟨by omega, by omega⟩] at hkk
    obtain ⟨x, hx, rfl⟩ := List.mem_map.1 hkk
    exact hi.pl x (kids_pl h.pl ⟨by omega, by omega⟩ x hx)
  · obtain ⟨q, hq, e⟩ := hsur m hm
    have hqp : Pl s.nodes (q : Int) := ⟨by omega, by omega⟩
    have back : ∀ (l : List Int), (∀ k ∈ l, Pl s.nodes k) → ∀ y, Rch (canonL s) (l.map (fun x => (idx s x : Int))) y → ∃ x, Pl s.nodes x ∧ y = (idx s x : Int) ∧ Rch s.nodes l x := fun l hl y hy => by
      induction hy with
      | base hk =>
        obtain ⟨x, hx, rfl⟩ := List.mem_map.1 hk
        exact ⟨x, hl x hx, rfl, .base hx⟩
      | step _ hk ih =>
        obtain ⟨x, hx, rfl, hrx⟩ := ih
        rw [hi.kids hx] at hk
        obtain ⟨z, hz, rfl⟩ := List.mem_map.1 hk
        exact ⟨z, kids_pl h.pl hx z hz, rfl, .step hrx hz⟩
    have hc' : Rch (canonL s) (kids (canonL s) (m : Int)) (m : Int) := hc
    rw [e, hi.kids hqp] at hc'
    obtain ⟨x, hx, ex, hrx⟩ := back _ (kids_pl h.pl hqp) _ hc'
    have := hi.inj _ _ hqp hx ex
    rw [← this] at hrx
    exact h.cyc q hq hrx
  · obtain ⟨q, hq, e⟩ := hsur m hm
    rw [e]
    have h1 := (hi.rch h.pl (l := [s.root]) (fun k hk => by rw [List.mem_singleton.1 hk]; exact ⟨h.r0, h.r1⟩) (h.all q hq)).1
    show Rch (canonL s) [(s.nodes.length : Int) - 1] _
    rw [canon_root h]
    exact h1
end Go.Proofs.YtglfebpgdghlfaaDoor.L
end
section
namespace Go.Proofs.YtglfebpgdghlfaaDoor.L
open Go.RowKit Go.ChangeShapes Go.WideShapes Go.Proofs.YtglfebpgdghlfaaDoorW.PrintWords Go.Proofs.YtglfebpgdghlfaaDoorW.PrintLast Go.Proofs.YtglfebpgdghlfaaDoorW.PrintMore
attribute [local go_sem] max2_int min2_int max_two min_two max_three min_three max_four min_four
theorem isC_right {s : Scene} (h : isC s = true) : Right s := by
  have h1 := (of_decide_eq_true h).2
  refine gcheck_right.1 (Classical.byContradiction fun hn => ?_)
  unfold nums at h1
  rw [if_neg hn] at h1
  simp at h1
theorem ord_iota {s : Scene} (h : Right s) : (ord s).map (fun x => (idx s x : Int)) = iota s.nodes.length := by
  have hl := ord_len h
  refine List.ext_getElem (by rw [List.length_map, hl, iota_len]) (fun m h1 h2 => ?_)
  rw [List.length_map] at h1
  rw [List.getElem_map]
  have h3 := idx_at h (m := m) (by omega)
  rw [rd_eq h1] at h3
  rw [h3]
  have h4 := iota_rd s.nodes.length m (by omega)
  rw [rd_eq h2] at h4
  exact h4.symm
theorem canon_ord {s : Scene} (h : Right s) : ord ⟨canonL s, (s.nodes.length : Int) - 1⟩ = iota s.nodes.length := by
  have hi := canon_iso h
  have := (hi.ord (s := ⟨canonL s, (s.nodes.length : Int) - 1⟩) h.pl ⟨h.r0, h.r1⟩ (canon_root h)).1
  rw [this]
  exact ord_iota h
theorem idxOf_iota (n p : Nat) (h : p < n) : (iota n).idxOf (p : Int) = p := by
  have hp : p < (iota n).length := by rw [iota_len]; exact h
  have hnd : (iota n).Nodup := by
    unfold iota
    refine List.pairwise_map.2 (List.Pairwise.imp ?_ List.nodup_range)
    intro a b hab e
    exact hab (by omega)
  have e : (iota n)[p] = (p : Int) := by have := iota_rd n p h; rwa [rd_eq hp] at this
  have := hnd.idxOf_getElem p hp
  rwa [e] at this
theorem canon_isC {s : Scene} (h : Right s) : isC ⟨canonL s, (s.nodes.length : Int) - 1⟩ = true := by
  have hr := canon_right h
  have hlen : (canonL s).length = s.nodes.length := (canon_iso h).len
  have hn : 0 < s.nodes.length := by have := h.r0; have := h.r1; omega
  have hnum : nums ⟨canonL s, (s.nodes.length : Int) - 1⟩ = iota s.nodes.length := by
    unfold nums
    rw [if_pos (gcheck_right.2 hr)]
    unfold numsL
    show (List.range (canonL s).length).map _ = _
    rw [hlen]
    unfold iota
    refine List.map_congr_left (fun p hp => ?_)
    unfold idx
    rw [canon_ord h, idxOf_iota _ _ (List.mem_range.1 hp)]
  refine decide_eq_true ?_
  rw [hnum, iota_len]
  exact ⟨rfl, hn⟩
theorem isC_idx {s : Scene} (h : Right s) (hc : isC s = true) {p : Nat} (hp : p < s.nodes.length) : idx s (p : Int) = p := by
  have h1 := (of_decide_eq_true hc).1
  have h2 : nums s = numsL s := by unfold nums; rw [if_pos (gcheck_right.2 h)]
  rw [h2, numsL_len] at h1
  have h3 := numsL_rd s p hp
  rw [h1, iota_rd _ _ hp] at h3
  omega
theorem isC_eq {s : Scene} (h : Right s) (hc : isC s = true) : s = ⟨canonL s, (s.nodes.length : Int) - 1⟩ := by
  have hlen : (canonL s).length = s.nodes.length := (canon_iso h).len
  have hroot : s.root = (s.nodes.length : Int) - 1 := by
    have h1 := canon_root h
    obtain ⟨r, hr⟩ : ∃ r : Nat, s.root = (r : Int) := ⟨s.root.toNat, by have := h.r0; omega⟩
    rw [hr] at h1
    rw [isC_idx h hc (p := r) (by have := h.r1; omega)] at h1
    omega
  have hnodes : s.nodes = canonL s := by
    refine List.ext_getElem hlen.symm (fun p h1 h2 => ?_)
    have h3 := (canon_iso h).nd (p : Int) ⟨by omega, by omega⟩
    rw [isC_idx h hc h1, Int.toNat_natCast] at h3
    unfold nd kids nd at h3
    rw [Int.toNat_natCast, getD_eq _ h2, getD_eq _ h1] at h3
    rw [h3]
    generalize hx : s.nodes[p] = x
    have hk : ∀ k ∈ x.kids, Pl s.nodes k := fun k hk => h.pl p h1 k (by unfold nd; rw [getD_eq _ h1, hx]; exact hk)
    have e : x.kids.map (fun x => (idx s x : Int)) = x.kids := by
      conv => rhs; rw [← List.map_id x.kids]
      refine List.map_congr_left (fun k hkk => ?_)
      have hkp := hk k hkk
      obtain ⟨q, rfl⟩ : ∃ q : Nat, k = (q : Int) := ⟨k.toNat, by have := hkp.1; omega⟩
      show ((idx s (q : Int) : Nat) : Int) = _
      rw [isC_idx h hc (by have := hkp.2; omega)]
      rfl
    cases x
    simp only at e ⊢
    rw [e]
  cases s
  simp only at hnodes hroot ⊢
  congr 1
theorem isC_iff {s : Scene} (h : Right s) : isC s = true ↔ (⟨canonL s, (s.nodes.length : Int) - 1⟩ : Scene) = s :=
  ⟨fun hc => (isC_eq h hc).symm, fun e => by have := canon_isC h; rwa [e] at this⟩
end Go.Proofs.YtglfebpgdghlfaaDoor.L
end
section
namespace Go.Proofs.YtglfebpgdghlfaaDoor.L
open Go.RowKit Go.ChangeShapes Go.WideShapes Go.Proofs.YtglfebpgdghlfaaDoorW.PrintWords Go.Proofs.YtglfebpgdghlfaaDoorW.PrintLast Go.Proofs.YtglfebpgdghlfaaDoorW.PrintMore
attribute [local go_sem] max2_int min2_int max_two min_two max_three min_three max_four min_four
theorem drew_alloc' (W : World) (o : Obj) : (W.alloc o).drew = W.drew.alloc o := rfl
abbrev fB (b n : Nat) : Value := .func (.func n) #[.pointer (some ⟨b, 0, none⟩)] #[]
noncomputable def doF (b : Nat) : Lit → Option Value := putF (putF (putF (fun _ => none) (.int .i64 1) (fB b 90)) (.int .i64 2) (fB b 91)) (.int .i64 3) (fB b 92)
noncomputable def zFn : Value := (match (Tryd.prog.info? 117) with | some i => i.zero.getD undef | none => undef)
theorem zeroFn (w : World) : (zeroValue 117).run Tryd.prog w = .ok zFn w := by kernel_rfl
theorem doF_1 (b : Nat) {k : Int} (h : k = 1) (z : Value) : (doF b (.int .i64 k)).getD z = fB b 90 ∧ (doF b (.int .i64 k)).isSome = true := by subst h; simp [doF, putF]
theorem doF_2 (b : Nat) {k : Int} (h : k = 2) (z : Value) : (doF b (.int .i64 k)).getD z = fB b 91 ∧ (doF b (.int .i64 k)).isSome = true := by subst h; simp [doF, putF]
theorem doF_3 (b : Nat) {k : Int} (h : k = 3) (z : Value) : (doF b (.int .i64 k)).getD z = fB b 92 ∧ (doF b (.int .i64 k)).isSome = true := by subst h; simp [doF, putF]
theorem doF_no (b : Nat) {k : Int} (h1 : ¬ k = 1) (h2 : ¬ k = 2) (h3 : ¬ k = 3) (z : Value) : (doF b (.int .i64 k)).getD z = z ∧ (doF b (.int .i64 k)).isSome = false := by simp [doF, putF, h1, h2, h3]
def KeepsS (W W1 : World) : Prop := ∀ (q : Nat) (cs : Array Value), W.heap[q]? = some (.cells cs 39 (0, 0)) → W1.heap[q]? = some (.cells cs 39 (0, 0))
theorem KeepsS.trans {W W1 W2 : World} (h : KeepsS W W1) (k : KeepsS W1 W2) : KeepsS W W2 := fun q cs hq => k q cs (h q cs hq)
theorem KeepsS.below {W W1 : World} (h : Below W.heap.size W W1) : KeepsS W W1 := fun q _ hq => (h.block q (blk_lt hq)).trans hq
theorem KeepsS.map {P : Program} {k : TypeId} {W W1 : World} {mb n : Nat} {f : Lit → Option Value} (hm : MapF P k W mb n f) (hg : W.grownBy W1 (some mb)) : KeepsS W W1 := fun q _ hq => (hg.block q (blk_lt hq) (fun e => by injection e with e; exact hm.not_cells (by rw [← e]; exact hq))).trans hq
section
variable {a : Scene} {A : Option Addr} {c b mb cnt : Nat} {f : Lit → Option Value} {out : List Node} {w W W1 : World}
theorem BRel.keepsS {v v1 : Value} (h : BRel a A c b mb cnt f v out w W) (hg : W.grownBy W1 v.ownBlock) : KeepsS W (W1.setCell ⟨b, 3, none⟩ v1) := fun q cs hq => by
  have h1 := blk_grown hq hg (Kd.R_ne h.rows hq (by decide))
  refine (Below.heap_setCell W1 ⟨b, 3, none⟩ v1 q (fun e => ?_)).trans h1
  have e' : q = b := e
  have h2 := h.blk
  rw [← e', hq] at h2
  injection h2 with h2
  injection h2 with _ h2
  exact absurd h2 (by decide)
theorem BRel.push {v v1 : Value} {m : Node} (h : BRel a A c b mb cnt f v out w W) (hR : kNode.R 26 W1 w.heap.size (fun _ => True) v1 (out ++ [m])) (hB : Below w.heap.size w W1) (hg : W.grownBy W1 v.ownBlock) :
    W1.heap[b]? = some (.cells #[.slice A a.nodes.length c, .int .i64 a.root, .map (some mb), v] 89 (0, 0)) ∧ BRel a A c b mb cnt f v1 (out ++ [m]) w (W1.setCell ⟨b, 3, none⟩ v1) := by
  have hblk := blk_grown h.blk hg (Kd.R_ne h.rows h.blk (by decide))
  have hmb : mb ≠ b := fun e => h.map.not_cells (by rw [e]; exact h.blk)
  refine ⟨hblk, below_set hB h.bge, ?_, (h.map.kept hg (h.map.ne_row h.rows)).setCell (a := ⟨b, 3, none⟩) hmb _, R_type hR hblk (by decide) _ _, h.bge, h.mge⟩
  have := blk_set hblk 3 v1
  simpa using this
end
theorem M_off {W : World} {base : Nat} {n : Node} {v1 v2 v3 v4 : Value} {xs : List Node} (h : kNode.M W base (fun _ => True) n [.int .i64 n.kind, v1, v2, v3]) (hr : kNode.R 26 W base (fun _ => True) v4 xs) : kNode.M W base (fun k => some k ≠ v4.ownBlock) n [.int .i64 n.kind, v1, v2, v3] := by
  obtain ⟨x1, x2, x3, e, h1, h2, h3⟩ := kNode_openM h
  injection e with _ e
  injection e with e1 e
  injection e with e2 e
  injection e with e3 _
  subst e1 e2 e3
  exact node_off h1 h2 h3 hr
def DoPost (a : Scene) (A : Option Addr) (c b mb cnt : Nat) (base : List Int) (out : List Node) (w W : World) (o : Opn) (e : Ending) (W' : World) : Prop :=
  e = .returned (.int .i64 (doErr a.nodes base out.length o)) ∧ (doErr a.nodes base out.length o = 0 → ∃ cnt' v', cnt' ≤ cnt + 1 ∧ BRel a A c b mb cnt' (imgF (base ++ [baseOf o])) v' (out ++ [(oneN a.nodes base o).1]) w W') ∧ KeepsS W W' ∧ Below w.heap.size w W'
section
variable {a : Scene} {A : Option Addr} {c b mb cnt : Nat} {base : List Int} {v : Value} {out : List Node} {w : World}
theorem one_any (hlen : out.length = base.length) (hc : kNode.C w A a.nodes.length a.nodes) (hS : ∀ i : Nat, i < a.nodes.length → Small (nd a.nodes i)) (hKl : ∀ i : Nat, i < a.nodes.length → (nd a.nodes i).kids.length ≤ 400000) (hP : Places a.nodes) (hn : a.nodes.length ≤ 1000000) (hcn : cnt ≤ 1000000)
    (o : Opn) (B1 : Option Addr) (d1 : Nat) (B2 : Option Addr) (d2 : Nat) (A1 : Option Addr) (c1 : Nat) (A2 : Option Addr) (c2 : Nat) (A3 : Option Addr) (c3 : Nat) (hO : OpnC w o B1 d1 B2 d2 A1 c1 A2 c2 A3 c3) (hs : Small o.node) (hls : o.sets.length ≤ 1000000) (hle : o.script.length ≤ 1000000) (hb0 : -9223372036854775808 ≤ o.base) (hb1 : o.base ≤ 9223372036854775807) (hk : o.kind = 1 ∨ o.kind = 2 ∨ o.kind = 3) :
    ∃ n, (∀ z, (doF b (.int .i64 o.kind)).getD z = .func (.func n) #[.pointer (some ⟨b, 0, none⟩)] #[] ∧ (doF b (.int .i64 o.kind)).isSome = true) ∧ (∀ args w, (callFunc n args).run Tryd.prog w = .ok (.enter n args) w) ∧ ∀ W, BRel a A c b mb cnt (imgF base) v out w W → Calls Tryd.prog n #[.pointer (some ⟨b, 0, none⟩), .agg (opV o B1 d1 B2 d2 A1 c1 A2 c2 A3 c3)] W (OnePost a A c b mb cnt base v out w o (oneN a.nodes base o) W) := by
  rcases hk with hk | hk | hk
  · refine ⟨_, doF_1 b hk, fun args w => by simp [go_sem], fun W h => ?_⟩
    rw [show oneN a.nodes base o = keepN a.nodes base o by unfold oneN; rw [if_pos hk]]
    exact keep_any W h hlen hc hS hP hn hcn o B1 d1 B2 d2 A1 c1 A2 c2 A3 c3 (hO.below h.below) hb0 hb1 (by omega)
  · refine ⟨_, doF_2 b hk, fun args w => by simp [go_sem], fun W h => ?_⟩
    rw [show oneN a.nodes base o = changeN a.nodes base o by unfold oneN; rw [if_neg (by omega), if_pos hk]]
    exact edit_any W h hlen hc hS hKl hP hn hcn o B1 d1 B2 d2 A1 c1 A2 c2 A3 c3 hO hls hle hb0 hb1 (by omega)
  · refine ⟨_, doF_3 b hk, fun args w => by simp [go_sem], fun W h => ?_⟩
    rw [show oneN a.nodes base o = freshN o by unfold oneN; rw [if_neg (by omega), if_neg (by omega), if_pos hk]]
    exact fresh_any W h o B1 d1 B2 d2 A1 c1 A2 c2 A3 c3 (hO.below h.below) hs hk
set_option maxRecDepth 100000 in
set_option maxHeartbeats 8000000 in
theorem do_any (W : World) (h : BRel a A c b mb cnt (imgF base) v out w W) (hlen : out.length = base.length) (hc : kNode.C w A a.nodes.length a.nodes) (hS : ∀ i : Nat, i < a.nodes.length → Small (nd a.nodes i)) (hKl : ∀ i : Nat, i < a.nodes.length → (nd a.nodes i).kids.length ≤ 400000) (hP : Places a.nodes) (hn : a.nodes.length ≤ 1000000) (hcn : cnt ≤ 1000000) (hol : out.length ≤ 1000000)
    (o : Opn) (B1 : Option Addr) (d1 : Nat) (B2 : Option Addr) (d2 : Nat) (A1 : Option Addr) (c1 : Nat) (A2 : Option Addr) (c2 : Nat) (A3 : Option Addr) (c3 : Nat) (hO : OpnC w o B1 d1 B2 d2 A1 c1 A2 c2 A3 c3) (hs : Small o.node) (hls : o.sets.length ≤ 1000000) (hle : o.script.length ≤ 1000000) (hb0 : -9223372036854775808 ≤ o.base) (hb1 : o.base ≤ 9223372036854775807) (hk0 : -9223372036854775808 ≤ o.kind) (hk1 : o.kind ≤ 9223372036854775807) :
    Calls Tryd.prog 55 #[.pointer (some ⟨b, 0, none⟩), .agg (opV o B1 d1 B2 d2 A1 c1 A2 c2 A3 c3)] W (DoPost a A c b mb cnt base out w W o) := by
  obtain ⟨Av, cv, hvs⟩ := Kd.R_slice h.rows
  subst hvs
  have HB := Aside0.mk h
  have HO := Aside0.mk hO
  have HC := Aside0.mk hc
  have HSm := Aside0.mk hS
  have HKl := Aside0.mk hKl
  have HPl := Aside0.mk hP
  have HLen := Aside0.mk hlen
  have HSn := Aside0.mk hs
  have HLs := Aside0.mk (And.intro hls hle)
  have hmm := @run_makeMap Tryd.prog
  have huo := Tryd.underlying61
  have hun := Tryd.underlying26
  have hub := Tryd.underlying89
  have HK := Aside0.mk (keyI_of hk0 hk1)
  have hBW1 : Below W.heap.size W ((W.alloc (.cells #[.pointer (some ⟨b, 0, none⟩)] 86)).alloc (.cells (opV o B1 d1 B2 d2 A1 c1 A2 c2 A3 c3) 61)) := below_alloc (below_alloc (Below.refl _ _) _) _
  have hp1 : ((W.alloc (.cells #[.pointer (some ⟨b, 0, none⟩)] 86)).alloc (.cells (opV o B1 d1 B2 d2 A1 c1 A2 c2 A3 c3) 61)).heap[W.heap.size]? = some (.cells #[.pointer (some ⟨b, 0, none⟩)] 86 (0, 0)) := by
    refine ((below_alloc (Below.refl _ _) _).block _ (by simp)).trans ?_
    simpa using heap_alloc_new W (.cells #[.pointer (some ⟨b, 0, none⟩)] 86)
  have ho1 : ((W.alloc (.cells #[.pointer (some ⟨b, 0, none⟩)] 86)).alloc (.cells (opV o B1 d1 B2 d2 A1 c1 A2 c2 A3 c3) 61)).heap[W.heap.size + 1]? = some (.cells (opV o B1 d1 B2 d2 A1 c1 A2 c2 A3 c3) 61 (0, 0)) := by
    have := heap_alloc_new (W.alloc (.cells #[.pointer (some ⟨b, 0, none⟩)] 86)) (.cells (opV o B1 d1 B2 d2 A1 c1 A2 c2 A3 c3) 61)
    simpa using this
  have hBm := below_alloc (Below.refl ((W.alloc (.cells #[.pointer (some ⟨b, 0, none⟩)] 86)).alloc (.cells (opV o B1 d1 B2 d2 A1 c1 A2 c2 A3 c3) 61)).heap.size ((W.alloc (.cells #[.pointer (some ⟨b, 0, none⟩)] 86)).alloc (.cells (opV o B1 d1 B2 d2 A1 c1 A2 c2 A3 c3) 61))) (.map #[] 0)
  have HM0 := Aside0.mk (show MapF Tryd.prog 3 (((W.alloc (.cells #[.pointer (some ⟨b, 0, none⟩)] 86)).alloc (.cells (opV o B1 d1 B2 d2 A1 c1 A2 c2 A3 c3) 61)).alloc (.map #[] 0)) (W.heap.size + 1 + 1) 0 (fun _ => none) from by
    have := MapF.made Tryd.prog 3 ((W.alloc (.cells #[.pointer (some ⟨b, 0, none⟩)] 86)).alloc (.cells (opV o B1 d1 B2 d2 A1 c1 A2 c2 A3 c3) 61))
    simpa using this)
  have HB0 := Aside0.mk (below_step hBW1 hBm)
  have HP0 := Aside0.mk ((hBm.block _ (blk_lt hp1)).trans hp1)
  have HO0 := Aside0.mk ((hBm.block _ (blk_lt ho1)).trans ho1)
  clear h hO hc hS hP hlen hKl hls hle hs hBm hp1 ho1 hBW1
  go_enter Tryd.func55, Tryd.ntmps55
  by_cases hno : ¬ o.kind = 1 ∧ ¬ o.kind = 2 ∧ ¬ o.kind = 3
  · have HI := Aside0.mk (doF_no b hno.1 hno.2.1 hno.2.2 zFn)
    have HE : Aside0 (oneN a.nodes base o = (nodez, 21)) := ⟨by unfold oneN; rw [if_neg hno.1, if_neg hno.2.1, if_neg hno.2.2]⟩
    have HE2 : Aside0 (doErr a.nodes base out.length o = 21) := ⟨by unfold doErr; rw [HE.out]; rfl⟩
    clear hno
    go_wp2_with (first
          | (refine wpList_insert_F _ rfl (.tmp 10) _ (.tmp 12) 118 rfl 3 117 keyI Tryd.underlying118 (W.heap.size + 1 + 1) 0 (fun _ => none) rfl HM0.out (by decide) (.int .i64 1) (fB b 90) (.int .i64 1) rfl rfl (keyI_of (by omega) (by omega)) ?_; intro w1 hM1 hg1; have HM1 := Aside0.mk hM1; have HB1 := Aside0.mk (below_map HB0.out HB0.out.size hg1 (by omega)); have HP1 := Aside0.mk (blk_grown HP0.out hg1 (fun e => by injection e with e; omega)); have HO1 := Aside0.mk (blk_grown HO0.out hg1 (fun e => by injection e with e; omega)); have p1 : w1.cell? ⟨W.heap.size, 0, none⟩ = some (.pointer (some ⟨b, 0, none⟩)) := blk_at HP1.out 0 rfl; clear hM1 hg1)
          | (refine wpList_insert_F _ rfl (.tmp 10) _ (.tmp 14) 118 rfl 3 117 keyI Tryd.underlying118 (W.heap.size + 1 + 1) 1 _ rfl HM1.out (by decide) (.int .i64 2) (fB b 91) (.int .i64 2) rfl rfl (keyI_of (by omega) (by omega)) ?_; intro w2 hM2 hg2; have HM2 := Aside0.mk hM2; have HB2 := Aside0.mk (below_map HB1.out HB1.out.size hg2 (by omega)); have HP2 := Aside0.mk (blk_grown HP1.out hg2 (fun e => by injection e with e; omega)); have HO2 := Aside0.mk (blk_grown HO1.out hg2 (fun e => by injection e with e; omega)); have p2 : w2.cell? ⟨W.heap.size, 0, none⟩ = some (.pointer (some ⟨b, 0, none⟩)) := blk_at HP2.out 0 rfl; clear hM2 hg2)
          | (refine wpList_insert_F _ rfl (.tmp 10) _ (.tmp 16) 118 rfl 3 117 keyI Tryd.underlying118 (W.heap.size + 1 + 1) 2 _ rfl HM2.out (by decide) (.int .i64 3) (fB b 92) (.int .i64 3) rfl rfl (keyI_of (by omega) (by omega)) ?_; intro w3 hM3 hg3; have HM3 := Aside0.mk hM3; have HB3 := Aside0.mk (below_map HB2.out HB2.out.size hg3 (by omega)); have HP3 := Aside0.mk (blk_grown HP2.out hg3 (fun e => by injection e with e; omega)); have HO3 := Aside0.mk (blk_grown HO2.out hg3 (fun e => by injection e with e; omega)); have p3 : w3.cell? ⟨W.heap.size, 0, none⟩ = some (.pointer (some ⟨b, 0, none⟩)) := blk_at HP3.out 0 rfl; have q0 : w3.cell? ⟨W.heap.size + 1, 0, none⟩ = some (.int .i64 o.kind) := blk_at HO3.out 0 rfl; have q1 : w3.cell? ⟨W.heap.size + 1, 1, none⟩ = some (.int .i64 o.base) := blk_at HO3.out 1 rfl; have q2 : w3.cell? ⟨W.heap.size + 1, 2, none⟩ = some (.slice B1 o.sets.length d1) := blk_at HO3.out 2 rfl; have q3 : w3.cell? ⟨W.heap.size + 1, 3, none⟩ = some (.slice B2 o.script.length d2) := blk_at HO3.out 3 rfl; have q4 : w3.cell? ⟨W.heap.size + 1, 4, none⟩ = some (.int .i64 o.node.kind) := blk_at HO3.out 4 rfl; have q5 : w3.cell? ⟨W.heap.size + 1, 5, none⟩ = some (.slice A1 o.node.ints.length c1) := blk_at HO3.out 5 rfl; have q6 : w3.cell? ⟨W.heap.size + 1, 6, none⟩ = some (.slice A2 o.node.texts.length c2) := blk_at HO3.out 6 rfl; have q7 : w3.cell? ⟨W.heap.size + 1, 7, none⟩ = some (.slice A3 o.node.kids.length c3) := blk_at HO3.out 7 rfl; clear hM3 hg3)
          | (at_lookup; refine wpList_lookup_F_ok _ rfl (.tmp 19) (.tmp 21) 118 rfl 3 117 keyI Tryd.underlying118 (zeroFn _) (W.heap.size + 1 + 1) 3 (doF b) rfl HM3.out (.int .i64 o.kind) (.int .i64 o.kind) rfl HK.out _ HI.out.1 false HI.out.2 ?_))
    go_ret
    exact ⟨ret_int HE2.out.symm, fun hz => absurd (HE2.out.symm.trans hz) (by decide), KeepsS.below HB3.out, (HB.out.later HB3.out).below⟩
  · have hk3 : o.kind = 1 ∨ o.kind = 2 ∨ o.kind = 3 := by omega
    clear hno
    obtain ⟨fnn, hI, hrun, hCall⟩ := one_any (b := b) (mb := mb) (v := .slice Av out.length cv) HLen.out HC.out HSm.out HKl.out HPl.out hn hcn o B1 d1 B2 d2 A1 c1 A2 c2 A3 c3 HO.out HSn.out HLs.out.1 HLs.out.2 hb0 hb1 hk3
    have HI := Aside0.mk (hI zFn)
    have HCall := Aside0.mk hCall
    clear hI hCall
    go_wp2_with (first
        | (refine wpList_insert_F _ rfl (.tmp 10) _ (.tmp 12) 118 rfl 3 117 keyI Tryd.underlying118 (W.heap.size + 1 + 1) 0 (fun _ => none) rfl HM0.out (by decide) (.int .i64 1) (fB b 90) (.int .i64 1) rfl rfl (keyI_of (by omega) (by omega)) ?_; intro w1 hM1 hg1; have HM1 := Aside0.mk hM1; have HB1 := Aside0.mk (below_map HB0.out HB0.out.size hg1 (by omega)); have HP1 := Aside0.mk (blk_grown HP0.out hg1 (fun e => by injection e with e; omega)); have HO1 := Aside0.mk (blk_grown HO0.out hg1 (fun e => by injection e with e; omega)); have p1 : w1.cell? ⟨W.heap.size, 0, none⟩ = some (.pointer (some ⟨b, 0, none⟩)) := blk_at HP1.out 0 rfl; clear hM1 hg1)
        | (refine wpList_insert_F _ rfl (.tmp 10) _ (.tmp 14) 118 rfl 3 117 keyI Tryd.underlying118 (W.heap.size + 1 + 1) 1 _ rfl HM1.out (by decide) (.int .i64 2) (fB b 91) (.int .i64 2) rfl rfl (keyI_of (by omega) (by omega)) ?_; intro w2 hM2 hg2; have HM2 := Aside0.mk hM2; have HB2 := Aside0.mk (below_map HB1.out HB1.out.size hg2 (by omega)); have HP2 := Aside0.mk (blk_grown HP1.out hg2 (fun e => by injection e with e; omega)); have HO2 := Aside0.mk (blk_grown HO1.out hg2 (fun e => by injection e with e; omega)); have p2 : w2.cell? ⟨W.heap.size, 0, none⟩ = some (.pointer (some ⟨b, 0, none⟩)) := blk_at HP2.out 0 rfl; clear hM2 hg2)
        | (refine wpList_insert_F _ rfl (.tmp 10) _ (.tmp 16) 118 rfl 3 117 keyI Tryd.underlying118 (W.heap.size + 1 + 1) 2 _ rfl HM2.out (by decide) (.int .i64 3) (fB b 92) (.int .i64 3) rfl rfl (keyI_of (by omega) (by omega)) ?_; intro w3 hM3 hg3; have HM3 := Aside0.mk hM3; have HB3 := Aside0.mk (below_map HB2.out HB2.out.size hg3 (by omega)); have HP3 := Aside0.mk (blk_grown HP2.out hg3 (fun e => by injection e with e; omega)); have HO3 := Aside0.mk (blk_grown HO2.out hg3 (fun e => by injection e with e; omega)); have p3 : w3.cell? ⟨W.heap.size, 0, none⟩ = some (.pointer (some ⟨b, 0, none⟩)) := blk_at HP3.out 0 rfl; have q0 : w3.cell? ⟨W.heap.size + 1, 0, none⟩ = some (.int .i64 o.kind) := blk_at HO3.out 0 rfl; have q1 : w3.cell? ⟨W.heap.size + 1, 1, none⟩ = some (.int .i64 o.base) := blk_at HO3.out 1 rfl; have q2 : w3.cell? ⟨W.heap.size + 1, 2, none⟩ = some (.slice B1 o.sets.length d1) := blk_at HO3.out 2 rfl; have q3 : w3.cell? ⟨W.heap.size + 1, 3, none⟩ = some (.slice B2 o.script.length d2) := blk_at HO3.out 3 rfl; have q4 : w3.cell? ⟨W.heap.size + 1, 4, none⟩ = some (.int .i64 o.node.kind) := blk_at HO3.out 4 rfl; have q5 : w3.cell? ⟨W.heap.size + 1, 5, none⟩ = some (.slice A1 o.node.ints.length c1) := blk_at HO3.out 5 rfl; have q6 : w3.cell? ⟨W.heap.size + 1, 6, none⟩ = some (.slice A2 o.node.texts.length c2) := blk_at HO3.out 6 rfl; have q7 : w3.cell? ⟨W.heap.size + 1, 7, none⟩ = some (.slice A3 o.node.kids.length c3) := blk_at HO3.out 7 rfl; clear hM3 hg3)
        | (at_lookup; refine wpList_lookup_F_ok _ rfl (.tmp 19) (.tmp 21) 118 rfl 3 117 keyI Tryd.underlying118 (zeroFn _) (W.heap.size + 1 + 1) 3 (doF b) rfl HM3.out (.int .i64 o.kind) (.int .i64 o.kind) rfl HK.out _ HI.out.1 true HI.out.2 ?_))
    have HKp3 := Aside0.mk (KeepsS.below HB3.out)
    have HB3 := Aside0.mk (HB.out.later HB3.out)
    refine (HCall.out w3 HB3.out).mono ?_
    rintro e w4 ⟨v1, v2, v3, rfl, hM4, hR4, hg4⟩
    obtain ⟨r, hr⟩ : ∃ r, oneN a.nodes base o = r := ⟨_, rfl⟩
    have HE := Aside0.mk hr
    rw [hr] at hM4 hR4 ⊢
    clear hr
    obtain ⟨m, er⟩ := r
    dsimp only at hM4 hR4 ⊢
    obtain ⟨A5, c5, A6, c6, A7, c7, rfl, rfl, rfl⟩ := M_slices hM4
    have HB4 := Aside0.mk (HB3.out.below.grown hg4 HB3.out.below.size (fun q hq => by injection hq with hq; have := HB.out.mge; omega))
    have HKp4 := Aside0.mk (HKp3.out.trans (KeepsS.map HB3.out.map hg4))
    have HP4 := Aside0.mk ((hg4.block _ (blk_lt HP3.out) (fun e => by injection e with e; exact HB3.out.map.not_cells (by rw [← e]; exact HP3.out))).trans HP3.out)
    have HA5 := Aside0.mk (below_alloc (Below.refl w4.heap.size w4) (.cells #[.int .i64 m.kind, .slice A5 m.ints.length c5, .slice A6 m.texts.length c6, .slice A7 m.kids.length c7] 26))
    have HM5 := Aside0.mk (M_below (M_lower hM4 HB3.out.below.size) HA5.out)
    have HX5 := Aside0.mk (show (w4.alloc (.cells #[.int .i64 m.kind, .slice A5 m.ints.length c5, .slice A6 m.texts.length c6, .slice A7 m.kids.length c7] 26)).heap[w4.heap.size]? = some (.cells #[.int .i64 m.kind, .slice A5 m.ints.length c5, .slice A6 m.texts.length c6, .slice A7 m.kids.length c7] 26 (0, 0)) from by simpa using heap_alloc_new w4 _)
    have HP5 := Aside0.mk ((HA5.out.block _ (blk_lt HP4.out)).trans HP4.out)
    have HR4 := Aside0.mk hR4
    clear hM4 hR4 hg4 p1 p2 p3 q0 q1 q2 q3 q4 q5 q6 q7
    by_cases hz : er = 0
    · subst hz
      obtain ⟨cnt', hc', hR⟩ := HR4.out rfl
      have HR5 := Aside0.mk (hR.later HA5.out)
      have HC' := Aside0.mk hc'
      have p5 : (w4.alloc (.cells #[.int .i64 m.kind, .slice A5 m.ints.length c5, .slice A6 m.texts.length c6, .slice A7 m.kids.length c7] 26)).cell? ⟨W.heap.size, 0, none⟩ = some (.pointer (some ⟨b, 0, none⟩)) := blk_at HP5.out 0 rfl
      have HCap := Aside0.mk (show CapB W.heap.size out.length _ from ⟨b, Av, cv, p5, blk_at HR5.out.blk 3 rfl, (Kd.R_reads' HR5.out.rows).2.2.2.1⟩)
      clear hR hc'
      go_wp2_with fail
      refine (aheadHas_any A7 c7 m.kids W.heap.size out.length _ (M_nodeC HM5.out).k HCap.out).mono ?_
      rintro e w6 ⟨rfl, hB6⟩
      have HB6 := Aside0.mk hB6
      clear hB6 p5
      by_cases hkb : kidsBad out.length m.kids = true
      · have HEr : Aside0 (doErr a.nodes base out.length o = 13) := ⟨by unfold doErr; rw [HE.out]; exact (if_pos rfl).trans (if_pos hkb)⟩
        rw [hkb]
        clear hkb
        go_wp2
        go_ret
        exact ⟨ret_int HEr.out.symm, fun hz => absurd (HEr.out.symm.trans hz) (by decide), HKp4.out.trans (KeepsS.below (below_step HA5.out HB6.out)), below_step (below_step HB4.out HA5.out) HB6.out⟩
      · have HEr : Aside0 (doErr a.nodes base out.length o = 0) := ⟨by unfold doErr; rw [HE.out]; exact (if_pos rfl).trans (if_neg hkb)⟩
        rw [Bool.eq_false_iff.2 hkb]
        clear hkb
        have HR6 := Aside0.mk (HR5.out.later HB6.out)
        have HM6 := Aside0.mk (M_below HM5.out HB6.out)
        have HP6 := Aside0.mk ((HB6.out.block _ (blk_lt HP5.out)).trans HP5.out)
        have HX6 := Aside0.mk ((HB6.out.block _ (blk_lt HX5.out)).trans HX5.out)
        have p6 : w6.cell? ⟨W.heap.size, 0, none⟩ = some (.pointer (some ⟨b, 0, none⟩)) := blk_at HP6.out 0 rfl
        have b6 : w6.cell? ⟨b, 3, none⟩ = some (.slice Av out.length cv) := blk_at HR6.out.blk 3 rfl
        have y0 : w6.cell? ⟨w4.heap.size, 0, none⟩ = some (.int .i64 m.kind) := blk_at HX6.out 0 rfl
        have y1 : w6.cell? ⟨w4.heap.size, 1, none⟩ = some (.slice A5 m.ints.length c5) := blk_at HX6.out 1 rfl
        have y2 : w6.cell? ⟨w4.heap.size, 2, none⟩ = some (.slice A6 m.texts.length c6) := blk_at HX6.out 2 rfl
        have y3 : w6.cell? ⟨w4.heap.size, 3, none⟩ = some (.slice A7 m.kids.length c7) := blk_at HX6.out 3 rfl
        have hba := below_alloc (Below.refl w6.heap.size w6) (.cells #[.int .i64 m.kind, .slice A5 m.ints.length c5, .slice A6 m.texts.length c6, .slice A7 m.kids.length c7] 26)
        have p6a := pw_cell_below hba p6
        have b6a := pw_cell_below hba b6
        have HR6d := Aside0.mk HR6.out.drew
        have HP6d := Aside0.mk (show w6.drew.heap[W.heap.size]? = _ from HP6.out)
        have HMk := Aside0.mk (M_off (M_below HM6.out (pw_below_drewN (Below.refl _ _) 1)) HR6d.out.rows)
        clear hba HX5 HX6 HM5 HM6 HP5 HP6 HR5 HR6 HCap
        go_wp2
        go_region_law (first
            | (rw [drew_alloc']; refine Kd.R_append_step kNode (W := w6.drew) (w0 := w) w.heap.size (by rfl) (.tmp 44) (.tmp 46) 30 26 (.agg #[.int .i64 0, .slice none 0 0, .slice none 0 0, .slice none 0 0]) 80 rfl Tryd.underlying30 info_nodez rfl (by decide) (by omega) (.slice Av out.length cv) out m [.int .i64 m.kind, .slice A5 m.ints.length c5, .slice A6 m.texts.length c6, .slice A7 m.kids.length c7] (fun _ => True) (fun k => some k ≠ (Value.slice Av out.length cv).ownBlock) rfl rfl HMk.out (fun k hk => ⟨trivial, hk⟩) (fun _ _ => trivial) HR6d.out.rows HR6d.out.below HR6d.out.below.size (by omega) ?_; intro v5 w8 hR8 hB8 hg8 hat8; obtain ⟨A8, c8, hv8⟩ := Kd.R_slice hR8; rw [show (out ++ [m]).length = out.length + 1 from by simp] at hv8; subst hv8; obtain ⟨hb8, hN8⟩ := HR6d.out.push hR8 hB8 hg8; have HKp8 := Aside0.mk (HKp4.out.trans ((KeepsS.below (below_step HA5.out HB6.out)).trans (KeepsS.trans (KeepsS.below (pw_below_drewN (Below.refl _ _) 1)) (HR6d.out.keepsS (v1 := .slice A8 (out.length + 1) c8) hg8)))); have HN8 := Aside0.mk hN8; have f3 : w8.cell? ⟨b, 3, none⟩ = some (.slice Av out.length cv) := blk_at hb8 3 rfl; have f3f := blk_frozen hb8 3; have p8 : w8.cell? ⟨W.heap.size, 0, none⟩ = some (.pointer (some ⟨b, 0, none⟩)) := blk_at (blk_grown HP6d.out hg8 (Kd.R_ne HR6d.out.rows HP6d.out (by decide))) 0 rfl; clear hR8 hB8 hg8 hat8 hN8 hb8))
        all_goals
          clear p6 b6 y0 y1 y2 y3 p6a b6a f3 f3f p8
          go_wp2
          go_ret
          exact ⟨ret_int HEr.out.symm, fun _ => ⟨cnt', _, HC'.out, by rw [HE.out]; exact HN8.out⟩, HKp8.out, HN8.out.below⟩
    · have HEr : Aside0 (doErr a.nodes base out.length o = er) := ⟨by unfold doErr; rw [HE.out]; exact if_neg hz⟩
      have dz : (er != 0) = true := by simpa using hz
      have HZ := Aside0.mk hz
      clear hz
      go_wp2
      go_ret
      exact ⟨ret_int HEr.out.symm, fun hz => absurd (HEr.out.symm.trans hz) HZ.out, HKp4.out.trans (KeepsS.below HA5.out), below_step HB4.out HA5.out⟩
end
end Go.Proofs.YtglfebpgdghlfaaDoor.L
end
section
namespace Go.Proofs.YtglfebpgdghlfaaDoor.L
open Go.RowKit Go.ChangeShapes Go.WideShapes Go.Proofs.YtglfebpgdghlfaaDoorW.PrintWords Go.Proofs.YtglfebpgdghlfaaDoorW.PrintLast Go.Proofs.YtglfebpgdghlfaaDoorW.PrintMore
attribute [local go_sem] max2_int min2_int max_two min_two max_three min_three max_four min_four
theorem slots2 {W : World} {rb : Nat} {y0 y1 : Value} {T : TypeId} (h : W.heap[rb]? = some (.cells #[y0, y1] T (0, 0))) (u0 : Value) :
    W.cell? ⟨rb, 0, none⟩ = some y0 ∧ W.frozen? ⟨rb, 0, none⟩ = false ∧ (W.setCell ⟨rb, 0, none⟩ u0).cell? ⟨rb, 1, none⟩ = some y1 ∧ (W.setCell ⟨rb, 0, none⟩ u0).frozen? ⟨rb, 1, none⟩ = false :=
  ⟨(blk_cell h 0).trans rfl, blk_frozen h 0, (blk_cell (blk_set h 0 u0) 1).trans rfl, blk_frozen (blk_set h 0 u0) 1⟩
theorem res2 {W : World} {rb : Nat} {y0 y1 : Value} {T : TypeId} (h : W.heap[rb]? = some (.cells #[y0, y1] T (0, 0))) (u0 u1 : Value) :
    ((W.setCell ⟨rb, 0, none⟩ u0).setCell ⟨rb, 1, none⟩ u1).cell? ⟨rb, 0, none⟩ = some u0 ∧ ((W.setCell ⟨rb, 0, none⟩ u0).setCell ⟨rb, 1, none⟩ u1).cell? ⟨rb, 1, none⟩ = some u1 :=
  ⟨(blk_cell (box2 h u0 u1) 0).trans rfl, (blk_cell (box2 h u0 u1) 1).trans rfl⟩
abbrev zeroS : Array Value := #[.slice none 0 0, .int .i64 0]
def RebPost (r : Scene × Int × Int) (w : World) (e : Ending) (w' : World) : Prop :=
  ∃ A c, e = .returned (.tuple #[.agg #[.slice A r.1.nodes.length c, .int .i64 r.1.root], .int .i64 r.2.1, .int .i64 r.2.2]) ∧ kNode.R 26 w' w.heap.size (fun _ => True) (.slice A r.1.nodes.length c) r.1.nodes ∧ Below w.heap.size w w'
theorem RebPost.no {r : Scene × Int × Int} {w w' : World} {er p : Int} (hr : r = (⟨[], 0⟩, er, p)) (hB : Below w.heap.size w w') : RebPost r w (.returned (.tuple #[.agg #[.slice none 0 0, .int .i64 0], .int .i64 er, .int .i64 p])) w' := by
  subst hr
  exact ⟨none, 0, rfl, Kd.R_nil _ _ _ _ _, hB⟩
set_option maxRecDepth 100000 in
set_option maxHeartbeats 8000000 in
theorem rapp_any (A : Option Addr) (c : Nat) (a : Scene) (Al : Option Addr) (cl : Nat) (l : List Opn) (w : World) (h : kNode.C w A a.nodes.length a.nodes) (hl : kOpn.C w Al l.length l) (hT : Tabs w) (hn : a.nodes.length ≤ 1000000) (hM : rows a.nodes ≤ 400000) (ha : ∀ i : Nat, i < a.nodes.length → OkN 4000 (nd a.nodes i)) (ho : ∀ k : Nat, k < l.length → OpOk (op l k)) (hn60 : l.length ≤ 60) :
    Calls Tryd.prog 29 #[.agg #[.slice A a.nodes.length c, .int .i64 a.root], .slice Al l.length cl] w (RebPost (applyR a l) w) := by
  have HR := Aside0.mk h
  have HOps := Aside0.mk hl
  have HT := Aside0.mk hT
  have HM := Aside0.mk hM
  have HOk := Aside0.mk ha
  have HOp := Aside0.mk ho
  have HB := Aside0.mk (below_alloc (below_alloc (Below.refl w.heap.size w) (.cells #[.slice A a.nodes.length c, .int .i64 a.root] 39)) (.cells zeroS 39))
  have k0 := box_cell2 w _ rfl #[.slice A a.nodes.length c, .int .i64 a.root] 39 (.cells zeroS 39) 0 (.slice A a.nodes.length c) rfl
  have k1 := box_cell2 w _ rfl #[.slice A a.nodes.length c, .int .i64 a.root] 39 (.cells zeroS 39) 1 (.int .i64 a.root) rfl
  have HRes := Aside0.mk (show ((w.alloc (.cells #[.slice A a.nodes.length c, .int .i64 a.root] 39)).alloc (.cells zeroS 39)).heap[w.heap.size + 1]? = some (.cells zeroS 39 (0, 0)) from by
    have := heap_alloc_new (w.alloc (.cells #[.slice A a.nodes.length c, .int .i64 a.root] 39)) (.cells zeroS 39)
    simpa using this)
  have hu := Tryd.underlying39
  have hub := Tryd.underlying89
  have hmm := @run_makeMap Tryd.prog
  clear h hl hT hM ha ho
  go_enter Tryd.func29, Tryd.ntmps29
  go_wp2_with fail
  refine (typed_any A c a _ (Kd.C_below HR.out HB.out) (HT.out.below HB.out) (fun i hi => (HOk.out i hi).texts)).mono ?_
  rintro e w1 ⟨rfl, hB1⟩
  replace k0 := pw_cell_below hB1 k0
  replace k1 := pw_cell_below hB1 k1
  have HRes1 := Aside0.mk ((hB1.block _ (blk_lt HRes.out)).trans HRes.out)
  have HB1 := Aside0.mk (below_step HB.out hB1)
  clear hB1 HRes HB
  by_cases hty : ¬ (typedS newTab a.nodes).1 = 0
  · have HE := Aside0.mk (show applyR a l = (⟨[], 0⟩, (typedS newTab a.nodes).1, -1) from if_neg hty)
    have dz : ((typedS newTab a.nodes).1 != 0) = true := by simpa using hty
    obtain ⟨e0, e0f, e1, e1f⟩ := slots2 HRes1.out (.slice none 0 0)
    clear hty
    go_wp2
    have h2 := res2 HRes1.out (.slice none 0 0) (.int .i64 0)
    exact bodyPost_ret (v := .tuple #[.agg #[.slice none 0 0, .int .i64 0], .int .i64 (typedS newTab a.nodes).1, .int .i64 (-1)]) (by simp [results, Tryd.results29, go_sem, h2]) rfl (RebPost.no HE.out (below_set2 HB1.out (Nat.le_succ _)))
  replace hty := Classical.byContradiction hty
  have HTy := Aside0.mk hty
  rw [hty]
  clear hty
  go_wp2_with fail
  refine (is_any A c a _ (Kd.C_below HR.out HB1.out) HM.out).mono ?_
  rintro e w2 ⟨rfl, hB2⟩
  replace k0 := pw_cell_below hB2 k0
  replace k1 := pw_cell_below hB2 k1
  have HRes2 := Aside0.mk ((hB2.block _ (blk_lt HRes1.out)).trans HRes1.out)
  have HB2 := Aside0.mk (below_step HB1.out hB2)
  clear hB2 HRes1 HB1
  by_cases hic : ¬ isC a = true
  · have HE := Aside0.mk (show applyR a l = (⟨[], 0⟩, 16, -1) from by unfold applyR; rw [if_pos HTy.out, if_neg hic])
    rw [Bool.eq_false_iff.2 hic]
    obtain ⟨e0, e0f, e1, e1f⟩ := slots2 HRes2.out (.slice none 0 0)
    clear hic
    go_wp2
    have h2 := res2 HRes2.out (.slice none 0 0) (.int .i64 0)
    exact bodyPost_ret (v := .tuple #[.agg #[.slice none 0 0, .int .i64 0], .int .i64 16, .int .i64 (-1)]) (by simp [results, Tryd.results29, go_sem, h2]) rfl (RebPost.no HE.out (below_set2 HB2.out (Nat.le_succ _)))
  replace hic := Classical.byContradiction hic
  have HIc := Aside0.mk hic
  have HPl := Aside0.mk (isC_right hic).pl
  have HE : Aside0 (applyR a l = resR (runO a.nodes l [] [] 0)) := ⟨by unfold applyR; rw [if_pos HTy.out, if_pos hic]⟩
  rw [hic]
  clear hic
  have hm0 := MapF.made Tryd.prog 3 w2
  have hAm := below_alloc (Below.refl w2.heap.size w2) (.map #[] 0)
  have hAb := below_alloc (Below.refl (w2.alloc (.map #[] 0)).heap.size (w2.alloc (.map #[] 0))) (.cells #[.slice A a.nodes.length c, .int .i64 a.root, .map (some w2.heap.size), .slice none 0 0] 89)
  have HBR := Aside0.mk (show BRel a A c (w2.heap.size + 1) w2.heap.size 0 (imgF []) (.slice none 0 0) [] w ((w2.alloc (.map #[] 0)).alloc (.cells #[.slice A a.nodes.length c, .int .i64 a.root, .map (some w2.heap.size), .slice none 0 0] 89)) from
    ⟨below_step (below_step HB2.out hAm) hAb, by
      have := heap_alloc_new (w2.alloc (.map #[] 0)) (.cells #[.slice A a.nodes.length c, .int .i64 a.root, .map (some w2.heap.size), .slice none 0 0] 89)
      simpa using this, by rw [imgF_nil]; exact hm0.below hAb, Kd.R_nil _ _ _ _ _, Nat.le_succ_of_le HB2.out.size, HB2.out.size⟩)
  have HResB := Aside0.mk ((hAb.block _ (Nat.lt_of_lt_of_le (blk_lt HRes2.out) hAm.size)).trans ((hAm.block _ (blk_lt HRes2.out)).trans HRes2.out))
  clear hm0 hAm hAb
  go_wp2
  clear k0 k1 hmm
  generalize (w2.alloc (.map #[] 0)).alloc (.cells #[.slice A a.nodes.length c, .int .i64 a.root, .map (some w2.heap.size), .slice none 0 0] 89) = W3 at HBR HResB ⊢
  generalize w2.heap.size + 1 = b at HBR ⊢
  generalize w2.heap.size = mb at HBR ⊢
  go_loopw [37] (fun v37 W => ∃ k : Nat, k ≤ l.length ∧ v37 = .int .i64 k ∧ ∃ base v out cnt, cnt ≤ k ∧ Aside0 (out.length = base.length ∧ out.length = k ∧ runO a.nodes (l.drop k) base out k = runO a.nodes l [] [] 0 ∧ ∀ i : Nat, i < out.length → OkN 5000 (nd out i)) ∧ Aside0 (BRel a A c b mb cnt (imgF base) v out w W) ∧ Aside0 (W.heap[w.heap.size + 1]? = some (.cells zeroS 39 (0, 0)))) (fun v37 _ => l.length - (intOf v37).toNat)
  case atStart => exact ⟨0, by omega, rfl, [], _, [], 0, by omega, ⟨rfl, rfl, rfl, fun i hi => by simp at hi⟩, HBR, HResB⟩
  case round =>
    clear HBR HResB
    obtain ⟨k, hk, rfl, base, v, out, cnt, hcnt, HI, HBR, HRes⟩ := hrel
    by_cases hlt : k < l.length
    · obtain ⟨ad, B1, d1, B2, d2, A1, c1, A2, c2, A3, c3, rfl, x0, x1, x2, x3, x4, x5, x6, x7, hO⟩ := at_op HOps.out k hlt
      replace x0 := pw_cell_below HBR.out.below x0
      replace x1 := pw_cell_below HBR.out.below x1
      replace x2 := pw_cell_below HBR.out.below x2
      replace x3 := pw_cell_below HBR.out.below x3
      replace x4 := pw_cell_below HBR.out.below x4
      replace x5 := pw_cell_below HBR.out.below x5
      replace x6 := pw_cell_below HBR.out.below x6
      replace x7 := pw_cell_below HBR.out.below x7
      have HO := Aside0.mk hO
      have hop := HOp.out k hlt
      have HOk1 := Aside0.mk hop
      have HStep := Aside0.mk (fun hz => (runO_step (a := a.nodes) (base := base) (out := out) hlt hz))
      have HBad := Aside0.mk (fun hz => (runO_bad (a := a.nodes) (base := base) (out := out) hlt hz))
      generalize op l k = o at x0 x1 x2 x3 x4 x5 x6 x7 HO HOk1 HStep HBad
      have hAo := below_alloc (Below.refl wr.heap.size wr) (.cells (opV o B1 d1 B2 d2 A1 c1 A2 c2 A3 c3) 61)
      have HBo := Aside0.mk (HBR.out.later hAo)
      have HReso := Aside0.mk ((hAo.block _ (blk_lt HRes.out)).trans HRes.out)
      clear hO hop hAo
      go_wp2_with fail
      refine (do_any (base := base) (cnt := cnt) _ HBo.out HI.out.1 HR.out (fun i hi => (HOk.out i hi).small (by omega)) (fun i hi => Nat.le_trans (HOk.out i hi).2.2.1 (by omega)) HPl.out hn (by omega) (by have := HI.out.2.1; omega) o B1 d1 B2 d2 A1 c1 A2 c2 A3 c3 HO.out (HOk1.out.node.small (by omega)) HOk1.out.sets (Nat.le_trans HOk1.out.script (by omega)) HOk1.out.b0 HOk1.out.b1 HOk1.out.k0 HOk1.out.k1).mono ?_
      rintro e w4 ⟨rfl, hR, hK, hB⟩
      have HRes4 := Aside0.mk (hK _ _ HReso.out)
      have HB4 := Aside0.mk hB
      have HR4 := Aside0.mk hR
      clear hR hK hB x0 x1 x2 x3 x4 x5 x6 x7
      by_cases hz : doErr a.nodes base out.length o = 0
      · obtain ⟨cnt', v', hc', hBR⟩ := HR4.out hz
        have HBR' := Aside0.mk hBR
        have h0 : (oneN a.nodes base o).2 = 0 := by
          refine Classical.byContradiction fun hn0 => ?_
          unfold doErr at hz
          rw [if_neg hn0] at hz
          exact hn0 hz
        have HI' := Aside0.mk (show (out ++ [(oneN a.nodes base o).1]).length = (base ++ [baseOf o]).length ∧ (out ++ [(oneN a.nodes base o).1]).length = k + 1 ∧ runO a.nodes (l.drop (k + 1)) (base ++ [baseOf o]) (out ++ [(oneN a.nodes base o).1]) (k + 1) = runO a.nodes l [] [] 0 ∧ ∀ i : Nat, i < (out ++ [(oneN a.nodes base o).1]).length → OkN 5000 (nd (out ++ [(oneN a.nodes base o).1]) i) from
          ⟨by rw [List.length_append, List.length_append, HI.out.1]; rfl, by rw [List.length_append, HI.out.2.1]; rfl, (HStep.out hz).symm.trans HI.out.2.2.1, nd_snoc HI.out.2.2.2 (oneN_ok HOk.out HOk1.out h0)⟩)
        rw [hz]
        clear hz hBR h0
        go_wp2
        go_roundw
        case rel => exact ⟨k + 1, by omega, by go_num, _, v', _, cnt', by omega, HI', HBR', HRes4⟩
        case measure => simp [intOf]; omega
      · have HE' := Aside0.mk (show applyR a l = (⟨[], 0⟩, doErr a.nodes base out.length o, (k : Int)) from by rw [HE.out, ← HI.out.2.2.1, HBad.out hz]; rfl)
        have dz : (doErr a.nodes base out.length o != 0) = true := by simpa using hz
        obtain ⟨e0, e0f, e1, e1f⟩ := slots2 HRes4.out (.slice none 0 0)
        clear hz
        generalize doErr a.nodes base out.length o = er at dz HE' ⊢
        go_wp2
        have h2 := res2 HRes4.out (.slice none 0 0) (.int .i64 0)
        exact bodyPost_ret (v := .tuple #[.agg #[.slice none 0 0, .int .i64 0], .int .i64 er, .int .i64 (k : Int)]) (by simp [results, Tryd.results29, go_sem, h2]) rfl (RebPost.no HE'.out (below_set2 HB4.out (Nat.le_succ _)))
    · have HRun := Aside0.mk (show runO a.nodes l [] [] 0 = .inl out from by rw [← HI.out.2.2.1]; exact runO_end (by omega))
      have HE' := Aside0.mk (show applyR a l = finR out from by rw [HE.out, HRun.out]; rfl)
      obtain ⟨Av, cv, hv⟩ := Kd.R_slice HBR.out.rows
      subst hv
      have hol : out.length ≤ 60 := by have := HI.out.2.1; omega
      have b3 : wr.cell? ⟨b, 3, none⟩ = some (.slice Av out.length cv) := blk_at HBR.out.blk 3 rfl
      have hbl := blk_lt HBR.out.blk
      have hwp : IntKind.i64.wrap ((out.length : Int) - 1) = (out.length : Int) - 1 := wrap_i (by omega) (by omega)
      go_wp2
      go_region
      have hA5 := below_alloc (Below.refl wr.heap.size wr) (.cells #[.slice Av out.length cv, .int .i64 ((out.length : Int) - 1)] 39)
      have hA5d : Below wr.heap.size wr (wr.alloc (.cells #[.slice Av out.length cv, .int .i64 ((out.length : Int) - 1)] 39)).drew := below_drew hA5
      have HBR5 := Aside0.mk (HBR.out.later hA5d)
      have HRes5 := Aside0.mk ((hA5d.block _ (blk_lt HRes.out)).trans HRes.out)
      have hX5 : (wr.alloc (.cells #[.slice Av out.length cv, .int .i64 ((out.length : Int) - 1)] 39)).drew.heap[wr.heap.size]? = some (.cells #[.slice Av out.length cv, .int .i64 ((out.length : Int) - 1)] 39 (0, 0)) := by
        show (wr.alloc _).heap[wr.heap.size]? = _
        simpa using heap_alloc_new wr _
      have HX5 := Aside0.mk hX5
      have hge : w.heap.size + 1 < wr.heap.size := blk_lt HRes.out
      have HGe := Aside0.mk hge
      clear hA5 hA5d hX5 b3 hbl hwp hge HBR HRes
      generalize (wr.alloc (.cells #[.slice Av out.length cv, .int .i64 ((out.length : Int) - 1)] 39)).drew = W5 at HBR5 HRes5 HX5 ⊢
      generalize wr.heap.size = g at HX5 HGe ⊢
      have s0 : W5.cell? ⟨g, 0, none⟩ = some (.slice Av out.length cv) := blk_at HX5.out 0 rfl
      have s1 : W5.cell? ⟨g, 1, none⟩ = some (.int .i64 ((out.length : Int) - 1)) := blk_at HX5.out 1 rfl
      have HC5 := Aside0.mk (Kd.R_reads' HBR5.out.rows).2.2
      go_wp2_with fail
      refine (typed_any Av cv (⟨out, (out.length : Int) - 1⟩ : Scene) W5 HC5.out (HT.out.below HBR5.out.below) (fun i hi => (HI.out.2.2.2 i hi).texts)).mono ?_
      rintro e w6 ⟨rfl, hB6⟩
      replace s0 := pw_cell_below hB6 s0
      replace s1 := pw_cell_below hB6 s1
      have HRes6 := Aside0.mk ((hB6.block _ (blk_lt HRes5.out)).trans HRes5.out)
      have HBR6 := Aside0.mk (HBR5.out.later hB6)
      clear hB6 HC5 HRes5 HBR5 HX5
      dsimp only
      by_cases hty2 : ¬ (typedS newTab out).1 = 0
      · have HX := Aside0.mk (show applyR a l = (⟨[], 0⟩, (typedS newTab out).1, -1) from by rw [HE'.out]; unfold finR; rw [if_neg hty2])
        have dz : ((typedS newTab out).1 != 0) = true := by simpa using hty2
        obtain ⟨e0, e0f, e1, e1f⟩ := slots2 HRes6.out (.slice none 0 0)
        have HB6 := Aside0.mk HBR6.out.below
        clear hty2
        generalize (typedS newTab out).1 = er at dz HX ⊢
        go_wp2
        have h2 := res2 HRes6.out (.slice none 0 0) (.int .i64 0)
        exact bodyPost_ret (v := .tuple #[.agg #[.slice none 0 0, .int .i64 0], .int .i64 er, .int .i64 (-1)]) (by simp [results, Tryd.results29, go_sem, h2]) rfl (RebPost.no HX.out (below_set2 HB6.out (Nat.le_succ _)))
      replace hty2 := Classical.byContradiction hty2
      have HTy2 := Aside0.mk hty2
      rw [hty2]
      clear hty2
      have HC6 := Aside0.mk (Kd.R_reads' HBR6.out.rows).2.2
      have HRw := Aside0.mk (rows_ok HI.out.2.2.2 hol)
      go_wp2_with fail
      refine (gcheck_any Av cv (⟨out, (out.length : Int) - 1⟩ : Scene) w6 HC6.out HRw.out).mono ?_
      rintro e w7 ⟨rfl, hB7⟩
      replace s0 := pw_cell_below hB7 s0
      replace s1 := pw_cell_below hB7 s1
      have HRes7 := Aside0.mk ((hB7.block _ (blk_lt HRes6.out)).trans HRes6.out)
      have HBR7 := Aside0.mk (HBR6.out.later hB7)
      clear hB7 HC6 HRes6 HBR6
      by_cases hgc : ¬ (gcheck (⟨out, (out.length : Int) - 1⟩ : Scene)).1 = 0
      · have HX := Aside0.mk (show applyR a l = (⟨[], 0⟩, (gcheck (⟨out, (out.length : Int) - 1⟩ : Scene)).1, -1) from by rw [HE'.out]; unfold finR; rw [if_pos HTy2.out]; exact if_neg hgc)
        have dz : ((gcheck (⟨out, (out.length : Int) - 1⟩ : Scene)).1 != 0) = true := by simpa using hgc
        obtain ⟨e0, e0f, e1, e1f⟩ := slots2 HRes7.out (.slice none 0 0)
        have HB6 := Aside0.mk HBR7.out.below
        clear hgc
        generalize (gcheck (⟨out, (out.length : Int) - 1⟩ : Scene)).1 = er at dz HX ⊢
        go_wp2
        have h2 := res2 HRes7.out (.slice none 0 0) (.int .i64 0)
        exact bodyPost_ret (v := .tuple #[.agg #[.slice none 0 0, .int .i64 0], .int .i64 er, .int .i64 (-1)]) (by simp [results, Tryd.results29, go_sem, h2]) rfl (RebPost.no HX.out (below_set2 HB6.out (Nat.le_succ _)))
      replace hgc := Classical.byContradiction hgc
      have HGc := Aside0.mk hgc
      rw [hgc]
      clear hgc
      have HC7 := Aside0.mk (Kd.R_reads' HBR7.out.rows).2.2
      go_wp2_with fail
      refine (is_any Av cv (⟨out, (out.length : Int) - 1⟩ : Scene) w7 HC7.out HRw.out).mono ?_
      rintro e w8 ⟨rfl, hB8⟩
      replace s0 := pw_cell_below hB8 s0
      replace s1 := pw_cell_below hB8 s1
      have HRes8 := Aside0.mk ((hB8.block _ (blk_lt HRes7.out)).trans HRes7.out)
      have HBR8 := Aside0.mk (HBR7.out.later hB8)
      clear hB8 HC7 HRes7 HBR7
      by_cases hcc : ¬ isC (⟨out, (out.length : Int) - 1⟩ : Scene) = true
      · have HX := Aside0.mk (show applyR a l = (⟨[], 0⟩, 16, -1) from by rw [HE'.out]; unfold finR; rw [if_pos HTy2.out]; exact (if_pos HGc.out).trans (if_neg hcc))
        rw [Bool.eq_false_iff.2 hcc]
        obtain ⟨e0, e0f, e1, e1f⟩ := slots2 HRes8.out (.slice none 0 0)
        have HB6 := Aside0.mk HBR8.out.below
        clear hcc
        go_wp2
        have h2 := res2 HRes8.out (.slice none 0 0) (.int .i64 0)
        exact bodyPost_ret (v := .tuple #[.agg #[.slice none 0 0, .int .i64 0], .int .i64 16, .int .i64 (-1)]) (by simp [results, Tryd.results29, go_sem, h2]) rfl (RebPost.no HX.out (below_set2 HB6.out (Nat.le_succ _)))
      replace hcc := Classical.byContradiction hcc
      have HX := Aside0.mk (show applyR a l = ((⟨out, (out.length : Int) - 1⟩ : Scene), 0, 0) from by rw [HE'.out]; unfold finR; rw [if_pos HTy2.out]; exact (if_pos HGc.out).trans (if_pos hcc))
      rw [hcc]
      clear hcc
      obtain ⟨e0, e0f, e1, e1f⟩ := slots2 HRes8.out (.slice Av out.length cv)
      have hne : g ≠ w.heap.size + 1 := by have := HGe.out; omega
      go_wp2
      have h2 := res2 HRes8.out (.slice Av out.length cv) (.int .i64 ((out.length : Int) - 1))
      refine bodyPost_ret (v := .tuple #[.agg #[.slice Av out.length cv, .int .i64 ((out.length : Int) - 1)], .int .i64 0, .int .i64 0]) (by simp [results, Tryd.results29, go_sem, h2]) rfl
        ⟨Av, cv, by rw [HX.out], ?_, below_set2 HBR8.out.below (Nat.le_succ _)⟩
      rw [HX.out]
      exact R_type (R_type HBR8.out.rows HRes8.out (by decide) _ _) (blk_set HRes8.out 0 _) (by decide) _ _
end Go.Proofs.YtglfebpgdghlfaaDoor.L
end
section
namespace Go.Proofs.YtglfebpgdghlfaaDoor.L
open Go.RowKit Go.ChangeShapes Go.WideShapes Go.Proofs.YtglfebpgdghlfaaDoorW.PrintWords Go.Proofs.YtglfebpgdghlfaaDoorW.PrintLast Go.Proofs.YtglfebpgdghlfaaDoorW.PrintMore
attribute [local go_sem] max2_int min2_int max_two min_two max_three min_three max_four min_four
structure ABx (w : World) (A : Option Addr) (c : Nat) (a : Scene) (W : World) : Prop where
  below : Below w.heap.size w W
  sb : W.heap[w.heap.size]? = some (.cells #[.slice A a.nodes.length c, .int .i64 a.root] 39 (0, 0))
  res : W.heap[w.heap.size + 1]? = some (.cells zeroS 39 (0, 0))
  non : W.heap[w.heap.size + 2]? = some (.cells zeroS 39 (0, 0))
theorem ABx.later {w : World} {A : Option Addr} {c : Nat} {a : Scene} {W W1 : World} (h : ABx w A c a W) (hb : Below W.heap.size W W1) : ABx w A c a W1 :=
  ⟨below_step h.below hb, (hb.block _ (blk_lt h.sb)).trans h.sb, (hb.block _ (blk_lt h.res)).trans h.res, (hb.block _ (blk_lt h.non)).trans h.non⟩
structure AppRel (w : World) (g : Nat) (root : Int) (base : List Int) (bv : Value) (out : List Node) (ov : Value) (W : World) : Prop where
  box : W.heap[g]? = some (.cells #[ov, .int .i64 root] 39 (0, 0))
  ge : w.heap.size + 2 < g
  rows : kNode.R 26 W w.heap.size (fun k => some k ≠ bv.ownBlock) ov out
  br : (Kd.int .i64).R 3 W w.heap.size (fun _ => True) bv base
theorem AppRel.later {w : World} {g : Nat} {root : Int} {base : List Int} {bv : Value} {out : List Node} {ov : Value} {W W1 : World} (h : AppRel w g root base bv out ov W) (hb : Below W.heap.size W W1) : AppRel w g root base bv out ov W1 :=
  ⟨(hb.block _ (blk_lt h.box)).trans h.box, h.ge, Kd.R_below h.rows hb, Kd.R_below h.br hb⟩
theorem RebPost.bad {r : Scene × Int × Int} {w w' : World} {er p : Int} (hr : r = (⟨[], 0⟩, er, p)) (hB : Below w.heap.size w w') : RebPost r w (.returned (.tuple #[.agg #[.slice none 0 0, .int .i64 0], .int .i64 er, .int .i64 p])) w' := RebPost.no hr hB
theorem Lives.box4 {b : Nat} {W : World} (h : Lives 4 b W) (u0 u1 u2 u3 : Value) : ∃ T, ((((W.setCell ⟨b, 0, none⟩ u0).setCell ⟨b, 1, none⟩ u1).setCell ⟨b, 2, none⟩ u2).setCell ⟨b, 3, none⟩ u3).heap[b]? = some (.cells #[u0, u1, u2, u3] T (0, 0)) := by
  obtain ⟨cs, hk, T, h⟩ := h
  have h2 := blk_set (blk_set (blk_set (blk_set h 0 u0) 1 u1) 2 u2) 3 u3
  refine ⟨T, h2.trans ?_⟩
  obtain ⟨l⟩ := cs
  match l, hk with
  | [_, _, _, _], _ => rfl
theorem ABx.grown {w : World} {A : Option Addr} {c : Nat} {a : Scene} {W W1 : World} {v : Value} (h : ABx w A c a W) (hne : ∀ (q : Nat) (cs : Array Value), W.heap[q]? = some (.cells cs 39 (0, 0)) → some q ≠ v.ownBlock) (hg : W.grownBy W1 v.ownBlock) (hB : Below w.heap.size w W1) : ABx w A c a W1 :=
  ⟨hB, blk_grown h.sb hg (hne _ _ h.sb), blk_grown h.res hg (hne _ _ h.res), blk_grown h.non hg (hne _ _ h.non)⟩
theorem ABx.far {w : World} {A : Option Addr} {c : Nat} {a : Scene} {W : World} {g i : Nat} (h : ABx w A c a W) (hg : w.heap.size + 2 < g) (u : Value) : ABx w A c a (W.setCell ⟨g, i, none⟩ u) :=
  ⟨below_set h.below (by omega), (Below.heap_setCell W ⟨g, i, none⟩ u _ (by show w.heap.size ≠ g; omega)).trans h.sb, (Below.heap_setCell W ⟨g, i, none⟩ u _ (by show w.heap.size + 1 ≠ g; omega)).trans h.res, (Below.heap_setCell W ⟨g, i, none⟩ u _ (by show w.heap.size + 2 ≠ g; omega)).trans h.non⟩
section
variable {w : World} {g : Nat} {root : Int} {base : List Int} {bv : Value} {out : List Node} {ov : Value} {W W1 : World}
theorem AppRel.push {v1 : Value} {m : Node} (h : AppRel w g root base bv out ov W) (hR : kNode.R 26 W1 w.heap.size (fun k => some k ≠ bv.ownBlock) v1 (out ++ [m])) (hg : W.grownBy W1 ov.ownBlock) :
    W1.heap[g]? = some (.cells #[ov, .int .i64 root] 39 (0, 0)) ∧ AppRel w g root base bv (out ++ [m]) v1 (W1.setCell ⟨g, 0, none⟩ v1) := by
  have hblk := blk_grown h.box hg (Kd.R_ne h.rows h.box (by decide))
  refine ⟨hblk, ?_, h.ge, R_type hR hblk (by decide) _ _, R_type (Kd.R_over h.br (Kd.R_mono h.rows (fun _ _ => trivial) : kNode.R 26 W w.heap.size (fun _ => True) ov out) (by decide) hg) hblk (by decide) _ _⟩
  have := blk_set hblk 0 v1
  simpa using this
end
end Go.Proofs.YtglfebpgdghlfaaDoor.L
end
section
namespace Go.Proofs.YtglfebpgdghlfaaDoor.L
open Go.RowKit Go.ChangeShapes Go.WideShapes Go.Proofs.YtglfebpgdghlfaaDoorW.PrintWords Go.Proofs.YtglfebpgdghlfaaDoorW.PrintLast Go.Proofs.YtglfebpgdghlfaaDoorW.PrintMore
attribute [local go_sem] max2_int min2_int max_two min_two max_three min_three max_four min_four
def PO (ns : List Node) (m : List Int) : Prop := ∀ (a : List Int) (x : Int) (b : List Int), m = a ++ x :: b → ∀ k ∈ kids ns x, k ∈ a
theorem PO.nil (ns : List Node) : PO ns [] := fun a x b e => by
  have := congrArg List.length e
  simp at this
theorem PO.snoc {ns : List Node} {m : List Int} {x : Int} (h : PO ns m) (hk : ∀ k ∈ kids ns x, k ∈ m) : PO ns (m ++ [x]) := fun a y b e => by
  rcases snoc_cases b with rfl | ⟨b', z, rfl⟩
  · have e1 : m ++ [x] = a ++ [y] := e
    obtain ⟨rfl, e2⟩ := List.append_inj' e1 rfl
    injection e2 with e2
    subst e2
    exact hk
  · have e1 : m ++ [x] = (a ++ y :: b') ++ [z] := by rw [e]; simp
    obtain ⟨e2, _⟩ := List.append_inj' e1 rfl
    exact h a y b' e2
theorem isC_root {s : Scene} (h : Right s) (hc : isC s = true) : s.root = (s.nodes.length : Int) - 1 := by
  have e := isC_eq h hc
  have e2 : s.root = (⟨canonL s, (s.nodes.length : Int) - 1⟩ : Scene).root := congrArg Scene.root e
  exact e2
def keepO (i : Nat) : Opn := ⟨1, (i : Int), [], [], nodez⟩
theorem fin_same {s : Scene} (hty : (typedS newTab s.nodes).1 = 0) (h : Right s) (hc : isC s = true) : finR s.nodes = (s, 0, 0) := by
  have e : sceneOf s.nodes = s := by
    unfold sceneOf
    rw [← isC_root h hc]
  unfold finR
  rw [if_pos hty, e, if_pos (gcheck_right.2 h), if_pos hc]
end Go.Proofs.YtglfebpgdghlfaaDoor.L
end
section
namespace Go.Proofs.YtglfebpgdghlfaaDoor.L
open Go.RowKit Go.ChangeShapes Go.WideShapes Go.Proofs.YtglfebpgdghlfaaDoorW.PrintWords Go.Proofs.YtglfebpgdghlfaaDoorW.PrintLast Go.Proofs.YtglfebpgdghlfaaDoorW.PrintMore
attribute [local go_sem] max2_int min2_int max_two min_two max_three min_three max_four min_four
theorem one_right (n : Node) (hk : n.kids = []) : Right ⟨[n], 0⟩ := by
  have hk0 : ∀ p : Nat, p < 1 → kids [n] (p : Int) = [] := fun p hp => by
    obtain rfl : p = 0 := by omega
    exact hk
  refine ⟨by show (0 : Int) ≤ 0; omega, by show (0 : Int) < ([n].length : Int); simp, fun p hp k hk' => ?_, fun p hp hc => ?_, fun p hp => ?_⟩
  · have h1 : p < 1 := by simpa using hp
    have h2 : k ∈ kids [n] (p : Int) := by rw [kids_nat]; exact hk'
    rw [hk0 p h1] at h2
    simp at h2
  · have h1 : p < 1 := by simpa using hp
    have hc' : Rch [n] (kids [n] (p : Int)) (p : Int) := hc
    rw [hk0 p h1] at hc'
    have : ∀ x, ¬ Rch [n] [] x := fun x hr => by
      induction hr with
      | base hb => simp at hb
      | step _ _ ih => exact ih
    exact this _ hc'
  · obtain rfl : p = 0 := by simpa using hp
    exact .base (by simp)
theorem one_isC (n : Node) (hk : n.kids = []) : isC ⟨[n], 0⟩ = true := by
  refine (isC_iff (one_right n hk)).2 ?_
  have ho : ord ⟨[n], 0⟩ = [0] := by
    have hl := ord_len (one_right n hk)
    have hp := ord_pl (one_right n hk)
    match h : ord ⟨[n], 0⟩, hl with
    | [x], _ =>
      have := hp x (by rw [h]; simp)
      have h1 := this.1
      have h2 := this.2
      have h3 : (([n] : List Node).length : Int) = 1 := rfl
      have : x = 0 := by
        have h4 : x < (([n] : List Node).length : Int) := h2
        omega
      rw [this]
  have hc : canonL ⟨[n], 0⟩ = [n] := by
    unfold canonL
    rw [ho]
    show [relab _ (nd [n] 0)] = [n]
    unfold relab
    have e : (nd [n] 0) = n := rfl
    rw [e, hk]
    cases n
    simp only at hk
    subst hk
    rfl
  rw [hc]
  rfl
def bA : Node := ⟨4, [1], [⟨#[97]⟩], []⟩
def bB : Node := ⟨4, [2], [⟨#[97]⟩], []⟩
def sA : Scene := ⟨[bA], 0⟩
def sB : Scene := ⟨[bB], 0⟩
def eO : Opn := ⟨2, 0, [⟨false, 0, 2, ByteArray.empty⟩], [], nodez⟩
theorem sA_typed : (typedS newTab sA.nodes).1 = 0 := by kernel_rfl
theorem sB_typed : (typedS newTab sB.nodes).1 = 0 := by kernel_rfl
theorem sA_c : isC sA = true := one_isC bA rfl
theorem sB_c : isC sB = true := one_isC bB rfl
theorem sA_edit : applyR sA [eO] = (sB, 0, 0) := by
  unfold applyR
  rw [if_pos sA_typed, if_pos sA_c]
  have h1 : oneN sA.nodes [] eO = (bB, 0) := by kernel_rfl
  have h2 : doErr sA.nodes [] 0 eO = 0 := by
    unfold doErr
    rw [h1]
    kernel_rfl
  have h3 : runO sA.nodes [eO] [] [] 0 = .inl [bB] := by
    show (if doErr sA.nodes [] 0 eO = 0 then Sum.inl ([] ++ [(oneN sA.nodes [] eO).1]) else _) = _
    rw [if_pos h2, h1]
    rfl
  rw [h3]
  exact fin_same sB_typed (isC_right sB_c) sB_c
theorem sA_twice : applyR sA [keepO 0, keepO 0] = (⟨[], 0⟩, 21, 1) := by
  unfold applyR
  rw [if_pos sA_typed, if_pos sA_c]
  have h1 : oneN sA.nodes [] (keepO 0) = (bA, 0) := by kernel_rfl
  have h2 : doErr sA.nodes [] 0 (keepO 0) = 0 := by
    unfold doErr
    rw [h1]
    kernel_rfl
  have h3 : doErr sA.nodes [0] 1 (keepO 0) = 21 := by kernel_rfl
  have h4 : runO sA.nodes [keepO 0, keepO 0] [] [] 0 = .inr (21, 1) := by
    show (if doErr sA.nodes [] 0 (keepO 0) = 0 then (if doErr sA.nodes [0] 1 (keepO 0) = 0 then _ else Sum.inr (doErr sA.nodes [0] 1 (keepO 0), 1)) else _) = _
    rw [if_pos h2, h3]
    rfl
  rw [h4]
  rfl
theorem sA_none : applyR sA [] = (⟨[], 0⟩, 13, -1) := by
  unfold applyR
  rw [if_pos sA_typed, if_pos sA_c]
  show finR [] = _
  unfold finR
  have h1 : (typedS newTab ([] : List Node)).1 = 0 := rfl
  have h2 : gcheck (sceneOf []) = (13, -1) := by
    unfold gcheck
    rw [if_pos (.inl (by decide))]
  rw [if_pos h1, h2]
  rfl
theorem sA_ok : ∀ i : Nat, i < sA.nodes.length → OkN 4000 (nd sA.nodes i) := fun i hi => by
  match i, hi with
  | 0, _ => exact ⟨by decide, by decide, by decide, fun x hx => by
      have : x = ⟨#[97]⟩ := by simpa [sA, bA, nd] using hx
      subst this
      decide⟩
  | i + 1, h => exact absurd h (by show ¬ i + 1 < 1; omega)
theorem sB_small : ∀ i : Nat, i < sB.nodes.length → Small (nd sB.nodes i) := fun i hi => by
  match i, hi with
  | 0, _ => exact ⟨by decide, by decide, by decide⟩
  | i + 1, h => exact absurd h (by show ¬ i + 1 < 1; omega)
theorem eO_ok : ∀ k : Nat, k < [eO].length → OpOk (op [eO] k) := fun k hk => by
  match k, hk with
  | 0, _ => exact ⟨⟨by decide, by decide, by decide, fun x hx => by simp [op, eO, nodez] at hx⟩, by decide, by decide, fun x hx => by
      have : x = ⟨false, 0, 2, ByteArray.empty⟩ := by simpa [op, eO] using hx
      subst this
      decide, by decide, by decide, by decide, by decide⟩
  | k + 1, h => exact absurd h (by show ¬ k + 1 < 1; omega)
theorem keepO_ok (i : Nat) (hi : i ≤ 1000000) : OpOk (keepO i) :=
  ⟨⟨by simp [keepO, nodez], by simp [keepO, nodez], by simp [keepO, nodez], fun x hx => by simp [keepO, nodez] at hx⟩, by simp [keepO], by simp [keepO], fun x hx => by simp [keepO] at hx, by simp [keepO], by simp [keepO], by show -9223372036854775808 ≤ (i : Int); omega, by show (i : Int) ≤ 9223372036854775807; omega⟩
theorem kk_ok : ∀ k : Nat, k < [keepO 0, keepO 0].length → OpOk (op [keepO 0, keepO 0] k) := fun k hk => by
  match k, hk with
  | 0, _ => exact keepO_ok 0 (by omega)
  | 1, _ => exact keepO_ok 0 (by omega)
  | k + 2, h => exact absurd h (by show ¬ k + 2 < 2; omega)
end Go.Proofs.YtglfebpgdghlfaaDoor.L
end
section
namespace Go.Proofs.YtglfebpgdghlfaaDoor.L
open Go.RowKit Go.ChangeShapes Go.WideShapes Go.Proofs.YtglfebpgdghlfaaDoorW.PrintWords Go.Proofs.YtglfebpgdghlfaaDoorW.PrintLast Go.Proofs.YtglfebpgdghlfaaDoorW.PrintMore
attribute [local go_sem] max2_int min2_int max_two min_two max_three min_three max_four min_four
theorem rows_later {α : Type} {d : Kd α} {W0 w : World} {A : Option Addr} {n : Nat} {xs : List α} (h : d.C W0 A n xs) (hb : Below W0.heap.size W0 w) : ReadsRow (d.K W0) d.sz w A n xs :=
  ReadsRow.imp_ h hb (fun _ _ hp => hp)
theorem kOpn_mk {w : World} {o : Opn} {B1 : Option Addr} {d1 : Nat} {B2 : Option Addr} {d2 : Nat} {A1 : Option Addr} {c1 : Nat} {A2 : Option Addr} {c2 : Nat} {A3 : Option Addr} {c3 : Nat} (h : OpnC w o B1 d1 B2 d2 A1 c1 A2 c2 A3 c3) :
    kOpn.K w o [.int .i64 o.kind, .int .i64 o.base, .slice B1 o.sets.length d1, .slice B2 o.script.length d2, .int .i64 o.node.kind, .slice A1 o.node.ints.length c1, .slice A2 o.node.texts.length c2, .slice A3 o.node.kids.length c3] :=
  ⟨[_], _, rfl, rfl, [_], _, rfl, rfl, [_], _, rfl, ⟨B1, d1, rfl, h.ls, h.s⟩, [_], _, rfl, ⟨B2, d2, rfl, h.le, h.e⟩, kNode_mk h.n⟩
theorem info_op : (Tryd.prog.info? 61).map (fun i => (i.zero, i.size, i.bytes)) = some (some (.agg #[.int .i64 0, .int .i64 0, .slice none 0 0, .slice none 0 0, .int .i64 0, .slice none 0 0, .slice none 0 0, .slice none 0 0]), 8, 144) := by kernel_rfl
end Go.Proofs.YtglfebpgdghlfaaDoor.L
end
section
namespace Go.Proofs.YtglfebpgdghlfaaDoor.L
open Go.RowKit Go.ChangeShapes Go.WideShapes Go.Proofs.YtglfebpgdghlfaaDoorW.PrintWords Go.Proofs.YtglfebpgdghlfaaDoorW.PrintLast Go.Proofs.YtglfebpgdghlfaaDoorW.PrintMore
attribute [local go_sem] max2_int min2_int max_two min_two max_three min_three max_four min_four
abbrev nO1 (x : Int) : Obj := .cells #[.int .i64 x] 2
abbrev nO2 : Obj := .cells #[.string ⟨#[97]⟩] 9
abbrev nO3 (g : Nat) : Obj := .cells #[.int .i64 4, .slice (some ⟨g, 0, none⟩) 1 1, .slice (some ⟨g + 1, 0, none⟩) 1 1, .slice none 0 0] 26
theorem nB_C (w : World) (x : Int) (g : Nat) (hg : w.heap.size = g) : kNode.C (((w.alloc (nO1 x)).alloc nO2).alloc (nO3 g)) (some ⟨g + 1 + 1, 0, none⟩) 1 [⟨4, [x], [⟨#[97]⟩], []⟩] := by
  subst hg
  refine C_lits kNode _ 26 _ (by simp) [⟨4, [x], [⟨#[97]⟩], []⟩] [.int .i64 4, .slice (some ⟨w.heap.size, 0, none⟩) 1 1, .slice (some ⟨w.heap.size + 1, 0, none⟩) 1 1, .slice none 0 0] ?_ (by simp) rfl
  refine ⟨_, _, (show _ = [_, _, _, _] ++ [] from rfl), ?_, rfl⟩
  exact kNode_mk (x := ⟨4, [x], [⟨#[97]⟩], []⟩) ⟨by simp, by simp, by simp, Kd.C_alloc (C_ints w _ _ rfl [x] (by simp) rfl) _, C_strs _ _ _ (by simp) [⟨#[97]⟩] (by simp) rfl, C_nil _ _⟩
theorem eO_C (w : World) (g : Nat) (hg : w.heap.size = g) : kOpn.C ((w.alloc (.cells #[.bool false, .int .i64 0, .int .i64 2, .string ByteArray.empty] 84)).alloc (.cells #[.int .i64 2, .int .i64 0, .slice (some ⟨g, 0, none⟩) 1 1, .slice none 0 0, .int .i64 0, .slice none 0 0, .slice none 0 0, .slice none 0 0] 61)) (some ⟨g + 1, 0, none⟩) 1 [eO] := by
  subst hg
  refine C_lits kOpn _ 61 _ (by simp) [eO] [.int .i64 2, .int .i64 0, .slice (some ⟨w.heap.size, 0, none⟩) 1 1, .slice none 0 0, .int .i64 0, .slice none 0 0, .slice none 0 0, .slice none 0 0] ?_ (by simp) rfl
  refine ⟨_, _, (show _ = [_, _, _, _, _, _, _, _] ++ [] from rfl), ?_, rfl⟩
  refine kOpn_mk (o := eO) ⟨by simp [eO], ?_, by simp [eO], C_nil _ _, by simp [eO, nodez], by simp [eO, nodez], by simp [eO, nodez], C_nil _ _, C_nil _ _, C_nil _ _⟩
  refine C_lits kSet w 84 _ rfl [⟨false, 0, 2, ByteArray.empty⟩] [.bool false, .int .i64 0, .int .i64 2, .string ByteArray.empty] ?_ (by simp) rfl
  exact ⟨_, _, (show _ = [_, _, _, _] ++ [] from rfl), kSet.K_of_M (kSet_mk w 0 (fun _ => True) ⟨false, 0, 2, ByteArray.empty⟩), rfl⟩
theorem kk_C (w : World) (g : Nat) (hg : w.heap.size = g) : kOpn.C (w.alloc (.cells #[.int .i64 1, .int .i64 0, .slice none 0 0, .slice none 0 0, .int .i64 0, .slice none 0 0, .slice none 0 0, .slice none 0 0, .int .i64 1, .int .i64 0, .slice none 0 0, .slice none 0 0, .int .i64 0, .slice none 0 0, .slice none 0 0, .slice none 0 0] 61)) (some ⟨g, 0, none⟩) 2 [keepO 0, keepO 0] := by
  subst hg
  have hk : kOpn.K w (keepO 0) [.int .i64 1, .int .i64 0, .slice none 0 0, .slice none 0 0, .int .i64 0, .slice none 0 0, .slice none 0 0, .slice none 0 0] :=
    kOpn_mk (o := keepO 0) ⟨by simp [keepO], C_nil _ _, by simp [keepO], C_nil _ _, by simp [keepO, nodez], by simp [keepO, nodez], by simp [keepO, nodez], C_nil _ _, C_nil _ _, C_nil _ _⟩
  refine C_lits kOpn _ 61 _ rfl [keepO 0, keepO 0] _ ⟨_, _, rfl, hk, _, _, (show _ = [_, _, _, _, _, _, _, _] ++ [] from rfl), hk, rfl⟩ (by simp) rfl
set_option maxRecDepth 100000 in
set_option maxHeartbeats 4000000 in
theorem rawake_any (w : World) (hT : Tabs w) : Calls Tryd.prog 27 #[] w fun e w' => e = .returned (.bool true) ∧ Below w.heap.size w w' := by
  have HT := Aside0.mk hT
  have hua := Tryd.underlying39
  have hun := Tryd.underlying26
  have huo := Tryd.underlying61
  have hus := Tryd.underlying84
  clear hT
  go_enter Tryd.func27, Tryd.ntmps27
  go_wp2_with fail
  refine (rapp_any _ _ sA _ _ [eO] _ ?_ ?_ ?_ (by decide) (by decide) sA_ok eO_ok (by decide)).mono ?_
  · exact Kd.C_alloc (Kd.C_alloc (Kd.C_alloc (Kd.C_alloc (Kd.C_alloc (Kd.C_alloc (Kd.C_alloc (nB_C w 1 _ rfl) _) _) _) _) _) _) _
  · exact eO_C _ _ (by simp)
  · exact HT.out.below (below_alloc (below_alloc (below_alloc (below_alloc (below_alloc (below_alloc (below_alloc (below_alloc (below_alloc (below_alloc (Below.refl _ _) _) _) _) _) _) _) _) _) _) _)
  rintro e w1 ⟨A1, c1, rfl, hR1, hB1⟩
  rw [sA_edit] at hR1 ⊢
  have HB1 : Aside0 (Below w.heap.size w w1) := ⟨below_step (below_alloc (below_alloc (below_alloc (below_alloc (below_alloc (below_alloc (below_alloc (below_alloc (below_alloc (below_alloc (Below.refl _ _) _) _) _) _) _) _) _) _) _) _) hB1⟩
  have k0 : w1.cell? ⟨w.heap.size + 1 + 1 + 1, 0, none⟩ = some (.slice (some ⟨w.heap.size + 1 + 1, 0, none⟩) 1 1) := pw_cell_below hB1 (pw_cell_below (below_alloc (below_alloc (below_alloc (below_alloc (below_alloc (below_alloc (Below.refl _ _) _) _) _) _) _) _) (box_cell _ _ (by simp) #[.slice (some ⟨w.heap.size + 1 + 1, 0, none⟩) 1 1, .int .i64 0] _ 0 _ rfl))
  have k1 : w1.cell? ⟨w.heap.size + 1 + 1 + 1, 1, none⟩ = some (.int .i64 0) := pw_cell_below hB1 (pw_cell_below (below_alloc (below_alloc (below_alloc (below_alloc (below_alloc (below_alloc (Below.refl _ _) _) _) _) _) _) _) (box_cell _ _ (by simp) #[.slice (some ⟨w.heap.size + 1 + 1, 0, none⟩) 1 1, .int .i64 0] _ 1 _ rfl))
  have k2 : w1.cell? ⟨w.heap.size + 1 + 1 + 1 + 1 + 1 + 1 + 1, 0, none⟩ = some (.slice (some ⟨w.heap.size + 1 + 1 + 1 + 1 + 1 + 1, 0, none⟩) 1 1) := pw_cell_below hB1 (pw_cell_below (below_alloc (below_alloc (Below.refl _ _) _) _) (box_cell _ _ (by simp) #[.slice (some ⟨w.heap.size + 1 + 1 + 1 + 1 + 1 + 1, 0, none⟩) 1 1, .int .i64 0] _ 0 _ rfl))
  have k3 : w1.cell? ⟨w.heap.size + 1 + 1 + 1 + 1 + 1 + 1 + 1, 1, none⟩ = some (.int .i64 0) := pw_cell_below hB1 (pw_cell_below (below_alloc (below_alloc (Below.refl _ _) _) _) (box_cell _ _ (by simp) #[.slice (some ⟨w.heap.size + 1 + 1 + 1 + 1 + 1 + 1, 0, none⟩) 1 1, .int .i64 0] _ 1 _ rfl))
  have HA : Aside0 (kNode.C w1 (some ⟨w.heap.size + 1 + 1, 0, none⟩) 1 sA.nodes) := ⟨Kd.C_below (Kd.C_alloc (Kd.C_alloc (Kd.C_alloc (Kd.C_alloc (Kd.C_alloc (Kd.C_alloc (Kd.C_alloc (nB_C w 1 _ rfl) _) _) _) _) _) _) _) hB1⟩
  have HBn : Aside0 (kNode.C w1 (some ⟨w.heap.size + 1 + 1 + 1 + 1 + 1 + 1, 0, none⟩) 1 sB.nodes) := ⟨Kd.C_below (Kd.C_alloc (Kd.C_alloc (Kd.C_alloc (nB_C _ 2 _ (by simp)) _) _) _) hB1⟩
  have HC1 := Aside0.mk (Kd.R_reads' hR1).2.2
  have q0 := box_cell w1 _ rfl #[.slice A1 sB.nodes.length c1, .int .i64 sB.root] 39 0 (.slice A1 sB.nodes.length c1) rfl
  have q1 := box_cell w1 _ rfl #[.slice A1 sB.nodes.length c1, .int .i64 sB.root] 39 1 (.int .i64 sB.root) rfl
  have hA1 := below_alloc (Below.refl w1.heap.size w1) (.cells #[.slice A1 sB.nodes.length c1, .int .i64 sB.root] 39)
  replace k0 := pw_cell_below hA1 k0
  replace k1 := pw_cell_below hA1 k1
  replace k2 := pw_cell_below hA1 k2
  replace k3 := pw_cell_below hA1 k3
  have HB2 := Aside0.mk (below_step HB1.out hA1)
  have HA2 := Aside0.mk (Kd.C_below HA.out hA1)
  have HBn2 := Aside0.mk (Kd.C_below HBn.out hA1)
  have HC2 := Aside0.mk (Kd.C_below HC1.out hA1)
  clear hR1 hB1 HA HBn HC1 hA1 HB1
  go_wp2_with fail
  refine (rapp_any _ _ sA _ _ [keepO 0, keepO 0] _ ?_ ?_ ?_ (by decide) (by decide) sA_ok kk_ok (by decide)).mono ?_
  · exact Kd.C_alloc HA2.out _
  · exact kk_C _ _ (by simp)
  · exact HT.out.below (below_alloc HB2.out _)
  rintro e w2 ⟨A2, c2, rfl, hR2, hB2⟩
  rw [sA_twice] at hR2 ⊢
  have HB3 := Aside0.mk (below_step (below_alloc HB2.out _) hB2)
  have HA3 := Aside0.mk (Kd.C_below (Kd.C_alloc HA2.out _) hB2)
  have HBn3 := Aside0.mk (Kd.C_below (Kd.C_alloc HBn2.out _) hB2)
  have HC3 := Aside0.mk (Kd.C_below (Kd.C_alloc HC2.out _) hB2)
  replace k0 := pw_cell_below hB2 (pw_cell_below (below_alloc (Below.refl _ _) _) k0)
  replace k1 := pw_cell_below hB2 (pw_cell_below (below_alloc (Below.refl _ _) _) k1)
  replace k2 := pw_cell_below hB2 (pw_cell_below (below_alloc (Below.refl _ _) _) k2)
  replace k3 := pw_cell_below hB2 (pw_cell_below (below_alloc (Below.refl _ _) _) k3)
  replace q0 := pw_cell_below hB2 (pw_cell_below (below_alloc (Below.refl _ _) _) q0)
  replace q1 := pw_cell_below hB2 (pw_cell_below (below_alloc (Below.refl _ _) _) q1)
  have hA3 := below_alloc (Below.refl w2.heap.size w2) (.cells #[.slice A2 0 c2, .int .i64 0] 39)
  replace k0 := pw_cell_below hA3 k0
  replace k1 := pw_cell_below hA3 k1
  replace k2 := pw_cell_below hA3 k2
  replace k3 := pw_cell_below hA3 k3
  replace q0 := pw_cell_below hA3 q0
  replace q1 := pw_cell_below hA3 q1
  have HB4 := Aside0.mk (below_step HB3.out hA3)
  have HA4 := Aside0.mk (Kd.C_below HA3.out hA3)
  have HBn4 := Aside0.mk (Kd.C_below HBn3.out hA3)
  have HC4 := Aside0.mk (Kd.C_below HC3.out hA3)
  clear hR2 hB2 HB2 HA2 HBn2 HC2 HB3 HA3 HBn3 HC3 hA3
  go_wp2_with fail
  refine (rapp_any _ _ sA _ _ [] _ ?_ ?_ ?_ (by decide) (by decide) sA_ok (fun k hk => absurd hk (Nat.not_lt_zero k)) (by decide)).mono ?_
  · exact HA4.out
  · exact C_nil _ _
  · exact HT.out.below HB4.out
  rintro e w3 ⟨A3, c3, rfl, hR3, hB3⟩
  rw [sA_none] at hR3 ⊢
  have hA5 := below_alloc (Below.refl w3.heap.size w3) (.cells #[.slice A3 0 c3, .int .i64 0] 39)
  replace k2 := pw_cell_below hA5 (pw_cell_below hB3 k2)
  replace k3 := pw_cell_below hA5 (pw_cell_below hB3 k3)
  replace q0 := pw_cell_below hA5 (pw_cell_below hB3 q0)
  replace q1 := pw_cell_below hA5 (pw_cell_below hB3 q1)
  have HB5 := Aside0.mk (below_step (below_step HB4.out hB3) hA5)
  have HBn5 := Aside0.mk (Kd.C_below (Kd.C_below HBn4.out hB3) hA5)
  have HC5 := Aside0.mk (Kd.C_below (Kd.C_below HC4.out hB3) hA5)
  clear hR3 hB3 HB4 HA4 HBn4 HC4 hA5 k0 k1
  go_wp2_with fail
  refine (sameS_any _ _ sB _ _ sB _ HC5.out HBn5.out sB_small).mono ?_
  rintro e w4 ⟨rfl, hB4⟩
  rw [sameS_yes rfl]
  have HB6 := Aside0.mk (below_step HB5.out hB4)
  clear hB4 k2 k3 q0 q1
  go_wp2
  go_ret
  exact ⟨rfl, HB6.out⟩
end Go.Proofs.YtglfebpgdghlfaaDoor.L
end
section
namespace Go.Proofs.YtglfebpgdghlfaaDoor.L
open Go.RowKit Go.ChangeShapes Go.WideShapes Go.Proofs.YtglfebpgdghlfaaDoorW.PrintWords Go.Proofs.YtglfebpgdghlfaaDoorW.PrintLast Go.Proofs.YtglfebpgdghlfaaDoorW.PrintMore
attribute [local go_sem] max2_int min2_int max_two min_two max_three min_three max_four min_four
def setsBad (l : List SetV) : Prop := ∃ i, i < l.length ∧ 500 < (st l i).s.size
def greatOp (o : Opn) : Prop := greatN o.node = true ∨ 50 < o.sets.length ∨ 100 < o.script.length ∨ setsBad o.sets
instance (l : List SetV) : Decidable (setsBad l) := by unfold setsBad; infer_instance
instance (o : Opn) : Decidable (greatOp o) := by unfold greatOp; infer_instance
def greatO (l : List Opn) : Bool := decide (60 < l.length ∨ ∃ j, j < l.length ∧ greatOp (op l j))
theorem greatO_long {l : List Opn} (h : 60 < l.length) : greatO l = true := decide_eq_true (.inl h)
theorem greatO_at {l : List Opn} {j : Nat} (hj : j < l.length) (h : greatOp (op l j)) : greatO l = true := decide_eq_true (.inr ⟨j, hj, h⟩)
theorem greatO_no {l : List Opn} (h1 : ¬ 60 < l.length) (h : ∀ j : Nat, j < l.length → ¬ greatOp (op l j)) : greatO l = false := decide_eq_false (fun hh => by
  rcases hh with hh | ⟨j, hj, hh⟩
  · exact h1 hh
  · exact h j hj hh)
set_option maxRecDepth 100000 in
set_option maxHeartbeats 4000000 in
theorem greatO_any (Al : Option Addr) (cl : Nat) (l : List Opn) (w : World) (h : kOpn.C w Al l.length l) :
    Calls Tryd.prog 53 #[.slice Al l.length cl] w fun e w' => e = .returned (.bool (greatO l)) ∧ Below w.heap.size w w' := by
  have HR := Aside0.mk h
  have b0 := h.2.1
  have HB := Aside0.mk (Below.refl w.heap.size w)
  have huo := Tryd.underlying61
  have hus := Tryd.underlying84
  have hun := Tryd.underlying26
  clear h
  by_cases h1 : 60 < l.length
  · have HE := Aside0.mk (greatO_long h1)
    have d1 : decide (60 < (l.length : Int)) = true := decide_eq_true (by omega)
    clear h1
    go_enter Tryd.func53, Tryd.ntmps53
    go_wp2
    go_ret
    exact ⟨ret_bool HE.out.symm, HB.out⟩
  have H1 := Aside0.mk h1
  have d1 : decide (60 < (l.length : Int)) = false := decide_eq_false (by omega)
  clear h1
  go_enter Tryd.func53, Tryd.ntmps53
  go_wp2
  clear d1
  go_loopw [3, 4] (fun v3 _ W => ∃ i : Nat, i ≤ l.length ∧ v3 = .int .i64 i ∧ Aside0 (∀ j : Nat, j < i → ¬ greatOp (op l j)) ∧ Aside0 (Below w.heap.size w W)) (fun v3 _ _ => l.length - (intOf v3).toNat)
  case atStart => exact ⟨0, by omega, rfl, ⟨fun j h => by omega⟩, HB⟩
  case round =>
    clear HB
    obtain ⟨i, hi, rfl, HJ, HW⟩ := hrel
    by_cases hlt : i < l.length
    · obtain ⟨ad, B1, d1, B2, d2, A1, c1, A2, c2, A3, c3, rfl, x0, x1, x2, x3, x4, x5, x6, x7, hO⟩ := at_op HR.out i hlt
      replace x2 := pw_cell_below HW.out x2
      replace x3 := pw_cell_below HW.out x3
      replace x4 := pw_cell_below HW.out x4
      replace x5 := pw_cell_below HW.out x5
      replace x6 := pw_cell_below HW.out x6
      replace x7 := pw_cell_below HW.out x7
      have HO := Aside0.mk (hO.below HW.out)
      have HAt := Aside0.mk (fun hh => greatO_at (l := l) hlt hh)
      have HNx := Aside0.mk (fun (hh : ¬ greatOp (op l i)) => ext_lt (P := fun j => ¬ greatOp (op l j)) HJ.out hh)
      clear hO x0 x1
      generalize op l i = o at x2 x3 x4 x5 x6 x7 HO HAt HNx
      go_wp2_with fail
      refine (great_any o.node A1 c1 A2 c2 A3 c3 _ HO.out.n).mono ?_
      rintro e w2 ⟨rfl, hB2⟩
      replace x2 := pw_cell_below hB2 x2
      replace x3 := pw_cell_below hB2 x3
      have HO2 := Aside0.mk (HO.out.below hB2)
      have HW2 := Aside0.mk (below_step HW.out hB2)
      clear hB2 x4 x5 x6 x7 HO HW
      cases hg : greatN o.node with
      | true =>
        have HE := Aside0.mk (HAt.out (.inl hg))
        clear hg
        go_wp2
        go_ret
        exact ⟨ret_bool HE.out.symm, HW2.out⟩
      | false =>
        have HG := Aside0.mk (show ¬ greatN o.node = true from by rw [hg]; simp)
        clear hg
        have hls := HO2.out.s.2.1
        have hle := HO2.out.e.2.1
        by_cases h2 : 50 < o.sets.length
        · have HE := Aside0.mk (HAt.out (.inr (.inl h2)))
          have d2 : decide (50 < (o.sets.length : Int)) = true := decide_eq_true (by omega)
          clear h2
          go_wp2
          go_ret
          exact ⟨ret_bool HE.out.symm, HW2.out⟩
        have H2 := Aside0.mk h2
        have d2 : decide (50 < (o.sets.length : Int)) = false := decide_eq_false (by omega)
        clear h2
        by_cases h3 : 100 < o.script.length
        · have HE := Aside0.mk (HAt.out (.inr (.inr (.inl h3))))
          have d3 : decide (100 < (o.script.length : Int)) = true := decide_eq_true (by omega)
          clear h3
          go_wp2
          go_ret
          exact ⟨ret_bool HE.out.symm, HW2.out⟩
        have H3 := Aside0.mk h3
        have d3 : decide (100 < (o.script.length : Int)) = false := decide_eq_false (by omega)
        clear h3
        go_wp2
        clear d2 d3
        go_loopw [4] (fun v4 W => ∃ k : Nat, k ≤ o.sets.length ∧ v4 = .int .i64 k ∧ Aside0 (∀ j : Nat, j < k → ¬ 500 < (st o.sets j).s.size) ∧ Aside0 (Below w.heap.size w W ∧ W.cell? ⟨(ad.add (i * 8)).block, (ad.add (i * 8)).off + 2, none⟩ = some (.slice B1 o.sets.length d1) ∧ kSet.C W B1 o.sets.length o.sets)) (fun v4 _ => o.sets.length - (intOf v4).toNat)
        case atStart => exact ⟨0, by omega, rfl, ⟨fun j h => by omega⟩, ⟨HW2.out, x2, HO2.out.s⟩⟩
        case round =>
          clear x2 x3 HO2 HW2
          obtain ⟨k, hk, rfl, HK, HV⟩ := hrel
          have x2 := HV.out.2.1
          by_cases hk2 : k < o.sets.length
          · obtain ⟨ad2, rfl, y0, y1, y2, y3⟩ := at_set HV.out.2.2 k hk2
            by_cases h5 : 500 < (st o.sets k).s.size
            · have HE := Aside0.mk (HAt.out (.inr (.inr (.inr ⟨k, hk2, h5⟩))))
              have d5 : decide (500 < ((st o.sets k).s.size : Int)) = true := decide_eq_true (by omega)
              clear h5
              go_wp2
              go_ret
              exact ⟨ret_bool HE.out.symm, HV.out.1⟩
            · have HK2 := Aside0.mk (ext_lt HK.out h5)
              have d5 : decide (500 < ((st o.sets k).s.size : Int)) = false := decide_eq_false (by omega)
              clear h5
              go_wp2
              go_roundw
              case rel => exact ⟨k + 1, by omega, by go_num, HK2, HV⟩
              case measure => simp [intOf]; omega
          · have HN := Aside0.mk (HNx.out (fun hh => by
              rcases hh with hh | hh | hh | ⟨j, hj, hh⟩
              · exact HG.out hh
              · exact H2.out hh
              · exact H3.out hh
              · exact HK.out j (by omega) hh))
            have HV1 := Aside0.mk HV.out.1
            go_wp2
            go_roundw
            case rel => exact ⟨i + 1, by omega, by go_num, HN, HV1⟩
            case measure => simp [intOf]; omega
    · obtain rfl : i = l.length := by omega
      have HE := Aside0.mk (greatO_no H1.out HJ.out)
      go_wp2
      go_ret
      exact ⟨ret_bool HE.out.symm, HW.out⟩
end Go.Proofs.YtglfebpgdghlfaaDoor.L
end
section
namespace Go.Proofs.YtglfebpgdghlfaaDoor.L
open Go.RowKit Go.ChangeShapes Go.WideShapes Go.Proofs.YtglfebpgdghlfaaDoorW.PrintWords Go.Proofs.YtglfebpgdghlfaaDoorW.PrintLast Go.Proofs.YtglfebpgdghlfaaDoorW.PrintMore
attribute [local go_sem] max2_int min2_int max_two min_two max_three min_three max_four min_four
theorem runO_ok {a : List Node} (ha : ∀ i : Nat, i < a.length → OkN 4000 (nd a i)) : ∀ (l : List Opn) (base : List Int) (out : List Node) (i : Nat), (∀ o ∈ l, OpOk o) → (∀ k : Nat, k < out.length → OkN 5000 (nd out k)) →
    ∀ out', runO a l base out i = .inl out' → (∀ k : Nat, k < out'.length → OkN 5000 (nd out' k)) ∧ out'.length = out.length + l.length
  | [], base, out, i, _, ho, out', h => by
    have h' : (Sum.inl out : List Node ⊕ (Int × Nat)) = .inl out' := h
    injection h' with h'
    subst h'
    exact ⟨ho, rfl⟩
  | o :: l, base, out, i, hl, ho, out', h => by
    have h' : (if doErr a base out.length o = 0 then runO a l (base ++ [baseOf o]) (out ++ [(oneN a base o).1]) (i + 1) else .inr (doErr a base out.length o, i)) = .inl out' := h
    by_cases hz : doErr a base out.length o = 0
    · rw [if_pos hz] at h'
      have h0 : (oneN a base o).2 = 0 := by
        refine Classical.byContradiction fun hn0 => ?_
        unfold doErr at hz
        rw [if_neg hn0] at hz
        exact hn0 hz
      obtain ⟨h1, h2⟩ := runO_ok ha l (base ++ [baseOf o]) (out ++ [(oneN a base o).1]) (i + 1) (fun x hx => hl x (by simp [hx])) (nd_snoc ho (oneN_ok ha (hl o (by simp)) h0)) out' h'
      refine ⟨h1, ?_⟩
      rw [h2]
      simp only [List.length_append, List.length_cons, List.length_nil]
      omega
    · rw [if_neg hz] at h'
      cases h'
theorem applyR_yes {a : Scene} {l : List Opn} (ha : ∀ i : Nat, i < a.nodes.length → OkN 4000 (nd a.nodes i)) (hl : ∀ o ∈ l, OpOk o) (h : (applyR a l).2.1 = 0) :
    (∀ k : Nat, k < (applyR a l).1.nodes.length → OkN 5000 (nd (applyR a l).1.nodes k)) ∧ (applyR a l).1.nodes.length = l.length ∧ (typedS newTab (applyR a l).1.nodes).1 = 0 ∧ Right (applyR a l).1 ∧ isC (applyR a l).1 = true := by
  unfold applyR at h ⊢
  by_cases h1 : (typedS newTab a.nodes).1 = 0
  · rw [if_pos h1] at h ⊢
    by_cases h2 : isC a = true
    · rw [if_pos h2] at h ⊢
      cases hr : runO a.nodes l [] [] 0 with
      | inr q =>
        rw [hr] at h
        have h' : q.1 = 0 := h
        exfalso
        -- an error is not 0
        have key : ∀ (l : List Opn) (base : List Int) (out : List Node) (i : Nat) (q : Int × Nat), runO a.nodes l base out i = .inr q → ¬ q.1 = 0 := fun l => by
          induction l with
          | nil => intro base out i q h; cases h
          | cons o l ih =>
            intro base out i q h
            have h3 : (if doErr a.nodes base out.length o = 0 then runO a.nodes l (base ++ [baseOf o]) (out ++ [(oneN a.nodes base o).1]) (i + 1) else .inr (doErr a.nodes base out.length o, i)) = .inr q := h
            by_cases hz : doErr a.nodes base out.length o = 0
            · rw [if_pos hz] at h3; exact ih _ _ _ _ h3
            · rw [if_neg hz] at h3
              injection h3 with h3
              subst h3
              exact hz
        exact key _ _ _ _ _ hr h'
      | inl out =>
        rw [hr] at h
        have h' : (finR out).2.1 = 0 := h
        obtain ⟨k1, k2⟩ := runO_ok ha l [] [] 0 hl (fun k hk => by simp at hk) out hr
        show (∀ k : Nat, k < (finR out).1.nodes.length → OkN 5000 (nd (finR out).1.nodes k)) ∧ (finR out).1.nodes.length = l.length ∧ (typedS newTab (finR out).1.nodes).1 = 0 ∧ Right (finR out).1 ∧ isC (finR out).1 = true
        unfold finR at h' ⊢
        by_cases g1 : (typedS newTab out).1 = 0
        · rw [if_pos g1] at h' ⊢
          by_cases g2 : (gcheck (sceneOf out)).1 = 0
          · rw [if_pos g2] at h' ⊢
            by_cases g3 : isC (sceneOf out) = true
            · rw [if_pos g3]
              exact ⟨k1, by rw [List.length_nil] at k2; show out.length = _; omega, g1, gcheck_right.1 g2, g3⟩
            · rw [if_neg g3] at h'
              have h3 : (16 : Int) = 0 := h'
              omega
          · rw [if_neg g2] at h'
            exact absurd h' g2
        · rw [if_neg g1] at h'
          exact absurd h' g1
    · rw [if_neg h2] at h
      have h3 : (16 : Int) = 0 := h
      omega
  · rw [if_neg h1] at h
    exact absurd h h1
theorem applyR_no {a : Scene} {l : List Opn} (h : ¬ (applyR a l).2.1 = 0) : (applyR a l).1.nodes = [] := by
  unfold applyR at h ⊢
  by_cases h1 : (typedS newTab a.nodes).1 = 0
  · rw [if_pos h1] at h ⊢
    by_cases h2 : isC a = true
    · rw [if_pos h2] at h ⊢
      cases hr : runO a.nodes l [] [] 0 with
      | inr q => rfl
      | inl out =>
        rw [hr] at h
        have h' : ¬ (finR out).2.1 = 0 := h
        show (finR out).1.nodes = []
        unfold finR at h' ⊢
        by_cases g1 : (typedS newTab out).1 = 0
        · rw [if_pos g1] at h' ⊢
          by_cases g2 : (gcheck (sceneOf out)).1 = 0
          · rw [if_pos g2] at h' ⊢
            by_cases g3 : isC (sceneOf out) = true
            · rw [if_pos g3] at h'
              exact absurd rfl h'
            · rw [if_neg g3]
          · rw [if_neg g2]
        · rw [if_neg g1]
    · rw [if_neg h2]
  · rw [if_neg h1]
theorem applyR_small {a : Scene} {l : List Opn} (ha : ∀ i : Nat, i < a.nodes.length → OkN 4000 (nd a.nodes i)) (hl : ∀ o ∈ l, OpOk o) : ∀ k : Nat, k < (applyR a l).1.nodes.length → OkN 5000 (nd (applyR a l).1.nodes k) := by
  by_cases h : (applyR a l).2.1 = 0
  · exact (applyR_yes ha hl h).1
  · rw [applyR_no h]
    intro k hk
    simp at hk
theorem op_all {l : List Opn} {P : Opn → Prop} (h : ∀ k : Nat, k < l.length → P (op l k)) : ∀ o ∈ l, P o := fun o ho => by
  obtain ⟨k, hk, rfl⟩ := List.getElem_of_mem ho
  have := h k hk
  rwa [op_eq hk] at this
end Go.Proofs.YtglfebpgdghlfaaDoor.L
end
section
namespace Go.Proofs.YtglfebpgdghlfaaDoor.L
open Go.RowKit Go.ChangeShapes Go.WideShapes Go.Proofs.YtglfebpgdghlfaaDoorW.PrintWords Go.Proofs.YtglfebpgdghlfaaDoorW.PrintLast Go.Proofs.YtglfebpgdghlfaaDoorW.PrintMore
attribute [local go_sem] max2_int min2_int max_two min_two max_three min_three max_four min_four
theorem RowsPost.drew {l : List Node} {w W : World} {e : Ending} (h : RowsPost l w e W) : RowsPost l w e W.drew := by
  obtain ⟨g, c, he, hS, hB⟩ := h
  exact ⟨g, c, he, Kd.S_drew hS, below_drew hB⟩
end Go.Proofs.YtglfebpgdghlfaaDoor.L
end
section
namespace Go.Proofs.YtglfebpgdghlfaaDoor.L
open Go.RowKit Go.ChangeShapes Go.WideShapes Go.Proofs.YtglfebpgdghlfaaDoorW.PrintWords Go.Proofs.YtglfebpgdghlfaaDoorW.PrintLast Go.Proofs.YtglfebpgdghlfaaDoorW.PrintMore
attribute [local go_sem] max2_int min2_int max_two min_two max_three min_three max_four min_four
open Go.Proofs.YtglfebpgdghlfaaDoor.PUpgradeUps
theorem CnRel.kid {w1 : World} {root : Int} {xs : List Node} {g m c : Nat} {W : World} (h : CnRel w1 root xs (.slice (some ⟨g, 0, none⟩) m c) W) (i : Nat) (hi : i < m) {v : Value} {q : List Int} (hv : (Kd.int .i64).R 3 W w1.heap.size (fun _ => True) v q) :
    (∃ x, W.cell? ⟨g, i * 4 + 3, none⟩ = some x) ∧ W.frozen? ⟨g, i * 4 + 3, none⟩ = false ∧ CnRel w1 root (xs.set i (withKids (nd xs i) q)) (.slice (some ⟨g, 0, none⟩) m c) (W.setCell ⟨g, i * 4 + 3, none⟩ v) := by
  obtain ⟨cs, hcl, hM, hcc, hfr⟩ := R_elemN h.row nodez i hi
  obtain ⟨v1, v2, v3, rfl, h1, h2, h3⟩ := kNode_openM hM
  have hM' : kNode.M W w1.heap.size (fun k => True ∧ k ≠ g) (withKids (nd xs i) q) [.int .i64 (nd xs i).kind, v1, v2, v] :=
    kNode_mkM h1 h2 (Kd.R_mono (Kd.R_tight rfl hv) (fun k hk => ⟨trivial, fun e => R_apart hv h.row (by decide) k hk (by rw [e]; rfl)⟩))
  obtain ⟨hs, hg⟩ := R_segN h.row i hi (seg := [v]) (j := 3) hcl hcc (Nat.le_refl 4) (x' := withKids (nd xs i) q) (okp := fun k => True ∧ k ≠ g) hM' (fun k hk => hk)
  have e : W.setCells g (i * kNode.sz + 3) [v] = W.setCell ⟨g, i * 4 + 3, none⟩ v := rfl
  rw [e] at hs hg
  have hgw := Kd.R_base h.row g rfl
  refine ⟨⟨_, hcc 3 _ rfl⟩, hfr 3, below_set h.below hgw, blk_grown h.out hg (fun e => ?_), hs⟩
  exact (Kd.R_ne h.row h.out (by decide)) e
theorem S_elem {w : World} {base m c : Nat} {A : Option Addr} {xs : List Node} (h : Kd.S kNode 26 w base (fun _ => True) (.slice A m c) xs) (j : Nat) (hj : j < xs.length) :
    ∃ g A1 c1 A2 c2 A3 c3, A = some ⟨g, 0, none⟩ ∧ m = xs.length ∧ w.cell? ⟨g, j * 4, none⟩ = some (.int .i64 (nd xs j).kind) ∧ w.cell? ⟨g, j * 4 + 1, none⟩ = some (.slice A1 (nd xs j).ints.length c1) ∧ w.cell? ⟨g, j * 4 + 2, none⟩ = some (.slice A2 (nd xs j).texts.length c2) ∧ w.cell? ⟨g, j * 4 + 3, none⟩ = some (.slice A3 (nd xs j).kids.length c3) ∧
      (Kd.int .i64).R 2 w base (fun _ => True) (.slice A1 (nd xs j).ints.length c1) (nd xs j).ints ∧ Kd.string.R 9 w base (fun _ => True) (.slice A2 (nd xs j).texts.length c2) (nd xs j).texts ∧ (Kd.int .i64).R 3 w base (fun _ => True) (.slice A3 (nd xs j).kids.length c3) (nd xs j).kids := by
  have hR := Kd.S_R h
  have hm := (Kd.R_reads' hR).1
  obtain ⟨g, c', hv, -⟩ := Kd.R_form hR (by omega)
  injection hv with hA _ hc
  subst hA hc
  obtain ⟨cs, hcl, hM, hcc, hfr⟩ := R_elemN hR nodez j (by omega)
  obtain ⟨v1, v2, v3, rfl, h1, h2, h3⟩ := kNode_openM hM
  obtain ⟨A1, c1, rfl⟩ := Kd.R_slice h1
  obtain ⟨A2, c2, rfl⟩ := Kd.R_slice h2
  obtain ⟨A3, c3, rfl⟩ := Kd.R_slice h3
  exact ⟨g, A1, c1, A2, c2, A3, c3, rfl, hm, hcc 0 _ rfl, hcc 1 _ rfl, hcc 2 _ rfl, hcc 3 _ rfl, Kd.R_mono h1 (fun _ _ => trivial), Kd.R_mono h2 (fun _ _ => trivial), Kd.R_mono h3 (fun _ _ => trivial)⟩
end Go.Proofs.YtglfebpgdghlfaaDoor.L
end
section
namespace Go.Proofs.YtglfebpgdghlfaaDoor.L
open Go.RowKit Go.ChangeShapes Go.WideShapes Go.Proofs.YtglfebpgdghlfaaDoorW.PrintWords Go.Proofs.YtglfebpgdghlfaaDoorW.PrintLast Go.Proofs.YtglfebpgdghlfaaDoorW.PrintMore
attribute [local go_sem] max2_int min2_int max_two min_two max_three min_three max_four min_four
theorem great_small {n : Node} (h : greatN n = false) : Small n ∧ TextsSmall n := by
  have h' := of_decide_eq_false h
  have h1 : ¬ 100 < n.ints.length := fun e => h' (.inl e)
  have h2 : ¬ 100 < n.texts.length := fun e => h' (.inr (.inl e))
  have h3 : ¬ 300 < n.kids.length := fun e => h' (.inr (.inr (.inl e)))
  refine ⟨⟨by omega, by omega, by omega⟩, fun j hj => ?_⟩
  have h4 : ¬ 500 < (str n.texts j).size := fun e => h' (.inr (.inr (.inr ⟨j, hj, e⟩)))
  omega
end Go.Proofs.YtglfebpgdghlfaaDoor.L
end
section
namespace Go.Proofs.YtglfebpgdghlfaaDoor.L
open Go.RowKit Go.ChangeShapes Go.WideShapes Go.Proofs.YtglfebpgdghlfaaDoorW.PrintWords Go.Proofs.YtglfebpgdghlfaaDoorW.PrintLast Go.Proofs.YtglfebpgdghlfaaDoorW.PrintMore
attribute [local go_sem] max2_int min2_int max_two min_two max_three min_three max_four min_four
open Go.Proofs.YtglfebpgdghlfaaDoor.PUpgradeUps
theorem greatS_small {s : Scene} (h : greatS s = false) : s.nodes.length ≤ 60 ∧ (∀ i : Nat, i < s.nodes.length → Small (nd s.nodes i)) ∧ (∀ i : Nat, i < s.nodes.length → TextsSmall (nd s.nodes i)) ∧ (∀ i : Nat, i < s.nodes.length → (nd s.nodes i).kids.length ≤ 300) := by
  have h' := of_decide_eq_false h
  have h1 : ¬ 60 < s.nodes.length := fun e => h' (.inl e)
  have hg : ∀ i : Nat, i < s.nodes.length → greatN (nd s.nodes i) = false := fun i hi => Bool.eq_false_iff.2 (fun e => h' (.inr (.inr ⟨i, hi, e⟩)))
  refine ⟨by omega, fun i hi => (great_small (hg i hi)).1, fun i hi => (great_small (hg i hi)).2, fun i hi => ?_⟩
  have h2 := of_decide_eq_false (hg i hi)
  have h3 : ¬ 300 < (nd s.nodes i).kids.length := fun e => h2 (.inr (.inr (.inl e)))
  omega
theorem sum_le_of {f : Nat → Nat} {b : Nat} : ∀ l : List Nat, (∀ x ∈ l, f x ≤ b) → (l.map f).sum ≤ l.length * b
  | [], _ => by simp
  | x :: l, h => by
    have := sum_le_of (f := f) (b := b) l (fun y hy => h y (by simp [hy]))
    have := h x (by simp)
    rw [List.map_cons, List.sum_cons, List.length_cons, Nat.succ_mul]
    omega
theorem rows_le {ns : List Node} {b : Nat} (h : ∀ i : Nat, i < ns.length → (nd ns i).kids.length ≤ b) : rows ns ≤ ns.length * (b + 1) := by
  unfold rows
  have := sum_le_of (f := wt ns) (b := b + 1) (List.range ns.length) (fun x hx => by
    have := h x (List.mem_range.1 hx)
    unfold wt
    omega)
  rwa [List.length_range] at this
end Go.Proofs.YtglfebpgdghlfaaDoor.L
end
section
namespace Go.Proofs.YtglfebpgdghlfaaDoor.L
open Go.RowKit Go.ChangeShapes Go.WideShapes Go.Proofs.YtglfebpgdghlfaaDoorW.PrintWords Go.Proofs.YtglfebpgdghlfaaDoorW.PrintLast Go.Proofs.YtglfebpgdghlfaaDoorW.PrintMore
attribute [local go_sem] max2_int min2_int max_two min_two max_three min_three max_four min_four
structure OpBd (o : Opn) : Prop where
  k0 : -9223372036854775808 ≤ o.kind
  k1 : o.kind ≤ 9223372036854775807
  b0 : -9223372036854775808 ≤ o.base
  b1 : o.base ≤ 9223372036854775807
theorem great_okN {n : Node} {b : Nat} (h : greatN n = false) (hb : 300 ≤ b) : OkN b n := by
  obtain ⟨h1, h2⟩ := great_small h
  have h3 := of_decide_eq_false h
  have h4 : ¬ 300 < n.kids.length := fun e => h3 (.inr (.inr (.inl e)))
  refine ⟨h1.1, h1.2.1, by omega, fun x hx => ?_⟩
  obtain ⟨j, hj, rfl⟩ := List.getElem_of_mem hx
  have := h2 j hj
  unfold str at this
  rwa [List.getD_eq_getElem?_getD, List.getElem?_eq_getElem hj] at this
theorem greatS_okN {s : Scene} (h : greatS s = false) : ∀ i : Nat, i < s.nodes.length → OkN 4000 (nd s.nodes i) := fun i hi => by
  have h' := of_decide_eq_false h
  exact great_okN (Bool.eq_false_iff.2 (fun e => h' (.inr (.inr ⟨i, hi, e⟩)))) (by omega)
theorem greatO_ok {l : List Opn} (h : greatO l = false) (hb : ∀ k : Nat, k < l.length → OpBd (op l k)) : l.length ≤ 60 ∧ ∀ k : Nat, k < l.length → OpOk (op l k) := by
  have h' := of_decide_eq_false h
  have h1 : ¬ 60 < l.length := fun e => h' (.inl e)
  refine ⟨by omega, fun k hk => ?_⟩
  have h2 : ¬ greatOp (op l k) := fun e => h' (.inr ⟨k, hk, e⟩)
  have hb := hb k hk
  have g1 : greatN (op l k).node = false := Bool.eq_false_iff.2 (fun e => h2 (.inl e))
  have g2 : ¬ 50 < (op l k).sets.length := fun e => h2 (.inr (.inl e))
  have g3 : ¬ 100 < (op l k).script.length := fun e => h2 (.inr (.inr (.inl e)))
  have g4 : ¬ setsBad (op l k).sets := fun e => h2 (.inr (.inr (.inr e)))
  refine ⟨great_okN g1 (by omega), by omega, by omega, fun x hx => ?_, hb.k0, hb.k1, hb.b0, hb.b1⟩
  obtain ⟨j, hj, rfl⟩ := List.getElem_of_mem hx
  refine Classical.byContradiction fun hn => g4 ⟨j, hj, ?_⟩
  rw [st_eq hj]
  omega
set_option maxRecDepth 100000 in
set_option maxHeartbeats 4000000 in
theorem great23_any (A : Option Addr) (c : Nat) (a : Scene) (Al : Option Addr) (cl : Nat) (l : List Opn) (w : World) (h : kNode.C w A a.nodes.length a.nodes) (hl : kOpn.C w Al l.length l) :
    Calls Tryd.prog 28 #[.agg #[.slice A a.nodes.length c, .int .i64 a.root], .slice Al l.length cl] w fun e w' => e = .returned (.bool (greatS a || greatO l)) ∧ Below w.heap.size w w' := by
  have HR := Aside0.mk h
  have HL := Aside0.mk hl
  have HB := Aside0.mk (below_alloc (Below.refl w.heap.size w) (.cells #[.slice A a.nodes.length c, .int .i64 a.root] 39))
  have k0 := box_cell w _ rfl #[.slice A a.nodes.length c, .int .i64 a.root] 39 0 (.slice A a.nodes.length c) rfl
  have k1 := box_cell w _ rfl #[.slice A a.nodes.length c, .int .i64 a.root] 39 1 (.int .i64 a.root) rfl
  have hu := Tryd.underlying39
  clear h hl
  go_enter Tryd.func28, Tryd.ntmps28
  go_wp2_with fail
  refine (greatS_any A c a _ (Kd.C_below HR.out HB.out)).mono ?_
  rintro e w1 ⟨rfl, hB1⟩
  have HB1 := Aside0.mk (below_step HB.out hB1)
  clear hB1 k0 k1
  cases hg : greatS a with
  | true =>
    have HE := Aside0.mk (show (greatS a || greatO l) = true from by rw [hg]; rfl)
    clear hg
    go_wp2
    go_ret
    exact ⟨ret_bool HE.out.symm, HB1.out⟩
  | false =>
    have HE := Aside0.mk (show (greatS a || greatO l) = greatO l from by rw [hg]; rfl)
    clear hg
    go_wp2_with fail
    refine (greatO_any Al cl l _ (Kd.C_below HL.out HB1.out)).mono ?_
    rintro e w2 ⟨rfl, hB2⟩
    have HB2 := Aside0.mk (below_step HB1.out hB2)
    clear hB2
    go_wp2
    go_ret
    exact ⟨ret_bool HE.out.symm, HB2.out⟩
end Go.Proofs.YtglfebpgdghlfaaDoor.L
end
section
namespace Go.Proofs.YtglfebpgdghlfaaDoor.L
open Go.RowKit Go.ChangeShapes Go.WideShapes Go.Proofs.YtglfebpgdghlfaaDoorW.PrintWords Go.Proofs.YtglfebpgdghlfaaDoorW.PrintLast Go.Proofs.YtglfebpgdghlfaaDoorW.PrintMore
attribute [local go_sem] max2_int min2_int max_two min_two max_three min_three max_four min_four
theorem ed_step {l0 l1 : List Ed} {k : Nat} (h0 : k < l0.length) (h1 : k < l1.length) (ht : l0.take k = l1.take k) (he : (ed l0 k).kind = (ed l1 k).kind) (hn : (ed l0 k).n = (ed l1 k).n) : l0.take (k + 1) = l1.take (k + 1) := by
  rw [List.take_succ_eq_append_getElem h0, List.take_succ_eq_append_getElem h1, ht, ← ed_eq h0, ← ed_eq h1]
  congr 2
  cases h : ed l0 k; cases h' : ed l1 k; rw [h, h'] at he hn; simp only [] at he hn; rw [he, hn]
theorem eqA_ed (d : Nat) (w : World) (x0 y0 : Int) (x1 y1 : Int) :
    (Op.equalIn (d + 2) 128 (.agg #[.int .i64 x0, .int .i64 x1]) (.agg #[.int .i64 y0, .int .i64 y1])).run Tryd.prog w = .ok (x0 == y0 && (x1 == y1)) w := by
  refine eqA_of Tryd.underlying128 (by kernel_rfl) ?_
  refine eqf_cons (by rfl) (by go_simp; rfl) (by go_simp; rfl) (by go_simp) ?_
  exact eqf_last (by rfl) (by go_simp; rfl) (by go_simp; rfl) (by go_simp)
attribute [local go_sem high] eqA_ed
set_option maxRecDepth 100000 in
set_option maxHeartbeats 2000000 in
theorem sameE_any (A0 : Option Addr) (c0 : Nat) (l0 : List Ed) (A1 : Option Addr) (c1 : Nat) (l1 : List Ed) (w : World) (hr0 : Kd.C kEd w A0 l0.length l0) (hr1 : Kd.C kEd w A1 l1.length l1) :
    Calls Tryd.prog 59 #[.slice A0 l0.length c0, .slice A1 l1.length c1] w fun e w' => e = .returned (.bool (decide (l0 = l1))) ∧ Drawn0 w w' := by
  have HR0 := Aside0.mk hr0
  have HR1 := Aside0.mk hr1
  have b0 := hr0.2.1
  have b1 := hr1.2.1
  clear hr0 hr1
  have hued := Tryd.underlying128
  by_cases c3 : l0.length = l1.length
  · go_enter Tryd.func59, Tryd.ntmps59
    go_wp2
    go_loopw [5] (fun v5 w' => ∃ k : Nat, k ≤ l0.length ∧ v5 = .int .i64 k ∧ Aside0 (l0.take k = l1.take k) ∧ Drawn0 w w') (fun v5 _ => l0.length - (intOf v5).toNat)
    case atStart => exact ⟨0, by omega, rfl, ⟨by simp⟩, Drawn0.refl _⟩
    case round =>
      obtain ⟨k, hk, rfl, HT, ⟨m, rfl⟩⟩ := hrel
      by_cases hlt : k < l0.length
      · obtain ⟨ad0, rfl, hx0, hy0⟩ := at_ed HR0.out k (by omega)
        obtain ⟨ad1, rfl, hx1, hy1⟩ := at_ed HR1.out k (by omega)
        have hlt1 : k < l1.length := by omega
        by_cases he : (ed l0 k).kind = (ed l1 k).kind
        · have hb : ((ed l0 k).kind == (ed l1 k).kind) = true := by simpa using he
          by_cases hn : (ed l0 k).n = (ed l1 k).n
          · have hbn : ((ed l0 k).n == (ed l1 k).n) = true := by simpa using hn
            have HN := Aside0.mk (ed_step hlt hlt1 HT.out he hn)
            clear he hn
            go_wp2
            go_quiet (fail)
            go_wp2
            go_roundw
            case rel => exact ⟨k + 1, by omega, by go_num, HN, by repeat (first | exact Drawn0.refl _ | apply Drawn0.step)⟩
            case measure => simp [intOf]; omega
          · have hbn : ((ed l0 k).n == (ed l1 k).n) = false := by simpa using hn
            have HD := Aside0.mk (decide_eq_false (fun h : l0 = l1 => hn (by rw [h])))
            clear he hn
            go_wp2
            go_quiet (fail)
            go_wp2
            go_ret
            exact ⟨ret_bool HD.out.symm, by repeat (first | exact Drawn0.refl _ | apply Drawn0.step)⟩
        · have hb : ((ed l0 k).kind == (ed l1 k).kind) = false := by simpa using he
          have HD := Aside0.mk (decide_eq_false (fun h : l0 = l1 => he (by rw [h])))
          clear he
          go_wp2
          go_quiet (fail)
          go_wp2
          go_ret
          exact ⟨ret_bool HD.out.symm, by repeat (first | exact Drawn0.refl _ | apply Drawn0.step)⟩
      · have HD : Aside0 (decide (l0 = l1) = true) := ⟨by
          have ht := HT.out
          rw [List.take_of_length_le (by omega), List.take_of_length_le (by omega)] at ht
          simpa using ht⟩
        go_wp2
        go_ret
        exact ⟨ret_bool HD.out.symm, by repeat (first | exact Drawn0.refl _ | apply Drawn0.step)⟩
  · have HD := Aside0.mk (decide_eq_false (fun h : l0 = l1 => c3 (by rw [h])))
    go_enter Tryd.func59, Tryd.ntmps59
    go_wp2
    go_ret
    exact ⟨ret_bool HD.out.symm, Drawn0.refl _⟩
end Go.Proofs.YtglfebpgdghlfaaDoor.L
end
section
namespace Go.Proofs.YtglfebpgdghlfaaDoor.L
open Go.RowKit Go.ChangeShapes Go.WideShapes Go.Proofs.YtglfebpgdghlfaaDoorW.PrintWords Go.Proofs.YtglfebpgdghlfaaDoorW.PrintLast Go.Proofs.YtglfebpgdghlfaaDoorW.PrintMore
attribute [local go_sem] max2_int min2_int max_two min_two max_three min_three max_four min_four
theorem eqA_set (d : Nat) (w : World) (x0 y0 : Bool) (x1 y1 x2 y2 : Int) (x3 y3 : ByteArray) :
    (Op.equalIn (d + 2) 84 (.agg #[.bool x0, .int .i64 x1, .int .i64 x2, .string x3]) (.agg #[.bool y0, .int .i64 y1, .int .i64 y2, .string y3])).run Tryd.prog w = .ok (x0 == y0 && (x1 == y1 && (x2 == y2 && (x3.toList == y3.toList)))) w := by
  refine eqA_of Tryd.underlying84 (by kernel_rfl) ?_
  refine eqf_cons (by rfl) (by go_simp; rfl) (by go_simp; rfl) (by go_simp) ?_
  refine eqf_cons (by rfl) (by go_simp; rfl) (by go_simp; rfl) (by go_simp) ?_
  refine eqf_cons (by rfl) (by go_simp; rfl) (by go_simp; rfl) (by go_simp) ?_
  exact eqf_last (by rfl) (by go_simp; rfl) (by go_simp; rfl) (by go_simp)
theorem eqA_set_same (d : Nat) (w : World) (x0 : Bool) (x1 x2 : Int) (x3 : ByteArray) :
    (Op.equalIn (d + 2) 84 (.agg #[.bool x0, .int .i64 x1, .int .i64 x2, .string x3]) (.agg #[.bool x0, .int .i64 x1, .int .i64 x2, .string x3])).run Tryd.prog w = .ok true w := by
  rw [eqA_set]
  simp
attribute [local go_sem high] eqA_set_same
set_option maxRecDepth 100000 in
set_option maxHeartbeats 2000000 in
theorem sameSets_ok (A0 : Option Addr) (c0 : Nat) (A1 : Option Addr) (c1 : Nat) (l : List SetV) (w : World) (hr0 : Kd.C kSet w A0 l.length l) (hr1 : Kd.C kSet w A1 l.length l) :
    Calls Tryd.prog 58 #[.slice A0 l.length c0, .slice A1 l.length c1] w fun e w' => e = .returned (.bool true) ∧ Drawn0 w w' := by
  have HR0 := Aside0.mk hr0
  have HR1 := Aside0.mk hr1
  have b0 := hr0.2.1
  clear hr0 hr1
  have hus := Tryd.underlying84
  go_enter Tryd.func58, Tryd.ntmps58
  go_wp2
  go_loopw [5] (fun v5 w' => ∃ k : Nat, k ≤ l.length ∧ v5 = .int .i64 k ∧ Drawn0 w w') (fun v5 _ => l.length - (intOf v5).toNat)
  case atStart => exact ⟨0, by omega, rfl, Drawn0.refl _⟩
  case round =>
    obtain ⟨k, hk, rfl, ⟨m, rfl⟩⟩ := hrel
    by_cases hlt : k < l.length
    · obtain ⟨ad0, rfl, x0, x1, x2, x3⟩ := at_set HR0.out k (by omega)
      obtain ⟨ad1, rfl, y0, y1, y2, y3⟩ := at_set HR1.out k (by omega)
      go_wp2
      go_quiet (fail)
      go_wp2
      go_roundw
      case rel => exact ⟨k + 1, by omega, by go_num, by repeat (first | exact Drawn0.refl _ | apply Drawn0.step)⟩
      case measure => simp [intOf]; omega
    · go_wp2
      go_ret
      exact ⟨rfl, by repeat (first | exact Drawn0.refl _ | apply Drawn0.step)⟩
set_option maxRecDepth 100000 in
set_option maxHeartbeats 8000000 in
theorem sameOps_ok (A0 : Option Addr) (c0 : Nat) (A1 : Option Addr) (c1 : Nat) (l : List Opn) (w : World) (h0 : kOpn.C w A0 l.length l) (h1 : kOpn.C w A1 l.length l) (hS : ∀ k : Nat, k < l.length → Small (op l k).node) :
    Calls Tryd.prog 31 #[.slice A0 l.length c0, .slice A1 l.length c1] w fun e w' => e = .returned (.bool true) ∧ Below w.heap.size w w' := by
  have HR0 := Aside0.mk h0
  have HR1 := Aside0.mk h1
  have HSm := Aside0.mk hS
  have b0 := h0.2.1
  have huo := Tryd.underlying61
  have hun := Tryd.underlying26
  have HB := Aside0.mk (Below.refl w.heap.size w)
  clear h0 h1 hS
  go_enter Tryd.func31, Tryd.ntmps31
  go_wp2
  go_loopw [5] (fun v5 W => ∃ k : Nat, k ≤ l.length ∧ v5 = .int .i64 k ∧ Aside0 (Below w.heap.size w W)) (fun v5 _ => l.length - (intOf v5).toNat)
  case atStart => exact ⟨0, by omega, rfl, HB⟩
  case round =>
    clear HB
    obtain ⟨k, hk, rfl, HW⟩ := hrel
    by_cases hlt : k < l.length
    · obtain ⟨ad, B1, d1, B2, d2, M1, m1, M2, m2, M3, m3, rfl, x0, x1, x2, x3, x4, x5, x6, x7, hO⟩ := at_op HR0.out k hlt
      obtain ⟨ad', B1', d1', B2', d2', M1', m1', M2', m2', M3', m3', rfl, y0, y1, y2, y3, y4, y5, y6, y7, hO'⟩ := at_op HR1.out k hlt
      have HO := Aside0.mk hO
      have HO' := Aside0.mk hO'
      have HSk := Aside0.mk (HSm.out k hlt)
      clear hO hO'
      generalize op l k = o at x0 x1 x2 x3 x4 x5 x6 x7 y0 y1 y2 y3 y4 y5 y6 y7 HO HO' HSk
      replace x0 := pw_cell_below HW.out x0
      replace x1 := pw_cell_below HW.out x1
      replace x2 := pw_cell_below HW.out x2
      replace x3 := pw_cell_below HW.out x3
      replace x4 := pw_cell_below HW.out x4
      replace x5 := pw_cell_below HW.out x5
      replace x6 := pw_cell_below HW.out x6
      replace x7 := pw_cell_below HW.out x7
      have hA := below_alloc (Below.refl wr.heap.size wr) (.cells (opV o B1 d1 B2 d2 M1 m1 M2 m2 M3 m3) 61)
      replace y0 := pw_cell_below hA (pw_cell_below HW.out y0)
      replace y1 := pw_cell_below hA (pw_cell_below HW.out y1)
      replace y2 := pw_cell_below hA (pw_cell_below HW.out y2)
      replace y3 := pw_cell_below hA (pw_cell_below HW.out y3)
      replace y4 := pw_cell_below hA (pw_cell_below HW.out y4)
      replace y5 := pw_cell_below hA (pw_cell_below HW.out y5)
      replace y6 := pw_cell_below hA (pw_cell_below HW.out y6)
      replace y7 := pw_cell_below hA (pw_cell_below HW.out y7)
      have HB2 := Aside0.mk (below_alloc (below_alloc HW.out (.cells (opV o B1 d1 B2 d2 M1 m1 M2 m2 M3 m3) 61)) (.cells (opV o B1' d1' B2' d2' M1' m1' M2' m2' M3' m3') 61))
      have HX := Aside0.mk (show (((wr.alloc (.cells (opV o B1 d1 B2 d2 M1 m1 M2 m2 M3 m3) 61)).alloc (.cells (opV o B1' d1' B2' d2' M1' m1' M2' m2' M3' m3') 61)).heap[wr.heap.size]? = some (.cells (opV o B1 d1 B2 d2 M1 m1 M2 m2 M3 m3) 61 (0, 0))) ∧ (((wr.alloc (.cells (opV o B1 d1 B2 d2 M1 m1 M2 m2 M3 m3) 61)).alloc (.cells (opV o B1' d1' B2' d2' M1' m1' M2' m2' M3' m3') 61)).heap[wr.heap.size + 1]? = some (.cells (opV o B1' d1' B2' d2' M1' m1' M2' m2' M3' m3') 61 (0, 0))) from by
        have n1 := heap_alloc_new wr (.cells (opV o B1 d1 B2 d2 M1 m1 M2 m2 M3 m3) 61)
        have b2 := below_alloc (Below.refl (wr.alloc (.cells (opV o B1 d1 B2 d2 M1 m1 M2 m2 M3 m3) 61)).heap.size (wr.alloc (.cells (opV o B1 d1 B2 d2 M1 m1 M2 m2 M3 m3) 61))) (.cells (opV o B1' d1' B2' d2' M1' m1' M2' m2' M3' m3') 61)
        have n2 := heap_alloc_new (wr.alloc (.cells (opV o B1 d1 B2 d2 M1 m1 M2 m2 M3 m3) 61)) (.cells (opV o B1' d1' B2' d2' M1' m1' M2' m2' M3' m3') 61)
        exact ⟨(b2.block _ (by simp)).trans n1, by simpa using n2⟩)
      clear hA
      go_upto_region 8 with (fail)
      generalize (wr.alloc (.cells (opV o B1 d1 B2 d2 M1 m1 M2 m2 M3 m3) 61)).alloc (.cells (opV o B1' d1' B2' d2' M1' m1' M2' m2' M3' m3') 61) = W2 at HB2 HX ⊢
      clear x0 x1 x2 x3 x4 x5 x6 x7 y0 y1 y2 y3 y4 y5 y6 y7
      have hx0 := HX.out.1
      have hx1 := HX.out.2
      have a0 : W2.cell? ⟨wr.heap.size, 0, none⟩ = some (.int .i64 o.kind) := (blk_cell hx0 0).trans rfl
      have a1 : W2.cell? ⟨wr.heap.size, 1, none⟩ = some (.int .i64 o.base) := (blk_cell hx0 1).trans rfl
      have a2 : W2.cell? ⟨wr.heap.size, 2, none⟩ = some (.slice B1 o.sets.length d1) := (blk_cell hx0 2).trans rfl
      have a3 : W2.cell? ⟨wr.heap.size, 3, none⟩ = some (.slice B2 o.script.length d2) := (blk_cell hx0 3).trans rfl
      have a4 : W2.cell? ⟨wr.heap.size, 4, none⟩ = some (.int .i64 o.node.kind) := (blk_cell hx0 4).trans rfl
      have a5 : W2.cell? ⟨wr.heap.size, 5, none⟩ = some (.slice M1 o.node.ints.length m1) := (blk_cell hx0 5).trans rfl
      have a6 : W2.cell? ⟨wr.heap.size, 6, none⟩ = some (.slice M2 o.node.texts.length m2) := (blk_cell hx0 6).trans rfl
      have a7 : W2.cell? ⟨wr.heap.size, 7, none⟩ = some (.slice M3 o.node.kids.length m3) := (blk_cell hx0 7).trans rfl
      have e0 : W2.cell? ⟨wr.heap.size + 1, 0, none⟩ = some (.int .i64 o.kind) := (blk_cell hx1 0).trans rfl
      have e1 : W2.cell? ⟨wr.heap.size + 1, 1, none⟩ = some (.int .i64 o.base) := (blk_cell hx1 1).trans rfl
      have e2 : W2.cell? ⟨wr.heap.size + 1, 2, none⟩ = some (.slice B1' o.sets.length d1') := (blk_cell hx1 2).trans rfl
      have e3 : W2.cell? ⟨wr.heap.size + 1, 3, none⟩ = some (.slice B2' o.script.length d2') := (blk_cell hx1 3).trans rfl
      have e4 : W2.cell? ⟨wr.heap.size + 1, 4, none⟩ = some (.int .i64 o.node.kind) := (blk_cell hx1 4).trans rfl
      have e5 : W2.cell? ⟨wr.heap.size + 1, 5, none⟩ = some (.slice M1' o.node.ints.length m1') := (blk_cell hx1 5).trans rfl
      have e6 : W2.cell? ⟨wr.heap.size + 1, 6, none⟩ = some (.slice M2' o.node.texts.length m2') := (blk_cell hx1 6).trans rfl
      have e7 : W2.cell? ⟨wr.heap.size + 1, 7, none⟩ = some (.slice M3' o.node.kids.length m3') := (blk_cell hx1 7).trans rfl
      clear hx0 hx1
      go_wp2_with fail
      refine (sameSets_ok B1 d1 B1' d1' o.sets _ (Kd.C_below HO.out.s HB2.out) (Kd.C_below HO'.out.s HB2.out)).mono ?_
      rintro e w3 ⟨rfl, hD3⟩
      replace a0 := pw_cell_below hD3.below a0
      replace e0 := pw_cell_below hD3.below e0
      replace a1 := pw_cell_below hD3.below a1
      replace e1 := pw_cell_below hD3.below e1
      replace a2 := pw_cell_below hD3.below a2
      replace e2 := pw_cell_below hD3.below e2
      replace a3 := pw_cell_below hD3.below a3
      replace e3 := pw_cell_below hD3.below e3
      replace a4 := pw_cell_below hD3.below a4
      replace e4 := pw_cell_below hD3.below e4
      replace a5 := pw_cell_below hD3.below a5
      replace e5 := pw_cell_below hD3.below e5
      replace a6 := pw_cell_below hD3.below a6
      replace e6 := pw_cell_below hD3.below e6
      replace a7 := pw_cell_below hD3.below a7
      replace e7 := pw_cell_below hD3.below e7
      have HB3 := Aside0.mk (below_step HB2.out hD3.below)
      clear hD3
      go_wp2_with fail
      refine (sameE_any B2 d2 o.script B2' d2' o.script _ (Kd.C_below HO.out.e HB3.out) (Kd.C_below HO'.out.e HB3.out)).mono ?_
      rintro e w4 ⟨rfl, hD4⟩
      rw [decide_eq_true (rfl : o.script = o.script)]
      replace a4 := pw_cell_below hD4.below a4
      replace e4 := pw_cell_below hD4.below e4
      replace a5 := pw_cell_below hD4.below a5
      replace e5 := pw_cell_below hD4.below e5
      replace a6 := pw_cell_below hD4.below a6
      replace e6 := pw_cell_below hD4.below e6
      replace a7 := pw_cell_below hD4.below a7
      replace e7 := pw_cell_below hD4.below e7
      have HB4 := Aside0.mk (below_step HB3.out hD4.below)
      clear hD4 a0 a1 a2 a3 e0 e1 e2 e3
      go_wp2_with fail
      refine (same_any o.node o.node M1 m1 M2 m2 M3 m3 M1' m1' M2' m2' M3' m3' _ (HO.out.n.below HB4.out) (HO'.out.n.below HB4.out) HSk.out).mono ?_
      rintro e w5 ⟨rfl, hB5⟩
      rw [sameN_iff.2 rfl]
      have HB5 := Aside0.mk (below_step HB4.out hB5)
      clear hB5 a4 a5 a6 a7 e4 e5 e6 e7
      go_wp2
      go_roundw
      case rel => exact ⟨k + 1, by omega, by go_num, HB5⟩
      case measure => simp [intOf]; omega
    · obtain rfl : k = l.length := by omega
      go_wp2
      go_ret
      exact ⟨rfl, HW.out⟩
end Go.Proofs.YtglfebpgdghlfaaDoor.L
end
section
namespace Go.Proofs.YtglfebpgdghlfaaDoor.L
open Go.RowKit Go.ChangeShapes Go.WideShapes Go.Proofs.YtglfebpgdghlfaaDoorW.PrintWords Go.Proofs.YtglfebpgdghlfaaDoorW.PrintLast Go.Proofs.YtglfebpgdghlfaaDoorW.PrintMore
attribute [local go_sem] max2_int min2_int max_two min_two max_three min_three max_four min_four
theorem kOpn_mkM {w : World} {base : Nat} {ok : Nat → Prop} {o : Opn} {u2 u3 u5 u6 u7 : Value} (h2 : kSet.R 84 w base ok u2 o.sets) (h3 : kEd.R 128 w base ok u3 o.script) (h5 : (Kd.int .i64).R 2 w base ok u5 o.node.ints) (h6 : Kd.string.R 9 w base ok u6 o.node.texts) (h7 : (Kd.int .i64).R 3 w base ok u7 o.node.kids) :
    kOpn.M w base ok o [.int .i64 o.kind, .int .i64 o.base, u2, u3, .int .i64 o.node.kind, u5, u6, u7] :=
  ⟨[_], _, rfl, rfl, [_], _, rfl, rfl, [_], _, rfl, ⟨u2, rfl, h2⟩, [_], _, rfl, ⟨u3, rfl, h3⟩, kNode_mkM h5 h6 h7⟩
theorem M_apart {α β : Type} {d : Kd α} {d' : Kd β} {W : World} {base b e : Nat} {ok ok' : Nat → Prop} {x : α} {cs : List Value} {v : Value} {xs : List β} (h : d.M W base ok x cs) (hr : d'.R e W b ok' v xs) (ht : ∀ q, q ∈ d.E → q ≠ e) : d.M W base (fun k => ok k ∧ some k ≠ v.ownBlock) x cs :=
  d.M_mono (fun k hk => ⟨hk.1, fun he => by
    obtain ⟨_, _, _, q, hq, cells, hc⟩ := hk
    obtain ⟨cells', hc'⟩ := Kd.R_typed hr k he.symm
    rw [hc] at hc'
    injection hc' with hc'
    injection hc' with _ hc'
    exact ht q hq hc'⟩) (d.M_bound h)
structure RkB (w0 : World) (g : Nat) (v : Value) (xs : List Opn) (cs : Array Value) (u2 : Value) (l2 : List SetV) (u3 : Value) (l3 : List Ed) (u5 : Value) (l5 : List Int) (u6 : Value) (l6 : List ByteArray) (u7 : Value) (l7 : List Int) (W : World) : Prop where
  below : Below w0.heap.size w0 W
  ge : w0.heap.size ≤ g
  box : W.heap[g]? = some (.cells cs 61 (0, 0))
  rows : kOpn.R 61 W w0.heap.size (fun q => q ≠ g) v xs
  r2 : kSet.R 84 W w0.heap.size (fun _ => True) u2 l2
  r3 : kEd.R 128 W w0.heap.size (fun _ => True) u3 l3
  r5 : (Kd.int .i64).R 2 W w0.heap.size (fun _ => True) u5 l5
  r6 : Kd.string.R 9 W w0.heap.size (fun _ => True) u6 l6
  r7 : (Kd.int .i64).R 3 W w0.heap.size (fun _ => True) u7 l7
section
variable {w0 : World} {g : Nat} {v : Value} {xs : List Opn} {cs : Array Value} {u2 : Value} {l2 : List SetV} {u3 : Value} {l3 : List Ed} {u5 : Value} {l5 : List Int} {u6 : Value} {l6 : List ByteArray} {u7 : Value} {l7 : List Int} {W W1 : World}
theorem RkB.later (h : RkB w0 g v xs cs u2 l2 u3 l3 u5 l5 u6 l6 u7 l7 W) (hb : Below W.heap.size W W1) : RkB w0 g v xs cs u2 l2 u3 l3 u5 l5 u6 l6 u7 l7 W1 :=
  ⟨below_step h.below hb, h.ge, (hb.block _ (blk_lt h.box)).trans h.box, Kd.R_below h.rows hb, Kd.R_below h.r2 hb, Kd.R_below h.r3 hb, Kd.R_below h.r5 hb, Kd.R_below h.r6 hb, Kd.R_below h.r7 hb⟩
theorem RkB.set (h : RkB w0 g v xs cs u2 l2 u3 l3 u5 l5 u6 l6 u7 l7 W) (i : Nat) (u : Value) : RkB w0 g v xs (cs.setIfInBounds i u) u2 l2 u3 l3 u5 l5 u6 l6 u7 l7 (W.setCell ⟨g, i, none⟩ u) :=
  ⟨below_set h.below h.ge, h.ge, blk_set h.box i u, Kd.R_far (p := ⟨g, i, none⟩) h.rows (fun _ hk => hk) u, Kd.R_set h.r2 h.box (by decide) i u, Kd.R_set h.r3 h.box (by decide) i u, Kd.R_set h.r5 h.box (by decide) i u, Kd.R_set h.r6 h.box (by decide) i u, Kd.R_set h.r7 h.box (by decide) i u⟩
theorem RkB.start (hB : Below w0.heap.size w0 W) (hR : kOpn.R 61 W w0.heap.size (fun _ => True) v xs) (cs : Array Value) : RkB w0 W.heap.size v xs cs (.slice none 0 0) [] (.slice none 0 0) [] (.slice none 0 0) [] (.slice none 0 0) [] (.slice none 0 0) [] (W.alloc (.cells cs 61)) :=
  ⟨below_alloc hB _, hB.size, by simpa using heap_alloc_new W _, Kd.R_alloc (Kd.R_mono (Kd.R_bound hR) (fun k hk => by have := hk.2.2.1; omega)) _, Kd.R_nil _ _ _ _ _, Kd.R_nil _ _ _ _ _, Kd.R_nil _ _ _ _ _, Kd.R_nil _ _ _ _ _, Kd.R_nil _ _ _ _ _⟩
theorem RkB.fresh (h : RkB w0 g v xs cs u2 l2 u3 l3 u5 l5 u6 l6 u7 l7 W) (q : Nat) (hq : W.heap.size ≤ q) : q ≠ g := by have := blk_lt h.box; omega
theorem RkB.made {o : Opn} (h : RkB w0 g v xs cs u2 o.sets u3 o.script u5 o.node.ints u6 o.node.texts u7 o.node.kids W) : kOpn.M W w0.heap.size (fun k => k ≠ g ∧ some k ≠ v.ownBlock) o [.int .i64 o.kind, .int .i64 o.base, u2, u3, .int .i64 o.node.kind, u5, u6, u7] :=
  kOpn.M_mono (fun _ hk => ⟨hk.1.2, hk.2⟩) (M_apart (Kd.M_types (kOpn_mkM h.r2 h.r3 h.r5 h.r6 h.r7) h.box (by decide)) h.rows (by decide))
end
theorem info_ed : (Tryd.prog.info? 128).map (fun i => (i.zero, i.size, i.bytes)) = some (some (.agg #[.int .i64 0, .int .i64 0]), 2, 16) := by kernel_rfl
theorem kSet_KM {w w' : World} {base : Nat} {ok : Nat → Prop} (x : SetV) (cs : List Value) (h : kSet.K w x cs) : kSet.M w' base ok x cs := by
  rw [kSet_open h]
  exact kSet_mk _ _ _ _
theorem kEd_KM {w w' : World} {base : Nat} {ok : Nat → Prop} (x : Ed) (cs : List Value) (h : kEd.K w x cs) : kEd.M w' base ok x cs := by
  rw [kEd_open h]
  exact kEd_mkM _ _ _ _
def LiveRow (B : Nat) (W : World) (A : Option Addr) (l T : Nat) : Prop := 0 < l → ∃ b, A = some ⟨b, 0, none⟩ ∧ B ≤ b ∧ ∃ cs : Array Value, W.heap[b]? = some (.cells cs T (0, 0)) ∧ l ≤ cs.size
theorem LiveRow.later {B : Nat} {W W1 : World} {A : Option Addr} {l T : Nat} (h : LiveRow B W A l T) (hb : Below W.heap.size W W1) : LiveRow B W1 A l T := fun hp => by
  obtain ⟨b, e, hB, cs, hc, hl⟩ := h hp
  exact ⟨b, e, hB, cs, (hb.block _ (blk_lt hc)).trans hc, hl⟩
theorem LiveRow.set {B : Nat} {W : World} {A : Option Addr} {l T : Nat} (h : LiveRow B W A l T) (b' i : Nat) (u : Value) : LiveRow B (W.setCell ⟨b', i, none⟩ u) A l T := fun hp => by
  obtain ⟨b, e, hB, cs, hc, hl⟩ := h hp
  by_cases hb : b = b'
  · subst hb
    exact ⟨b, e, hB, _, blk_set hc i u, by simpa using hl⟩
  · exact ⟨b, e, hB, cs, (Below.heap_setCell W ⟨b', i, none⟩ u b hb).trans hc, hl⟩
theorem LiveRow.of_R {α : Type} {d : Kd α} {e B n c : Nat} {W : World} {ok : Nat → Prop} {A : Option Addr} {xs : List α} (hs : d.sz = 1) (h : d.R e W B ok (.slice A n c) xs) : LiveRow B W A n e := fun hp => by
  have hn := (Kd.R_reads' h).1
  obtain ⟨g, cap, hv, hB, _, _⟩ := Kd.R_form h (by omega)
  injection hv with hA _ _
  obtain ⟨cells, hc⟩ := Kd.R_typed h g (by rw [hA]; simp [Value.ownBlock])
  refine ⟨g, hA, hB, cells, hc, ?_⟩
  obtain ⟨ad, he, hcells⟩ := (Kd.R_reads' h).2.2.2.2 (by omega)
  rw [hA] at he
  injection he with he
  obtain ⟨c0, h1, h2, h3⟩ := hcells (n - 1) _ (List.getElem?_eq_getElem (by omega))
  have hlen : c0.length = 1 := by rw [h1, hs]
  match c0, hlen with
  | [u], _ =>
    have h4 := h3 0 u rfl
    rw [hs, ← he, Nat.mul_one, Nat.add_zero, Go.Proofs.YtglfebpgdghlfaaDoorW.PrintWords.add_plain, blk_cell hc] at h4
    have := (Array.getElem?_eq_some_iff.1 h4).1
    omega
theorem LiveRow.at {B l T b : Nat} {W : World} (h : LiveRow B W (some ⟨b, 0, none⟩) l T) {k : Nat} (hk : k < l) : (∃ u, W.cell? ⟨b, k, none⟩ = some u) ∧ W.frozen? ⟨b, k, none⟩ = false ∧ B ≤ b ∧ ∃ cs : Array Value, W.heap[b]? = some (.cells cs T (0, 0)) := by
  obtain ⟨b', e, hB, cs, hc, hl⟩ := h (by omega)
  injection e with e
  injection e with e
  subst e
  exact ⟨⟨cs[k]'(by omega), by rw [blk_cell hc, Array.getElem?_eq_getElem]⟩, blk_frozen hc k, hB, cs, hc⟩
def NodesLive (B gn n : Nat) (W : World) : Prop := ∀ j, j < n → (∃ cells : Array Value, W.heap[gn]? = some (.cells cells 26 (0, 0))) ∧ ∃ (kd : Int) (A1 : Option Addr) (l1 c1 : Nat) (A2 : Option Addr) (l2 c2 : Nat) (A3 : Option Addr) (l3 c3 : Nat),
  ((W.cell? ⟨gn, j * 4, none⟩ = some (.int .i64 kd) ∧ W.cell? ⟨gn, j * 4 + 1, none⟩ = some (.slice A1 l1 c1)) ∧ W.cell? ⟨gn, j * 4 + 2, none⟩ = some (.slice A2 l2 c2) ∧ W.cell? ⟨gn, j * 4 + 3, none⟩ = some (.slice A3 l3 c3)) ∧
  (l1 ≤ 1000000 ∧ l2 ≤ 1000000 ∧ l3 ≤ 1000000) ∧ LiveRow B W A1 l1 2 ∧ LiveRow B W A2 l2 9 ∧ LiveRow B W A3 l3 3
theorem NodesLive.later {B gn n : Nat} {W W1 : World} (h : NodesLive B gn n W) (hb : Below W.heap.size W W1) : NodesLive B gn n W1 := fun j hj => by
  obtain ⟨⟨cells, hc⟩, kd, A1, l1, c1, A2, l2, c2, A3, l3, c3, ⟨⟨h0, h1⟩, h2, h3⟩, hs, r1, r2, r3⟩ := h j hj
  exact ⟨⟨cells, (hb.block _ (blk_lt hc)).trans hc⟩, kd, A1, l1, c1, A2, l2, c2, A3, l3, c3, ⟨⟨pw_cell_below hb h0, pw_cell_below hb h1⟩, pw_cell_below hb h2, pw_cell_below hb h3⟩, hs, r1.later hb, r2.later hb, r3.later hb⟩
theorem NodesLive.set {B gn n b i : Nat} {W : World} {T : TypeId} {cs : Array Value} (h : NodesLive B gn n W) (hb : W.heap[b]? = some (.cells cs T (0, 0))) (hT : ¬ T = 26) (u : Value) : NodesLive B gn n (W.setCell ⟨b, i, none⟩ u) := fun j hj => by
  obtain ⟨⟨cells, hc⟩, kd, A1, l1, c1, A2, l2, c2, A3, l3, c3, ⟨⟨h0, h1⟩, h2, h3⟩, hs, r1, r2, r3⟩ := h j hj
  have hne : b ≠ gn := fun e => by
    rw [e, hc] at hb
    injection hb with hb
    injection hb with _ hb
    exact hT hb.symm
  exact ⟨⟨cells, (Below.heap_setCell W ⟨b, i, none⟩ u gn (fun e => hne e.symm)).trans hc⟩, kd, A1, l1, c1, A2, l2, c2, A3, l3, c3, ⟨⟨far_set h0 _ _ hne _, far_set h1 _ _ hne _⟩, far_set h2 _ _ hne _, far_set h3 _ _ hne _⟩, hs, r1.set _ _ _, r2.set _ _ _, r3.set _ _ _⟩
theorem NodesLive.of_R {B gn n c : Nat} {W : World} {ns : List Node} (h : kNode.R 26 W B (fun _ => True) (.slice (some ⟨gn, 0, none⟩) n c) ns) (hS : ∀ i : Nat, i < ns.length → Small (nd ns i)) : NodesLive B gn n W := fun j hj => by
  have hn := (Kd.R_reads' h).1
  obtain ⟨cells, hc⟩ := Kd.R_typed h gn rfl
  obtain ⟨cs, hl, hM, hcc, _⟩ := R_elemN h nodez j hj
  have hs := hS j (by omega)
  obtain ⟨v1, v2, v3, rfl, h1, h2, h3⟩ := kNode_openM (n := nd ns j) hM
  obtain ⟨A1, c1, rfl⟩ := Kd.R_slice h1
  obtain ⟨A2, c2, rfl⟩ := Kd.R_slice h2
  obtain ⟨A3, c3, rfl⟩ := Kd.R_slice h3
  exact ⟨⟨cells, hc⟩, _, A1, _, c1, A2, _, c2, A3, _, c3, ⟨⟨hcc 0 _ rfl, hcc 1 _ rfl⟩, hcc 2 _ rfl, hcc 3 _ rfl⟩, ⟨hs.1, hs.2.1, hs.2.2⟩, LiveRow.of_R rfl h1, LiveRow.of_R rfl h2, LiveRow.of_R rfl h3⟩
theorem NodesLive.of_R' {B gn n c : Nat} {W : World} {A : Option Addr} {ns : List Node} (h : kNode.R 26 W B (fun _ => True) (.slice A n c) ns) (e : A = some ⟨gn, 0, none⟩) (hS : ∀ i : Nat, i < ns.length → Small (nd ns i)) : NodesLive B gn n W := by
  subst e
  exact NodesLive.of_R h hS
structure InHand (w5 : World) (gn n gb : Nat) (kd : Int) (A1 : Option Addr) (l1 c1 : Nat) (A2 : Option Addr) (l2 c2 : Nat) (A3 : Option Addr) (l3 c3 : Nat) (W : World) : Prop where
  below : Below w5.heap.size w5 W
  live : NodesLive w5.heap.size gn n W
  box : W.heap[gb]? = some (.cells #[.int .i64 kd, .slice A1 l1 c1, .slice A2 l2 c2, .slice A3 l3 c3] 26 (0, 0))
  r1 : LiveRow w5.heap.size W A1 l1 2
  r2 : LiveRow w5.heap.size W A2 l2 9
  r3 : LiveRow w5.heap.size W A3 l3 3
section
variable {w5 : World} {gn n gb : Nat} {kd : Int} {A1 : Option Addr} {l1 c1 : Nat} {A2 : Option Addr} {l2 c2 : Nat} {A3 : Option Addr} {l3 c3 : Nat} {W : World}
theorem InHand.set (h : InHand w5 gn n gb kd A1 l1 c1 A2 l2 c2 A3 l3 c3 W) {b i : Nat} {T : TypeId} {cs : Array Value} (hb : W.heap[b]? = some (.cells cs T (0, 0))) (hT : ¬ T = 26) (hB : w5.heap.size ≤ b) (u : Value) : InHand w5 gn n gb kd A1 l1 c1 A2 l2 c2 A3 l3 c3 (W.setCell ⟨b, i, none⟩ u) := by
  have hne : gb ≠ b := fun e => by
    have h1 := h.box
    rw [e, hb] at h1
    injection h1 with h1
    injection h1 with _ h1
    exact hT h1
  exact ⟨below_set h.below hB, h.live.set hb hT u, (Below.heap_setCell W ⟨b, i, none⟩ u gb hne).trans h.box, h.r1.set _ _ _, h.r2.set _ _ _, h.r3.set _ _ _⟩
theorem InHand.start (hB : Below w5.heap.size w5 W) (hL : NodesLive w5.heap.size gn n W) (r1 : LiveRow w5.heap.size W A1 l1 2) (r2 : LiveRow w5.heap.size W A2 l2 9) (r3 : LiveRow w5.heap.size W A3 l3 3) :
    InHand w5 gn n W.heap.size kd A1 l1 c1 A2 l2 c2 A3 l3 c3 (W.alloc (.cells #[.int .i64 kd, .slice A1 l1 c1, .slice A2 l2 c2, .slice A3 l3 c3] 26)) := by
  have hA := below_alloc (Below.refl W.heap.size W) (.cells #[.int .i64 kd, .slice A1 l1 c1, .slice A2 l2 c2, .slice A3 l3 c3] 26)
  exact ⟨below_step hB hA, hL.later hA, by simpa using heap_alloc_new W _, r1.later hA, r2.later hA, r3.later hA⟩
end
end Go.Proofs.YtglfebpgdghlfaaDoor.L
end
section
namespace Go.Proofs.YtglfebpgdghlfaaDoor.L
open Go.RowKit Go.ChangeShapes Go.WideShapes Go.Proofs.YtglfebpgdghlfaaDoorW.PrintWords Go.Proofs.YtglfebpgdghlfaaDoorW.PrintLast Go.Proofs.YtglfebpgdghlfaaDoorW.PrintMore
attribute [local go_sem] max2_int min2_int max_two min_two max_three min_three max_four min_four
set_option maxRecDepth 100000 in
set_option maxHeartbeats 8000000 in
theorem rebuildKeeps_any (A : Option Addr) (c : Nat) (a : Scene) (Al : Option Addr) (cl : Nat) (l : List Opn) (w : World) (h : kNode.C w A a.nodes.length a.nodes) (hc : a.nodes.length ≤ c) (hl : kOpn.C w Al l.length l) (hlc : l.length ≤ cl) (hb : ∀ k : Nat, k < l.length → OpBd (op l k)) (hT : Tabs w) :
    Calls Tryd.prog 7 #[.agg #[.slice A a.nodes.length c, .int .i64 a.root], .slice Al l.length cl] w fun e w' => e = .returned (.bool true) ∧ Below w.heap.size w w' := by
  have HR := Aside0.mk h
  have HL := Aside0.mk hl
  have HT := Aside0.mk hT
  have HBd := Aside0.mk hb
  have HB := Aside0.mk (below_alloc (Below.refl w.heap.size w) (.cells #[.slice A a.nodes.length c, .int .i64 a.root] 39))
  have k0 := box_cell w _ rfl #[.slice A a.nodes.length c, .int .i64 a.root] 39 0 (.slice A a.nodes.length c) rfl
  have k1 := box_cell w _ rfl #[.slice A a.nodes.length c, .int .i64 a.root] 39 1 (.int .i64 a.root) rfl
  have hu := Tryd.underlying39
  clear h hl hT hb
  go_enter Tryd.func7, Tryd.ntmps7
  go_wp2_with fail
  refine (rawake_any _ (HT.out.below HB.out)).mono ?_
  rintro e w1 ⟨rfl, hB1⟩
  replace k0 := pw_cell_below hB1 k0
  replace k1 := pw_cell_below hB1 k1
  have HB1 := Aside0.mk (below_step HB.out hB1)
  clear hB1
  go_wp2_with fail
  refine (great23_any A c a Al cl l _ (Kd.C_below HR.out HB1.out) (Kd.C_below HL.out HB1.out)).mono ?_
  rintro e w2 ⟨rfl, hB2⟩
  replace k0 := pw_cell_below hB2 k0
  replace k1 := pw_cell_below hB2 k1
  have HB2 := Aside0.mk (below_step HB1.out hB2)
  clear hB2
  cases hg : (greatS a || greatO l) with
  | true =>
    clear hg
    go_wp2_with fail
    refine (rawake_any _ (HT.out.below HB2.out)).mono ?_
    rintro e w3 ⟨rfl, hB3⟩
    have HB3 := Aside0.mk (below_step HB2.out hB3)
    clear hB3 k0 k1
    go_wp2
    go_ret
    exact ⟨rfl, HB3.out⟩
  | false =>
    have hg' := Bool.or_eq_false_iff.1 hg
    have HG := Aside0.mk (greatS_small hg'.1)
    have HOk := Aside0.mk (greatS_okN hg'.1)
    have HOp := Aside0.mk (greatO_ok hg'.2 HBd.out).2
    have hn60 : l.length ≤ 60 := (greatO_ok hg'.2 HBd.out).1
    have ha60 : a.nodes.length ≤ 60 := HG.out.1
    have HMr := Aside0.mk (show rows a.nodes ≤ 130000 from by
      have h1 := rows_le HG.out.2.2.2
      have h2 : a.nodes.length * (300 + 1) ≤ 60 * 301 := Nat.mul_le_mul HG.out.1 (by omega)
      omega)
    have HRs := Aside0.mk (applyR_small HOk.out (op_all HOp.out))
    clear hg hg'
    go_wp2_with fail
    refine (scopy_any A c a _ (Kd.C_below HR.out HB2.out) hc (by omega) HG.out.2.1).mono ?_
    rintro e w3 ⟨A2, c2, rfl, -, hC3, hB3⟩
    replace k0 := pw_cell_below hB3 k0
    replace k1 := pw_cell_below hB3 k1
    have HC3 := Aside0.mk hC3
    have HB3 := Aside0.mk (below_step HB2.out hB3)
    clear hB3 hC3
    have hA3 := below_alloc (Below.refl w3.heap.size w3) (.cells #[.slice A2 a.nodes.length c2, .int .i64 a.root] 39)
    have q0 := box_cell w3 _ rfl #[.slice A2 a.nodes.length c2, .int .i64 a.root] 39 0 (.slice A2 a.nodes.length c2) rfl
    have q1 := box_cell w3 _ rfl #[.slice A2 a.nodes.length c2, .int .i64 a.root] 39 1 (.int .i64 a.root) rfl
    replace k0 := pw_cell_below hA3 k0
    replace k1 := pw_cell_below hA3 k1
    have HB4 := Aside0.mk (below_step HB3.out hA3)
    have HC4 := Aside0.mk (Kd.C_below HC3.out hA3)
    clear hA3 HC3
    have huo := Tryd.underlying61
    have hun := Tryd.underlying26
    have hus := Tryd.underlying84
    have hue := Tryd.underlying128
    go_upto_region 4 with (fail)
    generalize w3.alloc (.cells #[.slice A2 a.nodes.length c2, .int .i64 a.root] 39) = w4 at HB4 HC4 k0 k1 q0 q1 ⊢
    generalize w3.heap.size = g5 at q0 q1 ⊢
    have HQ := Aside0.mk (And.intro (And.intro k0 k1) (And.intro q0 q1))
    clear k0 k1 q0 q1
    go_wp2
    go_loopw [29, 6] (fun v29 v6 W => ∃ k : Nat, k ≤ l.length ∧ v29 = .int .i64 k ∧ ∃ A6 c6, v6 = .slice A6 k c6 ∧ Aside0 (kOpn.R 61 W w4.heap.size (fun _ => True) (.slice A6 k c6) (l.take k)) ∧ Aside0 (Below w4.heap.size w4 W)) (fun v29 _ _ => l.length - (intOf v29).toNat)
    case atStart => exact ⟨0, by omega, rfl, none, 0, rfl, ⟨by rw [List.take_zero]; exact Kd.R_nil _ _ _ _ _⟩, ⟨Below.refl _ _⟩⟩
    case round =>
      obtain ⟨k, hk, rfl, A6, c6, rfl, HI, HW⟩ := hrel
      by_cases hlt : k < l.length
      · obtain ⟨ad, B1, d1, B2, d2, N1, n1, N2, n2, N3, n3, rfl, x0, x1, x2, x3, x4, x5, x6, x7, hO⟩ := at_op HL.out k hlt
        have HWw := Aside0.mk (below_step HB4.out HW.out)
        have HO := Aside0.mk (hO.below HWw.out)
        have HOb := Aside0.mk (hO.below HB4.out)
        have HOk := Aside0.mk (HOp.out k hlt)
        have hTk := Aside0.mk (show l.take (k + 1) = l.take k ++ [op l k] from by rw [take_succ_getD opz hlt]; rfl)
        clear hO
        generalize op l k = o at x0 x1 x2 x3 x4 x5 x6 x7 HO HOb HOk hTk
        replace x0 := pw_cell_below HWw.out x0
        replace x1 := pw_cell_below HWw.out x1
        replace x2 := pw_cell_below HWw.out x2
        replace x3 := pw_cell_below HWw.out x3
        replace x4 := pw_cell_below HWw.out x4
        replace x5 := pw_cell_below HWw.out x5
        replace x6 := pw_cell_below HWw.out x6
        replace x7 := pw_cell_below HWw.out x7
        have HK := Aside0.mk (RkB.start HW.out HI.out (opV o B1 d1 B2 d2 N1 n1 N2 n2 N3 n3))
        have HO2 := Aside0.mk (HO.out.below (below_alloc (Below.refl _ _) (.cells (opV o B1 d1 B2 d2 N1 n1 N2 n2 N3 n3) 61)))
        clear HI HW HO
        go_upto_region 8 with (fail)
        generalize wr.alloc (.cells (opV o B1 d1 B2 d2 N1 n1 N2 n2 N3 n3) 61) = W8 at HK HO2 ⊢
        generalize wr.heap.size = g8 at HK ⊢
        clear x0 x1 x2 x3 x4 x5 x6 x7
        have y4 : W8.cell? ⟨g8, 4, none⟩ = some (.int .i64 o.node.kind) := (blk_cell HK.out.box 4).trans rfl
        have y5 : W8.cell? ⟨g8, 5, none⟩ = some (.slice N1 o.node.ints.length n1) := (blk_cell HK.out.box 5).trans rfl
        have y6 : W8.cell? ⟨g8, 6, none⟩ = some (.slice N2 o.node.texts.length n2) := (blk_cell HK.out.box 6).trans rfl
        have y7 : W8.cell? ⟨g8, 7, none⟩ = some (.slice N3 o.node.kids.length n3) := (blk_cell HK.out.box 7).trans rfl
        go_wp2_with fail
        refine (rcopy_any o.node N1 n1 N2 n2 N3 n3 _ HO2.out.n (HOk.out.node.small (by omega))).mono ?_
        rintro e w9 ⟨_, rfl, ⟨v1, v2, v3, rfl, hM⟩, hB⟩
        obtain ⟨v1', v2', v3', ev, hR1, hR2, hR3⟩ := kNode_openM hM
        injection ev with _ ev
        injection ev with e1 ev
        injection ev with e2 ev
        injection ev with e3 _
        subst e1 e2 e3
        have hs8 := HK.out.below.size
        have hK9 := HK.out.later hB
        have hK9' := RkB.mk hK9.below hK9.ge hK9.box hK9.rows hK9.r2 hK9.r3 (Kd.R_lower hR1 hs8) (Kd.R_lower hR2 hs8) (Kd.R_lower hR3 hs8)
        obtain ⟨E1, e1, rfl⟩ := Kd.R_slice hR1
        obtain ⟨E2, e2, rfl⟩ := Kd.R_slice hR2
        obtain ⟨E3, e3, rfl⟩ := Kd.R_slice hR3
        have hb0 := hK9.box
        have hb1 := blk_set hb0 4 (.int .i64 o.node.kind)
        have hb2 := blk_set hb1 5 (.slice E1 o.node.ints.length e1)
        have hb3 := blk_set hb2 6 (.slice E2 o.node.texts.length e2)
        have s4 : w9.cell? ⟨g8, 4, none⟩ = some (.int .i64 o.node.kind) := (blk_cell hb0 4).trans rfl
        have f4 := blk_frozen hb0 4
        have s5 : (w9.setCell ⟨g8, 4, none⟩ (.int .i64 o.node.kind)).cell? ⟨g8, 5, none⟩ = some (.slice N1 o.node.ints.length n1) := (blk_cell hb1 5).trans rfl
        have f5 := blk_frozen hb1 5
        have s6 : ((w9.setCell ⟨g8, 4, none⟩ (.int .i64 o.node.kind)).setCell ⟨g8, 5, none⟩ (.slice E1 o.node.ints.length e1)).cell? ⟨g8, 6, none⟩ = some (.slice N2 o.node.texts.length n2) := (blk_cell hb2 6).trans rfl
        have f6 := blk_frozen hb2 6
        have s7 : (((w9.setCell ⟨g8, 4, none⟩ (.int .i64 o.node.kind)).setCell ⟨g8, 5, none⟩ (.slice E1 o.node.ints.length e1)).setCell ⟨g8, 6, none⟩ (.slice E2 o.node.texts.length e2)).cell? ⟨g8, 7, none⟩ = some (.slice N3 o.node.kids.length n3) := (blk_cell hb3 7).trans rfl
        have f7 := blk_frozen hb3 7
        have HK10 : Aside0 (RkB w4 g8 (.slice A6 k c6) (l.take k) #[.int .i64 o.kind, .int .i64 o.base, .slice B1 o.sets.length d1, .slice B2 o.script.length d2, .int .i64 o.node.kind, .slice E1 o.node.ints.length e1, .slice E2 o.node.texts.length e2, .slice E3 o.node.kids.length e3] (.slice none 0 0) [] (.slice none 0 0) [] (.slice E1 o.node.ints.length e1) o.node.ints (.slice E2 o.node.texts.length e2) o.node.texts (.slice E3 o.node.kids.length e3) o.node.kids ((((w9.setCell ⟨g8, 4, none⟩ (.int .i64 o.node.kind)).setCell ⟨g8, 5, none⟩ (.slice E1 o.node.ints.length e1)).setCell ⟨g8, 6, none⟩ (.slice E2 o.node.texts.length e2)).setCell ⟨g8, 7, none⟩ (.slice E3 o.node.kids.length e3))) :=
          ⟨(((hK9'.set 4 (.int .i64 o.node.kind)).set 5 (.slice E1 o.node.ints.length e1)).set 6 (.slice E2 o.node.texts.length e2)).set 7 (.slice E3 o.node.kids.length e3)⟩
        clear hM hB hR1 hR2 hR3 hs8 hK9 hK9' hb0 hb1 hb2 hb3 y4 y5 y6 y7 HO2 HK
        go_upto_region 9 with (fail)
        generalize (((w9.setCell ⟨g8, 4, none⟩ (.int .i64 o.node.kind)).setCell ⟨g8, 5, none⟩ (.slice E1 o.node.ints.length e1)).setCell ⟨g8, 6, none⟩ (.slice E2 o.node.texts.length e2)).setCell ⟨g8, 7, none⟩ (.slice E3 o.node.kids.length e3) = W10 at HK10 ⊢
        have y2 : W10.cell? ⟨g8, 2, none⟩ = some (.slice B1 o.sets.length d1) := (blk_cell HK10.out.box 2).trans rfl
        have y2a := pw_cell_below (below_alloc (Below.refl _ _) (.cells #[] 84)) y2
        go_upto_region 10 with (at_builtin; refine Kd.R_append_rows kSet (Rr := kSet.K w4) (w0 := W10) W10.heap.size rfl (.tmp 37) (.tmp 39) 58 84 (.agg #[.bool false, .int .i64 0, .int .i64 0, .string ByteArray.empty]) 40 rfl Tryd.underlying58 info_set rfl (by decide) (by omega) (.slice (some ⟨W10.heap.size, 0, none⟩) 0 0) [] o.sets B1 o.sets.length d1 (fun _ => True) (fun _ => False) rfl rfl (R_empty _ _ _ _ (Nat.le_refl _)) (rows_later HOb.out.s (below_alloc HK10.out.below _)) (fun x cs h => kSet_KM x cs h) (fun _ h => h.elim) (fun _ _ => trivial) (below_alloc (Below.refl _ _) _) (by simp) (by have := HOk.out.sets; simp; omega) ?_; intro vv w11 hR hB _ _; obtain ⟨F1, f1, rfl⟩ := Kd.R_slice hR; have hKn := HK10.out.later hB; have hbx := hKn.box; have sx : w11.cell? ⟨g8, 2, none⟩ = some (.slice B1 o.sets.length d1) := (blk_cell hbx 2).trans rfl; have sxf := blk_frozen hbx 2; have HK11 := Aside0.mk (({ hKn with r2 := Kd.R_lower hR HK10.out.below.size } : RkB w4 g8 _ _ _ _ _ _ _ _ _ _ _ _ _ w11).set 2 (.slice F1 o.sets.length f1)); clear hR hB hKn hbx)
        clear y2 y2a HK10 sx sxf
        generalize w11.setCell ⟨g8, 2, none⟩ (.slice F1 o.sets.length f1) = W12 at HK11 ⊢
        have y3 : W12.cell? ⟨g8, 3, none⟩ = some (.slice B2 o.script.length d2) := (blk_cell HK11.out.box 3).trans rfl
        have y3a := pw_cell_below (below_alloc (Below.refl _ _) (.cells #[] 128)) y3
        go_upto_region 11 with (at_builtin; refine Kd.R_append_rows kEd (Rr := kEd.K w4) (w0 := W12) W12.heap.size rfl (.tmp 42) (.tmp 44) 59 128 (.agg #[.int .i64 0, .int .i64 0]) 16 rfl Tryd.underlying59 info_ed rfl (by decide) (by omega) (.slice (some ⟨W12.heap.size, 0, none⟩) 0 0) [] o.script B2 o.script.length d2 (fun _ => True) (fun _ => False) rfl rfl (R_empty _ _ _ _ (Nat.le_refl _)) (rows_later HOb.out.e (below_alloc HK11.out.below _)) (fun x cs h => kEd_KM x cs h) (fun _ h => h.elim) (fun _ _ => trivial) (below_alloc (Below.refl _ _) _) (by simp) (by have := HOk.out.script; simp; omega) ?_; intro vv w13 hR hB _ _; obtain ⟨F2, f2, rfl⟩ := Kd.R_slice hR; have hKn := HK11.out.later hB; have hbx := hKn.box; have sx : w13.cell? ⟨g8, 3, none⟩ = some (.slice B2 o.script.length d2) := (blk_cell hbx 3).trans rfl; have sxf := blk_frozen hbx 3; have HK12 := Aside0.mk (({ hKn with r3 := Kd.R_lower hR HK11.out.below.size } : RkB w4 g8 _ _ _ _ _ _ _ _ _ _ _ _ _ w13).set 3 (.slice F2 o.script.length f2)); clear hR hB hKn hbx)
        clear y3 y3a HK11 sx sxf
        generalize w13.setCell ⟨g8, 3, none⟩ (.slice F2 o.script.length f2) = W14 at HK12 ⊢
        have z0 : W14.cell? ⟨g8, 0, none⟩ = some (.int .i64 o.kind) := (blk_cell HK12.out.box 0).trans rfl
        have z1 : W14.cell? ⟨g8, 1, none⟩ = some (.int .i64 o.base) := (blk_cell HK12.out.box 1).trans rfl
        have z2 : W14.cell? ⟨g8, 2, none⟩ = some (.slice F1 o.sets.length f1) := (blk_cell HK12.out.box 2).trans rfl
        have z3 : W14.cell? ⟨g8, 3, none⟩ = some (.slice F2 o.script.length f2) := (blk_cell HK12.out.box 3).trans rfl
        have z4 : W14.cell? ⟨g8, 4, none⟩ = some (.int .i64 o.node.kind) := (blk_cell HK12.out.box 4).trans rfl
        have z5 : W14.cell? ⟨g8, 5, none⟩ = some (.slice E1 o.node.ints.length e1) := (blk_cell HK12.out.box 5).trans rfl
        have z6 : W14.cell? ⟨g8, 6, none⟩ = some (.slice E2 o.node.texts.length e2) := (blk_cell HK12.out.box 6).trans rfl
        have z7 : W14.cell? ⟨g8, 7, none⟩ = some (.slice E3 o.node.kids.length e3) := (blk_cell HK12.out.box 7).trans rfl
        go_wp2_with (at_builtin; refine Kd.R_append kOpn (w0 := w4) w4.heap.size rfl (.tmp 47) (.tmp 49) 52 61 (.agg #[.int .i64 0, .int .i64 0, .slice none 0 0, .slice none 0 0, .int .i64 0, .slice none 0 0, .slice none 0 0, .slice none 0 0]) 144 rfl Tryd.underlying52 info_op rfl (by decide) (by omega) (.slice A6 k c6) (l.take k) o [.int .i64 o.kind, .int .i64 o.base, .slice F1 o.sets.length f1, .slice F2 o.script.length f2, .int .i64 o.node.kind, .slice E1 o.node.ints.length e1, .slice E2 o.node.texts.length e2, .slice E3 o.node.kids.length e3] (fun q => q ≠ g8) (fun q => q ≠ g8 ∧ some q ≠ (Value.slice A6 k c6).ownBlock) rfl rfl HK12.out.made (fun _ h => h) HK12.out.fresh HK12.out.rows HK12.out.below HK12.out.below.size (by rw [List.length_take]; omega) ?_; intro v15 w15 hR hB hg hat; rw [← hTk.out] at hR; obtain ⟨A7, c7, rfl⟩ := Kd.R_slice hR; rw [List.length_take_of_le hlt] at hR ⊢; have HI15 := Aside0.mk (Kd.R_mono hR (fun _ _ => trivial) : kOpn.R 61 w15 w4.heap.size (fun _ => True) (.slice A7 (k + 1) c7) (l.take (k + 1))); have HB15 := Aside0.mk hB; clear hR hB hg hat)
        clear z0 z1 z2 z3 z4 z5 z6 z7
        go_roundw
        case rel => exact ⟨k + 1, by omega, by go_num, A7, c7, rfl, HI15, HB15⟩
        case measure => simp [intOf]; omega
      · obtain rfl : k = l.length := by omega
        have HL5 := Aside0.mk (show kOpn.C wr A6 l.length l from by have := (Kd.R_reads' HI.out).2.2; rw [List.take_length] at this; exact this)
        have HB5 := Aside0.mk (below_step HB4.out HW.out)
        have HC5 := Aside0.mk (Kd.C_below HC4.out HW.out)
        have HQ5 := Aside0.mk (And.intro (And.intro (pw_cell_below HW.out HQ.out.1.1) (pw_cell_below HW.out HQ.out.1.2)) (And.intro (pw_cell_below HW.out HQ.out.2.1) (pw_cell_below HW.out HQ.out.2.2)))
        have q0 := HQ5.out.2.1
        have q1 := HQ5.out.2.2
        have HRs := Aside0.mk (applyR_small HOk.out (op_all HOp.out))
        obtain ⟨w5, hw5⟩ : ∃ w5, w5 = wr := ⟨_, rfl⟩
        subst hw5
        clear HI HW HQ HC4 HB4 hk hlt
        go_wp2_with fail
        refine (rapp_any A2 c2 a A6 c6 l _ HC5.out HL5.out (HT.out.below HB5.out) (by omega) (by have := HMr.out; omega) HOk.out HOp.out hn60).mono ?_
        rintro e w6 ⟨A7, c7, rfl, hR6, hB6⟩
        generalize applyR a l = r at HRs hR6 ⊢
        obtain ⟨t, er, at_⟩ := r
        have hA7 := below_alloc (Below.refl w6.heap.size w6) (.cells #[.slice A7 t.nodes.length c7, .int .i64 t.root] 39)
        have p0 := box_cell w6 _ rfl #[.slice A7 t.nodes.length c7, .int .i64 t.root] 39 0 (.slice A7 t.nodes.length c7) rfl
        have HB7 := Aside0.mk (below_step hB6 hA7)
        have HR7 := Aside0.mk (show kNode.R 26 (w6.alloc (.cells #[.slice A7 t.nodes.length c7, .int .i64 t.root] 39)) w5.heap.size (fun _ => True) (.slice A7 t.nodes.length c7) t.nodes from Kd.R_below hR6 hA7)
        clear hR6 hB6 hA7 q0 q1
        by_cases hz : ¬ er = 0
        · have dz : (er == 0) = false := by simpa using hz
          clear hz HR7
          have k0 := pw_cell_below HB7.out HQ5.out.1.1
          have k1 := pw_cell_below HB7.out HQ5.out.1.2
          have q0 := pw_cell_below HB7.out HQ5.out.2.1
          have q1 := pw_cell_below HB7.out HQ5.out.2.2
          have HBz := Aside0.mk (below_step HB5.out HB7.out)
          have HCz := Aside0.mk (Kd.C_below HC5.out HB7.out)
          have HLz := Aside0.mk (Kd.C_below HL5.out HB7.out)
          go_wp2_with fail
          refine (sameS_any A2 c2 a A c a _ HCz.out (Kd.C_below HR.out HBz.out) HG.out.2.1).mono ?_
          rintro e wy ⟨rfl, hBy⟩
          rw [sameS_yes rfl]
          have HBy := Aside0.mk (below_step HBz.out hBy)
          have HLy := Aside0.mk (Kd.C_below HLz.out hBy)
          clear hBy k0 k1 q0 q1
          go_wp2_with fail
          refine (sameOps_ok A6 c6 Al cl l _ HLy.out (Kd.C_below HL.out HBy.out) (fun k hk => (HOp.out k hk).node.small (by omega))).mono ?_
          rintro e wx ⟨rfl, hBx⟩
          have HBx := Aside0.mk (below_step HBy.out hBx)
          clear hBx
          go_wp2
          go_ret
          exact ⟨rfl, HBx.out⟩
        · replace hz := Classical.byContradiction hz
          subst hz
          have hS : ∀ i : Nat, i < t.nodes.length → Small (nd t.nodes i) := fun i hi => (HRs.out i hi).small (by omega)
          have HS := Aside0.mk hS
          clear hS HRs
          have HA7 := Aside0.mk (show 0 < t.nodes.length → ∃ gn, A7 = some ⟨gn, 0, none⟩ from fun hp => by
            obtain ⟨g, cap, hv, _⟩ := Kd.R_form HR7.out hp
            injection hv with hA _ _
            exact ⟨g, hA⟩)
          have HN7 := Aside0.mk (show ∀ gn, A7 = some ⟨gn, 0, none⟩ → NodesLive w5.heap.size gn t.nodes.length (w6.alloc (.cells #[.slice A7 t.nodes.length c7, .int .i64 t.root] 39)) from fun gn e => NodesLive.of_R' HR7.out e HS.out)
          have hmx := (Kd.R_reads' HR7.out).2.2.2.1
          clear HR7 HS
          go_wp2
          clear p0
          go_loopw [64] (fun v64 W => ∃ k : Nat, k ≤ t.nodes.length ∧ v64 = .int .i64 k ∧ Aside0 (Below w5.heap.size w5 W) ∧ Aside0 (∀ gn, A7 = some ⟨gn, 0, none⟩ → NodesLive w5.heap.size gn t.nodes.length W)) (fun v64 _ => t.nodes.length - (intOf v64).toNat)
          case atStart => exact ⟨0, by omega, rfl, HB7, HN7⟩
          case round =>
            clear HB7 HN7
            obtain ⟨k, hk, rfl, HB7, HN7⟩ := hrel
            by_cases hlt : k < t.nodes.length
            · obtain ⟨gn, hgn⟩ := HA7.out (by omega)
              subst hgn
              have HL7 := Aside0.mk (HN7.out gn rfl)
              obtain ⟨-, kd, M1, m1, e1, M2, m2, e2, M3, m3, e3, ⟨⟨x0, x1⟩, x2, x3⟩, hs, r1, r2, r3⟩ := HL7.out k hlt
              have HH0 := Aside0.mk (InHand.start (kd := kd) (c1 := e1) (c2 := e2) (c3 := e3) HB7.out HL7.out r1 r2 r3)
              obtain ⟨hs1, hs2, hs3⟩ := hs
              clear r1 r2 r3
              go_upto_region 18 with (fail)
              generalize wr.alloc (.cells #[.int .i64 kd, .slice M1 m1 e1, .slice M2 m2 e2, .slice M3 m3 e3] 26) = W17 at HH0 ⊢
              generalize wr.heap.size = gb at HH0 ⊢
              clear x0 x1 x2 x3 HL7 HB7 HN7
              have HH := HH0
              clear HH0
              have s0 : W17.cell? ⟨gb, 1, none⟩ = some (.slice M1 m1 e1) := (blk_cell HH.out.box 1).trans rfl
              go_wp2
              clear s0
              go_loopw [71] (fun v W => ∃ i : Nat, i ≤ m1 ∧ v = .int .i64 i ∧ Aside0 (InHand w5 gn t.nodes.length gb kd M1 m1 e1 M2 m2 e2 M3 m3 e3 W)) (fun v _ => m1 - (intOf v).toNat)
              case atStart => exact ⟨0, by omega, rfl, HH⟩
              case round =>
                clear HH
                obtain ⟨i, hi, rfl, HH⟩ := hrel
                have s0 : wr.cell? ⟨gb, 1, none⟩ = some (.slice M1 m1 e1) := (blk_cell HH.out.box 1).trans rfl
                by_cases hli : i < m1
                · obtain ⟨b, hb, -⟩ := HH.out.r1 (by omega)
                  subst hb
                  obtain ⟨⟨u, hu1⟩, hu2, hu3, cs, hu4⟩ := LiveRow.at HH.out.r1 hli
                  have HH2 := Aside0.mk (HH.out.set (i := i) hu4 (by decide) hu3 (.int .i64 77))
                  clear hu3 hu4
                  go_wp2
                  go_roundw
                  case rel => exact ⟨i + 1, by omega, by go_num, HH2⟩
                  case measure => simp [intOf]; omega
                · obtain ⟨W18, hw17⟩ : ∃ W18, W18 = wr := ⟨_, rfl⟩
                  subst hw17
                  obtain rfl : m1 = i := by omega
                  clear s0 hi hli
                  have s0 : W18.cell? ⟨gb, 3, none⟩ = some (.slice M3 m3 e3) := (blk_cell HH.out.box 3).trans rfl
                  go_wp2
                  clear s0
                  go_loopw [82] (fun v W => ∃ i : Nat, i ≤ m3 ∧ v = .int .i64 i ∧ Aside0 (InHand w5 gn t.nodes.length gb kd M1 m1 e1 M2 m2 e2 M3 m3 e3 W)) (fun v _ => m3 - (intOf v).toNat)
                  case atStart => exact ⟨0, by omega, rfl, HH⟩
                  case round =>
                    clear HH
                    obtain ⟨i, hi, rfl, HH⟩ := hrel
                    have s0 : wr.cell? ⟨gb, 3, none⟩ = some (.slice M3 m3 e3) := (blk_cell HH.out.box 3).trans rfl
                    by_cases hli : i < m3
                    · obtain ⟨b, hb, -⟩ := HH.out.r3 (by omega)
                      subst hb
                      obtain ⟨⟨u, hu1⟩, hu2, hu3, cs, hu4⟩ := LiveRow.at HH.out.r3 hli
                      have HH2 := Aside0.mk (HH.out.set (i := i) hu4 (by decide) hu3 (.int .i64 (-3)))
                      clear hu3 hu4
                      go_wp2
                      go_roundw
                      case rel => exact ⟨i + 1, by omega, by go_num, HH2⟩
                      case measure => simp [intOf]; omega
                    · obtain ⟨W19, hw17⟩ : ∃ W19, W19 = wr := ⟨_, rfl⟩
                      subst hw17
                      obtain rfl : m3 = i := by omega
                      clear s0 hi hli
                      have s0 : W19.cell? ⟨gb, 2, none⟩ = some (.slice M2 m2 e2) := (blk_cell HH.out.box 2).trans rfl
                      go_wp2
                      clear s0
                      go_loopw [93] (fun v W => ∃ i : Nat, i ≤ m2 ∧ v = .int .i64 i ∧ Aside0 (InHand w5 gn t.nodes.length gb kd M1 m1 e1 M2 m2 e2 M3 m3 e3 W)) (fun v _ => m2 - (intOf v).toNat)
                      case atStart => exact ⟨0, by omega, rfl, HH⟩
                      case round =>
                        clear HH
                        obtain ⟨i, hi, rfl, HH⟩ := hrel
                        have s0 : wr.cell? ⟨gb, 2, none⟩ = some (.slice M2 m2 e2) := (blk_cell HH.out.box 2).trans rfl
                        by_cases hli : i < m2
                        · obtain ⟨b, hb, -⟩ := HH.out.r2 (by omega)
                          subst hb
                          obtain ⟨⟨u, hu1⟩, hu2, hu3, cs, hu4⟩ := LiveRow.at HH.out.r2 hli
                          have HH2 := Aside0.mk (HH.out.set (i := i) hu4 (by decide) hu3 (.string ⟨#[120]⟩))
                          clear hu3 hu4
                          go_wp2
                          go_roundw
                          case rel => exact ⟨i + 1, by omega, by go_num, HH2⟩
                          case measure => simp [intOf]; omega
                        · obtain ⟨W20, hw17⟩ : ∃ W20, W20 = wr := ⟨_, rfl⟩
                          subst hw17
                          obtain rfl : m2 = i := by omega
                          clear s0 hi hli
                          have HB8 := Aside0.mk HH.out.below
                          have HN8 := Aside0.mk (show ∀ gn', some (⟨gn, 0, none⟩ : Addr) = some ⟨gn', 0, none⟩ → NodesLive w5.heap.size gn' t.nodes.length W20 from fun gn' e => by injection e with e; injection e with e; subst e; exact HH.out.live)
                          clear HH
                          go_wp2
                          go_roundw
                          case rel => exact ⟨k + 1, by omega, by go_num, HB8, HN8⟩
                          case measure => simp [intOf]; omega
            · obtain rfl : k = t.nodes.length := by omega
              clear HN7 HA7 hk hlt
              have k0 := pw_cell_below HB7.out HQ5.out.1.1
              have k1 := pw_cell_below HB7.out HQ5.out.1.2
              have q0 := pw_cell_below HB7.out HQ5.out.2.1
              have q1 := pw_cell_below HB7.out HQ5.out.2.2
              have HBz := Aside0.mk (below_step HB5.out HB7.out)
              have HCz := Aside0.mk (Kd.C_below HC5.out HB7.out)
              have HLz := Aside0.mk (Kd.C_below HL5.out HB7.out)
              go_wp2_with fail
              refine (sameS_any A2 c2 a A c a _ HCz.out (Kd.C_below HR.out HBz.out) HG.out.2.1).mono ?_
              rintro e wy ⟨rfl, hBy⟩
              rw [sameS_yes rfl]
              have HBy := Aside0.mk (below_step HBz.out hBy)
              have HLy := Aside0.mk (Kd.C_below HLz.out hBy)
              clear hBy k0 k1 q0 q1
              go_wp2_with fail
              refine (sameOps_ok A6 c6 Al cl l _ HLy.out (Kd.C_below HL.out HBy.out) (fun k hk => (HOp.out k hk).node.small (by omega))).mono ?_
              rintro e wx ⟨rfl, hBx⟩
              have HBx := Aside0.mk (below_step HBy.out hBx)
              clear hBx
              go_wp2
              go_ret
              exact ⟨rfl, HBx.out⟩
end Go.Proofs.YtglfebpgdghlfaaDoor.L
end
section
namespace Go.Proofs.YtglfebpgdghlfaaDoor.L
open Go.RowKit Go.ChangeShapes Go.WideShapes Go.Proofs.YtglfebpgdghlfaaDoorW.PrintWords Go.Proofs.YtglfebpgdghlfaaDoorW.PrintLast Go.Proofs.YtglfebpgdghlfaaDoorW.PrintMore
attribute [local go_sem] max2_int min2_int max_two min_two max_three min_three max_four min_four
section
variable {P : Program} {α β : Type}
def Opens (P : Program) (k : Kd α) (t : TypeId) (good : α → Prop) : Prop :=
  ∀ (H : Type) (enc : TypeId × Value → H) (w : World) (base : Nat) (spare : Nat → Bool) (held : Bool) (fuel : Nat) (cs : List Value) (x : DataW H × List MemPlace), DataW.trod enc P w base spare held fuel t cs = some x → ∃ v, k.K w v cs ∧ good v
theorem opens_int {t : TypeId} {k : IntKind} (ht : P.underlying t = some (.int k)) : Opens P (Kd.int k) t (fun n => (Lit.int k n).wf = true) := by
  intro H enc w base spare held fuel cs x h
  obtain ⟨n, rfl, _, hw⟩ := DataW.trod_int ht h
  exact ⟨n, rfl, hw⟩
theorem opens_bool {t : TypeId} (ht : P.underlying t = some .bool) : Opens P Kd.bool t (fun _ => True) := by
  intro H enc w base spare held fuel cs x h
  obtain ⟨b, rfl, _⟩ := DataW.trod_bool ht h
  exact ⟨b, rfl, trivial⟩
theorem opens_string {t : TypeId} (ht : P.underlying t = some .string) : Opens P Kd.string t (fun s => s.size ≤ maxLen) := by
  intro H enc w base spare held fuel cs x h
  obtain ⟨s, rfl, _, hs⟩ := DataW.trod_string ht h
  exact ⟨s, rfl, hs⟩
theorem list_of {R : Nat → α → Prop} : ∀ n, (∀ i, i < n → ∃ p, R i p) → ∃ xs : List α, xs.length = n ∧ ∀ j p, xs[j]? = some p → R j p := by
  intro n
  induction n with
  | zero => intro _; exact ⟨[], rfl, fun j p h => by simp at h⟩
  | succ n ih =>
    intro h
    obtain ⟨xs, hl, hx⟩ := ih (fun i hi => h i (by omega))
    obtain ⟨p, hp⟩ := h n (by omega)
    refine ⟨xs ++ [p], by simp [hl], fun j q hq => ?_⟩
    rw [List.getElem?_append] at hq
    split at hq
    · exact hx j q hq
    · have hj : j = n := by
        have := (List.getElem?_eq_some_iff.1 hq).1
        simp at this
        omega
      subst hj
      rw [hl, Nat.sub_self] at hq
      simp at hq
      subst hq
      exact hp
theorem opens_slice {d : Kd α} {t e e' : TypeId} {good : α → Prop} (ht : P.underlying t = some (.slice e)) (hc : P.cellsOf e = d.sz) (hd : Opens P d e good) : Opens P (Kd.slice e' d) t (fun xs => xs.length ≤ maxLen ∧ ∀ x ∈ xs, good x) := by
  intro H enc w base spare held fuel cs x h
  rcases Deep.open_slice ht h with ⟨rfl, _⟩ | ⟨a, len, cap, m, n, D, Pl, rfl, _, hl, hm, hmm, _, hx⟩
  · exact ⟨[], ⟨none, 0, rfl, Nat.le_refl _, rfl, by simp, fun h => by simp at h⟩, by simp, by simp⟩
  · have hlm : len ≤ m := by rw [hmm]; split <;> omega
    rw [hc] at hx
    obtain ⟨xs, hxl, hxs⟩ := list_of (R := fun i p => (∃ c, c.length = d.sz ∧ d.K w p c ∧ ∀ j u, c[j]? = some u → w.cell? (a.add (i * d.sz + j)) = some u) ∧ good p) len (fun i hi => by
      obtain ⟨cs', h1, h2⟩ := hx i (by omega)
      obtain ⟨_, hcl, hat⟩ := World.cells?_some h1
      obtain ⟨p, hK, hg⟩ := hd H enc w base spare held n cs' _ h2
      refine ⟨p, ⟨cs', hcl, hK, fun j u hu => ?_⟩, hg⟩
      have hj : j < d.sz := by rw [← hcl]; exact (List.getElem?_eq_some_iff.1 hu).1
      rw [← Deep.add_add, hat j hj, hu])
    subst hxl
    refine ⟨xs, ⟨some a, cap, rfl, hl, rfl, by unfold maxLen at hm; omega, fun _ => ⟨a, rfl, fun j p hp => (hxs j p hp).1⟩⟩, by omega, fun x hx => ?_⟩
    obtain ⟨j, hj⟩ := List.getElem?_of_mem hx
    exact (hxs j x hj).2
def OpensL (P : Program) (k : Kd α) (fs : List Field) (off : Nat) (good : α → Prop) : Prop :=
  ∀ (H : Type) (enc : TypeId × Value → H) (w : World) (base : Nat) (spare : Nat → Bool) (held : Bool) (n : Nat) (cs : List Value), cs.length = k.sz → (∀ f ∈ fs, ∃ x, DataW.trod enc P w base spare held n f.type ((cs.drop (f.offset - off)).take (P.cellsOf f.type)) = some x) → ∃ v, k.K w v cs ∧ good v
theorem opensL_one {k : Kd α} {f : Field} {off : Nat} {good : α → Prop} (ho : f.offset = off) (hc : P.cellsOf f.type = k.sz) (h : Opens P k f.type good) : OpensL P k [f] off good := by
  intro H enc w base spare held n cs hl hf
  obtain ⟨x, hx⟩ := hf f (by simp)
  rw [ho, Nat.sub_self, List.drop_zero, hc, ← hl, List.take_length] at hx
  exact h H enc w base spare held n cs x hx
theorem opensL_cons {a : Kd α} {b : Kd β} {f : Field} {fs : List Field} {off : Nat} {ga : α → Prop} {gb : β → Prop} (ho : f.offset = off) (hc : P.cellsOf f.type = a.sz) (h : Opens P a f.type ga) (hoff : ∀ g ∈ fs, off + a.sz ≤ g.offset) (hs : OpensL P b fs (off + a.sz) gb) :
    OpensL P (Kd.pair a b) (f :: fs) off (fun x => ga x.1 ∧ gb x.2) := by
  intro H enc w base spare held n cs hl hf
  have hl' : cs.length = a.sz + b.sz := hl
  obtain ⟨x, hx⟩ := hf f (by simp)
  rw [ho, Nat.sub_self, List.drop_zero, hc] at hx
  obtain ⟨v, hv, hg⟩ := h H enc w base spare held n _ x hx
  obtain ⟨u, hu, hg'⟩ := hs H enc w base spare held n (cs.drop a.sz) (by rw [List.length_drop]; omega) (fun g hg => by
    obtain ⟨y, hy⟩ := hf g (by simp [hg])
    have := hoff g hg
    refine ⟨y, ?_⟩
    rw [List.drop_drop, show a.sz + (g.offset - (off + a.sz)) = g.offset - off from by omega]
    exact hy)
  exact ⟨(v, u), ⟨_, _, (List.take_append_drop a.sz cs).symm, hv, hu⟩, hg, hg'⟩
theorem opens_struct {k : Kd α} {t : TypeId} {fs : Array Field} {good : α → Prop} (ht : P.underlying t = some (.struct fs)) (hc : P.cellsOf t = k.sz) (h : OpensL P k fs.toList 0 good) : Opens P k t good := by
  intro H enc w base spare held fuel cs x hx
  obtain ⟨xs, n, _, _, hl, hxl, hf⟩ := DataW.trod_struct ht hx
  refine h H enc w base spare held n cs (hl.trans hc) (fun f hfm => ?_)
  obtain ⟨i, hi⟩ := List.getElem?_of_mem hfm
  have hi' : fs[i]? = some f := by simpa using hi
  have hil : i < xs.length := by rw [hxl]; exact (Array.getElem?_eq_some_iff.1 hi').1
  exact ⟨xs[i]'hil, by rw [Nat.sub_zero, hf i f hi', List.getElem?_eq_getElem hil]⟩
theorem opens_iso {d : Kd α} {f : β → α} {t : TypeId} {good : α → Prop} (hf : ∀ v, ∃ x, f x = v) (h : Opens P d t good) : Opens P (Kd.iso d f) t (fun x => good (f x)) := by
  intro H enc w base spare held fuel cs x hx
  obtain ⟨v, hv, hg⟩ := h H enc w base spare held fuel cs x hx
  obtain ⟨y, rfl⟩ := hf v
  exact ⟨y, hv, hg⟩
theorem Opens.arg_slice {d : Kd α} {H : Type} {enc : TypeId × Value → H} {W : World} {b0 base : Nat} {r : Reach} {spare : Nat → Bool} {held : Bool} {t e e' : TypeId} {good : List α → Prop} {v : Value} {q : DataW H} {p : List MemPlace} (hs : P.underlying t = some (.slice e)) (ho : Opens P (Kd.slice e' d) t good)
    (hv : Value.okWide P W r b0 t v) (h : DataW.Trod enc P W base spare held t v q p) : ∃ A l c, v = .slice A (l : List α).length c ∧ l.length ≤ c ∧ d.C W A l.length l ∧ good l := by
  obtain ⟨a0, len0, cap0, rfl⟩ := okWide_slice hs hv
  obtain ⟨fuel, hf⟩ := h
  obtain ⟨l, ⟨A, c, e, hl, hC⟩, hg⟩ := ho H enc W base spare held fuel _ _ hf
  have e : Value.slice a0 len0 cap0 = .slice A l.length c := by simpa [Value.cells] using e
  exact ⟨A, l, c, e, hl, hC, hg⟩
theorem Opens.arg_struct {k : Kd α} {H : Type} {enc : TypeId × Value → H} {W : World} {b0 base : Nat} {r : Reach} {spare : Nat → Bool} {held : Bool} {t : TypeId} {fs : Array Field} {good : α → Prop} {v : Value} {q : DataW H} {p : List MemPlace} (hs : P.underlying t = some (.struct fs)) (ho : Opens P k t good)
    (hv : Value.okWide P W r b0 t v) (h : DataW.Trod enc P W base spare held t v q p) : ∃ x cs, v = .agg cs ∧ k.K W x cs.toList ∧ good x := by
  obtain ⟨cs, rfl, _⟩ := okWide_struct hs hv
  obtain ⟨fuel, hf⟩ := h
  obtain ⟨x, hK, hg⟩ := ho H enc W base spare held fuel _ _ hf
  exact ⟨x, cs, rfl, by simpa [Value.cells] using hK, hg⟩
end
end Go.Proofs.YtglfebpgdghlfaaDoor.L
end
section
namespace Go.Proofs.YtglfebpgdghlfaaDoor.L
open Go.RowKit Go.ChangeShapes Go.WideShapes Go.Proofs.YtglfebpgdghlfaaDoorW.PrintWords Go.Proofs.YtglfebpgdghlfaaDoorW.PrintLast Go.Proofs.YtglfebpgdghlfaaDoorW.PrintMore
attribute [local go_sem] max2_int min2_int max_two min_two max_three min_three max_four min_four
open Go.ChangeShapes Go.WideShapes Go.ChangeAt Go.RowKit
theorem own : ownKnob Tryd.prog.godebug = none := by kernel_rfl
theorem laidOut : laidOutB Tryd.prog = true := by kernel_rfl
def rowLaid : List (String × DataW Unit) := [("unicode/utf8.acceptRanges", Rows.laid_unicode_utf8_acceptRanges), ("unicode/utf8.first", Rows.laid_unicode_utf8_first)]
theorem firstD : Go.Pinned.utf8First = Lib.firstData := by kernel_rfl
theorem acceptD : (Rows.laid_unicode_utf8_acceptRanges : DataW Unit) = Lib.acceptData := by kernel_rfl
theorem tabs_of_laid {W : World} (h : laidMetH Tryd.prog rowLaid W) : Tabs W := by
  rw [MakeChecks.laidMetH_plain _ _ _ (by kernel_rfl)] at h
  exact utf8Tabs_of_reads Tryd.lays260 ⟨by kernel_rfl, by kernel_rfl, by kernel_rfl, by kernel_rfl, by kernel_rfl, by kernel_rfl, by kernel_rfl⟩
    (firstD ▸ Lib.laidMet.reads h (show ("unicode/utf8.first", Go.Pinned.utf8First) ∈ rowLaid from .tail _ (.head _)))
    (acceptD ▸ Lib.laidMet.reads h (show ("unicode/utf8.acceptRanges", Rows.laid_unicode_utf8_acceptRanges) ∈ rowLaid from .head _))
theorem laid_met (os : Os) (args : Array Value) : laidMetH Tryd.prog rowLaid ((World.laidAll Tryd.prog os rowLaid).forCall (fun _ _ => 0) ⟨#[], args, []⟩).memory := by
  rw [MakeChecks.laidMetH_plain _ _ _ (by kernel_rfl)]
  exact laidMet_laidAll _ (by kernel_rfl) (by kernel_rfl)
theorem opensL_any {P : Program} {α : Type} {k : Kd α} {fs : List Field} {off : Nat} {good : α → Prop} (h : OpensL P k fs off good) : OpensL P k fs off (fun _ => True) := by
  intro H enc w base spare held n cs hl hf
  obtain ⟨v, hv, _⟩ := h H enc w base spare held n cs hl hf
  exact ⟨v, hv, trivial⟩
theorem opens_node : Opens Tryd.prog kNode 26 (fun _ => True) := by
  unfold kNode
  refine opens_iso (good := fun _ => True) (fun v => ⟨⟨v.1, v.2.1, v.2.2.1, v.2.2.2⟩, rfl⟩) (opens_struct (good := fun _ => True) Tryd.underlying26 (by kernel_rfl) ?_)
  exact opensL_any (opensL_cons rfl (by kernel_rfl) (opens_int Tryd.underlying3) (by decide)
    (opensL_cons rfl (by kernel_rfl) (opens_slice Tryd.underlying22 (by kernel_rfl) (opens_int Tryd.underlying2)) (by decide)
    (opensL_cons rfl (by kernel_rfl) (opens_slice Tryd.underlying23 (by kernel_rfl) (opens_string Tryd.underlying9)) (by decide)
    (opensL_one rfl (by kernel_rfl) (opens_slice Tryd.underlying24 (by kernel_rfl) (opens_int Tryd.underlying3))))))
def kScene : Kd Scene := Kd.iso (Kd.pair (Kd.slice 26 kNode) (Kd.int .i64)) (fun x : Scene => (x.nodes, x.root))
theorem opens_scene : Opens Tryd.prog kScene 39 (fun _ => True) := by
  unfold kScene
  refine opens_iso (good := fun _ => True) (fun v => ⟨⟨v.1, v.2⟩, rfl⟩) (opens_struct (good := fun _ => True) Tryd.underlying39 (by kernel_rfl) ?_)
  exact opensL_any (opensL_cons rfl (by kernel_rfl) (opens_slice Tryd.underlying30 (by kernel_rfl) opens_node) (by decide)
    (opensL_one rfl (by kernel_rfl) (opens_int Tryd.underlying3)))
theorem kScene_open {w : World} {x : Scene} {cs : List Value} (h : kScene.K w x cs) : ∃ A c, cs = [.slice A x.nodes.length c, .int .i64 x.root] ∧ x.nodes.length ≤ c ∧ kNode.C w A x.nodes.length x.nodes := by
  obtain ⟨_, _, rfl, ⟨A, c, rfl, l, h⟩, rfl⟩ := h
  exact ⟨A, c, rfl, l, h⟩
end Go.Proofs.YtglfebpgdghlfaaDoor.L
end
