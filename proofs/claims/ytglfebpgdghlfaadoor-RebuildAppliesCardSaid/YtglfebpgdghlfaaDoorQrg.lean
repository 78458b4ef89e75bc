/- Any operations make by rebuild.Apply of any scene what the document says, or it is told which can't be done, and why; conditions: none (every scene, every list of operations; the two tables of unicode/utf8 read as the program's text lays them, and the card ties that). Conditions: those that each theorem states. -/
import Derived.Test.YtglfebpgdghlfaaDoorQrf
import Derived.Test.YtglfebpgdghlfaaDoorCards
import Derived.Test.YtglfebpgdghlfaaDoorTie
import Derived.OpenShut
import Derived.ChangeOld
import Derived.SizedLaws
import Derived.LaidMore
import Derived.Lay
import Derived.SevenTiedAt
import Derived.Stop.Joined
import Derived.Lib.LaidU8
set_option linter.unusedVariables false
set_option linter.unusedSimpArgs false
section
namespace Go.Proofs.YtglfebpgdghlfaaDoor.L
open Go.RowKit Go.ChangeShapes Go.WideShapes Go.Proofs.YtglfebpgdghlfaaDoorW.PrintWords Go.Proofs.YtglfebpgdghlfaaDoorW.PrintLast Go.Proofs.YtglfebpgdghlfaaDoorW.PrintMore
attribute [local go_sem] max2_int min2_int max_two min_two max_three min_three max_four min_four
theorem sameN_empty (n : Node) : sameN n nodez = emptyN n := by
  rw [Bool.eq_iff_iff, sameN_iff]
  refine ⟨fun h => ?_, fun h => ?_⟩
  · rw [h]; exact decide_eq_true ⟨rfl, rfl, rfl, rfl⟩
  · obtain ⟨h0, h1, h2, h3⟩ := of_decide_eq_true h
    cases n
    simp only at h0 h1 h2 h3
    rw [h0, List.eq_nil_of_length_eq_zero h1, List.eq_nil_of_length_eq_zero h2, List.eq_nil_of_length_eq_zero h3]
    rfl
theorem NodePost.bad {r : Node × Int} {w w' : World} (hr : r = (nodez, 21)) (hB : Below w.heap.size w w') : NodePost r w (.returned (.tuple #[.agg #[.int .i64 0, .slice none 0 0, .slice none 0 0, .slice none 0 0], .int .i64 21])) w' := by
  subst hr
  exact ⟨_, _, _, rfl, nodez_M _ _, hB⟩
structure OneBx (w : World) (A : Option Addr) (c : Nat) (a : Scene) (cs : Array Value) (W : World) : Prop where
  below : Below w.heap.size w W
  sb : W.heap[w.heap.size]? = some (.cells #[.slice A a.nodes.length c, .int .i64 a.root] 39 (0, 0))
  ob : W.heap[w.heap.size + 1]? = some (.cells cs 61 (0, 0))
  res : W.heap[w.heap.size + 2]? = some (.cells zeroN 26 (0, 0))
  non : W.heap[w.heap.size + 3]? = some (.cells zeroN 26 (0, 0))
theorem OneBx.later {w : World} {A : Option Addr} {c : Nat} {a : Scene} {cs : Array Value} {W W1 : World} (h : OneBx w A c a cs W) (hb : Below W.heap.size W W1) : OneBx w A c a cs W1 :=
  ⟨below_step h.below hb, (hb.block _ (blk_lt h.sb)).trans h.sb, (hb.block _ (blk_lt h.ob)).trans h.ob, (hb.block _ (blk_lt h.res)).trans h.res, (hb.block _ (blk_lt h.non)).trans h.non⟩
theorem OneBx.far {w : World} {A : Option Addr} {c : Nat} {a : Scene} {cs : Array Value} {W : World} {g i : Nat} (h : OneBx w A c a cs W) (hg : w.heap.size + 3 < g) (u : Value) : OneBx w A c a cs (W.setCell ⟨g, i, none⟩ u) :=
  ⟨below_set h.below (by omega), (Below.heap_setCell W ⟨g, i, none⟩ u _ (by show w.heap.size ≠ g; omega)).trans h.sb, (Below.heap_setCell W ⟨g, i, none⟩ u _ (by show w.heap.size + 1 ≠ g; omega)).trans h.ob, (Below.heap_setCell W ⟨g, i, none⟩ u _ (by show w.heap.size + 2 ≠ g; omega)).trans h.res, (Below.heap_setCell W ⟨g, i, none⟩ u _ (by show w.heap.size + 3 ≠ g; omega)).trans h.non⟩
theorem OneBx.far4 {w : World} {A : Option Addr} {c : Nat} {a : Scene} {cs : Array Value} {W : World} {g i0 i1 i2 i3 : Nat} (h : OneBx w A c a cs W) (hg : w.heap.size + 3 < g) (u0 u1 u2 u3 : Value) : OneBx w A c a cs ((((W.setCell ⟨g, i0, none⟩ u0).setCell ⟨g, i1, none⟩ u1).setCell ⟨g, i2, none⟩ u2).setCell ⟨g, i3, none⟩ u3) :=
  (((h.far hg u0).far hg u1).far hg u2).far hg u3
theorem OutRel.m {m : Node} {v1 v2 v3 : Value} {w : World} {rb g : Nat} {W : World} (h : OutRel m v1 v2 v3 w rb g W) : kNode.M W w.heap.size (fun _ => True) m [.int .i64 m.kind, v1, v2, v3] := kNode_mkM h.r1 h.r2 h.r3
set_option maxRecDepth 100000 in
set_option maxHeartbeats 8000000 in
theorem rone_any (A : Option Addr) (c : Nat) (a : Scene) (o : Opn) (B1 : Option Addr) (d1 : Nat) (B2 : Option Addr) (d2 : Nat) (A1 : Option Addr) (c1 : Nat) (A2 : Option Addr) (c2 : Nat) (A3 : Option Addr) (c3 : Nat) (B : Option Addr) (d : Nat) (base : List Int) (w : World)
    (h : kNode.C w A a.nodes.length a.nodes) (hO : OpnC w o B1 d1 B2 d2 A1 c1 A2 c2 A3 c3) (hbs : (Kd.int .i64).C w B base.length base) (hd : base.length ≤ d) (hbl : base.length ≤ 1000000) (ha : ∀ i : Nat, i < a.nodes.length → OkN 4000 (nd a.nodes i)) (ho : OpOk o) :
    Calls Tryd.prog 57 #[.agg #[.slice A a.nodes.length c, .int .i64 a.root], .agg (opV o B1 d1 B2 d2 A1 c1 A2 c2 A3 c3), .slice B base.length d, .int .i64 (base.length : Int)] w (NodePost (oneN a.nodes base o) w) := by
  have HR := Aside0.mk h
  have HO := Aside0.mk hO
  have HBs := Aside0.mk hbs
  have HOk := Aside0.mk ha
  have HOp := Aside0.mk ho
  have huo := Tryd.underlying61
  have hun := Tryd.underlying26
  have hus := Tryd.underlying39
  have HBx := Aside0.mk (show OneBx w A c a (opV o B1 d1 B2 d2 A1 c1 A2 c2 A3 c3) ((((w.alloc (.cells #[.slice A a.nodes.length c, .int .i64 a.root] 39)).alloc (.cells (opV o B1 d1 B2 d2 A1 c1 A2 c2 A3 c3) 61)).alloc (.cells zeroN 26)).alloc (.cells zeroN 26)) from by
    have b1 := below_alloc (Below.refl w.heap.size w) (.cells #[.slice A a.nodes.length c, .int .i64 a.root] 39)
    have n1 := heap_alloc_new w (.cells #[.slice A a.nodes.length c, .int .i64 a.root] 39)
    generalize hw1 : w.alloc (.cells #[.slice A a.nodes.length c, .int .i64 a.root] 39) = W1 at b1 n1 ⊢
    have s1 : W1.heap.size = w.heap.size + 1 := by rw [← hw1]; simp
    have b2 := below_alloc (Below.refl W1.heap.size W1) (.cells (opV o B1 d1 B2 d2 A1 c1 A2 c2 A3 c3) 61)
    have n2 := heap_alloc_new W1 (.cells (opV o B1 d1 B2 d2 A1 c1 A2 c2 A3 c3) 61)
    generalize hw2 : W1.alloc (.cells (opV o B1 d1 B2 d2 A1 c1 A2 c2 A3 c3) 61) = W2 at b2 n2 ⊢
    have s2 : W2.heap.size = w.heap.size + 2 := by rw [← hw2]; simp; omega
    have b3 := below_alloc (Below.refl W2.heap.size W2) (.cells zeroN 26)
    have n3 := heap_alloc_new W2 (.cells zeroN 26)
    generalize hw3 : W2.alloc (.cells zeroN 26) = W3 at b3 n3 ⊢
    have s3 : W3.heap.size = w.heap.size + 3 := by rw [← hw3]; simp; omega
    have b4 := below_alloc (Below.refl W3.heap.size W3) (.cells zeroN 26)
    have n4 := heap_alloc_new W3 (.cells zeroN 26)
    rw [s1] at n2
    rw [s2] at n3
    rw [s3] at n4
    exact ⟨below_step (below_step (below_step b1 b2) b3) b4, (b4.block _ (by omega)).trans ((b3.block _ (by omega)).trans ((b2.block _ (by omega)).trans n1)), (b4.block _ (by omega)).trans ((b3.block _ (by omega)).trans n2), (b4.block _ (by omega)).trans n3, n4⟩)
  clear h hO hbs ha ho
  by_cases hk : o.kind < 1 ∨ 3 < o.kind
  · have HE := Aside0.mk (show oneN a.nodes base o = (nodez, 21) from by unfold oneN; rw [if_neg (by omega), if_neg (by omega), if_neg (by omega)])
    rcases hk with hk | hk
    · have g1 : decide (o.kind < 1) = true := decide_eq_true hk
      clear hk
      go_enter Tryd.func57, Tryd.ntmps57
      go_wp2
      exact bodyPost_ret (v := .tuple #[.agg #[.int .i64 0, .slice none 0 0, .slice none 0 0, .slice none 0 0], .int .i64 21]) (by simp [results, Tryd.results57, go_sem]) rfl (NodePost.bad HE.out HBx.out.below)
    · have g1 : decide (o.kind < 1) = false := decide_eq_false (by omega)
      have g2 : decide (3 < o.kind) = true := decide_eq_true hk
      clear hk
      go_enter Tryd.func57, Tryd.ntmps57
      go_wp2
      exact bodyPost_ret (v := .tuple #[.agg #[.int .i64 0, .slice none 0 0, .slice none 0 0, .slice none 0 0], .int .i64 21]) (by simp [results, Tryd.results57, go_sem]) rfl (NodePost.bad HE.out HBx.out.below)
  have g1 : decide (o.kind < 1) = false := decide_eq_false (by omega)
  have g2 : decide (3 < o.kind) = false := decide_eq_false (by omega)
  by_cases hk3 : o.kind = 3
  · have g3 : (o.kind == 3) = true := by simpa using hk3
    have HF : Aside0 (oneN a.nodes base o = freshN o) := ⟨by unfold oneN; rw [if_neg (by omega), if_neg (by omega), if_pos hk3]⟩
    by_cases h1 : o.base = 0
    · have q1 : (o.base != 0) = false := by simpa using h1
      by_cases h2 : o.sets.length = 0
      · have q2 : decide (0 < o.sets.length) = false := decide_eq_false (by omega)
        by_cases h3 : o.script.length = 0
        · have q3 : decide (0 < o.script.length) = false := decide_eq_false (by omega)
          have HE := Aside0.mk (show oneN a.nodes base o = (o.node, 0) from HF.out.trans (if_pos ⟨h1, h2, h3⟩))
          clear h1 h2 h3 hk3 hk
          go_enter Tryd.func57, Tryd.ntmps57
          go_wp2_with fail
          refine (rcopy_any o.node A1 c1 A2 c2 A3 c3 _ (HO.out.n.below HBx.out.below) (HOp.out.node.small (by omega))).mono ?_
          rintro e w6 ⟨v', rfl, ⟨v1, v2, v3, rfl, hM6⟩, hB6⟩
          obtain ⟨A5, c5, A6, c6, A7, c7, rfl, rfl, rfl⟩ := M_slices hM6
          have HBx6 := Aside0.mk (HBx.out.later hB6)
          have HL := Aside0.mk (node_landed (M_lower hM6 HBx.out.below.size) HBx6.out.res)
          obtain ⟨e0, e0f, e1, e1f, e2, e2f, e3, e3f⟩ := slots4 HBx6.out.res (.int .i64 o.node.kind) (.slice A5 o.node.ints.length c5) (.slice A6 o.node.texts.length c6)
          clear hM6 hB6
          go_wp2
          have h4 := res4 HL.out.1
          exact bodyPost_ret (v := .tuple #[.agg #[.int .i64 o.node.kind, .slice A5 o.node.ints.length c5, .slice A6 o.node.texts.length c6, .slice A7 o.node.kids.length c7], .int .i64 0]) (by simp [results, Tryd.results57, go_sem, h4]) rfl
            ⟨_, _, _, by rw [HE.out], by rw [HE.out]; exact HL.out.2, below_set4 HBx6.out.below (by omega)⟩
        · have q3 : decide (0 < o.script.length) = true := decide_eq_true (by omega)
          have HE := Aside0.mk (show oneN a.nodes base o = (nodez, 21) from HF.out.trans (if_neg (fun hh => h3 hh.2.2)))
          clear h1 h2 h3 hk3 hk
          go_enter Tryd.func57, Tryd.ntmps57
          go_wp2
          exact bodyPost_ret (v := .tuple #[.agg #[.int .i64 0, .slice none 0 0, .slice none 0 0, .slice none 0 0], .int .i64 21]) (by simp [results, Tryd.results57, go_sem]) rfl (NodePost.bad HE.out HBx.out.below)
      · have q2 : decide (0 < o.sets.length) = true := decide_eq_true (by omega)
        have HE := Aside0.mk (show oneN a.nodes base o = (nodez, 21) from HF.out.trans (if_neg (fun hh => h2 hh.2.1)))
        clear h1 h2 hk3 hk
        go_enter Tryd.func57, Tryd.ntmps57
        go_wp2
        exact bodyPost_ret (v := .tuple #[.agg #[.int .i64 0, .slice none 0 0, .slice none 0 0, .slice none 0 0], .int .i64 21]) (by simp [results, Tryd.results57, go_sem]) rfl (NodePost.bad HE.out HBx.out.below)
    · have q1 : (o.base != 0) = true := by simpa using h1
      have HE := Aside0.mk (show oneN a.nodes base o = (nodez, 21) from HF.out.trans (if_neg (fun hh => h1 hh.1)))
      clear h1 hk3 hk
      go_enter Tryd.func57, Tryd.ntmps57
      go_wp2
      exact bodyPost_ret (v := .tuple #[.agg #[.int .i64 0, .slice none 0 0, .slice none 0 0, .slice none 0 0], .int .i64 21]) (by simp [results, Tryd.results57, go_sem]) rfl (NodePost.bad HE.out HBx.out.below)
  have g3 : (o.kind == 3) = false := by simpa using hk3
  go_enter Tryd.func57, Tryd.ntmps57
  go_wp2_with fail
  refine (same_any o.node nodez A1 c1 A2 c2 A3 c3 none 0 none 0 none 0 _ (HO.out.n.below HBx.out.below) ⟨Nat.le_refl _, Nat.le_refl _, Nat.le_refl _, C_nil _ _, C_nil _ _, C_nil _ _⟩ (HOp.out.node.small (by omega))).mono ?_
  rw [sameN_empty]
  rintro e w5 ⟨rfl, hB5⟩
  have HBx5 := Aside0.mk (HBx.out.later hB5)
  clear hB5 HBx
  by_cases hem : ¬ emptyN o.node = true
  · have HE := Aside0.mk (show oneN a.nodes base o = (nodez, 21) from by
      unfold oneN
      by_cases hk1 : o.kind = 1
      · rw [if_pos hk1]; exact if_neg (fun hh => hem hh.2.2.1)
      · rw [if_neg hk1, if_pos (by omega)]; exact if_neg (fun hh => hem hh.1))
    rw [Bool.eq_false_iff.2 hem]
    clear hem hk hk3
    have n0 : w5.cell? ⟨w.heap.size + 3, 0, none⟩ = some (.int .i64 0) := blk_at HBx5.out.non 0 rfl
    have n1 : w5.cell? ⟨w.heap.size + 3, 1, none⟩ = some (.slice none 0 0) := blk_at HBx5.out.non 1 rfl
    have n2 : w5.cell? ⟨w.heap.size + 3, 2, none⟩ = some (.slice none 0 0) := blk_at HBx5.out.non 2 rfl
    have n3 : w5.cell? ⟨w.heap.size + 3, 3, none⟩ = some (.slice none 0 0) := blk_at HBx5.out.non 3 rfl
    obtain ⟨e0, e0f, e1, e1f, e2, e2f, e3, e3f⟩ := slots4 HBx5.out.res (.int .i64 0) (.slice none 0 0) (.slice none 0 0)
    go_wp2
    have h4 := res4 (box4 HBx5.out.res (.int .i64 0) (.slice none 0 0) (.slice none 0 0) (.slice none 0 0))
    exact bodyPost_ret (v := .tuple #[.agg #[.int .i64 0, .slice none 0 0, .slice none 0 0, .slice none 0 0], .int .i64 21]) (by simp [results, Tryd.results57, go_sem, h4]) rfl (NodePost.bad HE.out (below_set4 HBx5.out.below (by omega)))
  replace hem := Classical.byContradiction hem
  have HEm := Aside0.mk hem
  rw [hem]
  clear hem
  have o0 : w5.cell? ⟨w.heap.size + 1, 0, none⟩ = some (.int .i64 o.kind) := blk_at HBx5.out.ob 0 rfl
  have o1 : w5.cell? ⟨w.heap.size + 1, 1, none⟩ = some (.int .i64 o.base) := blk_at HBx5.out.ob 1 rfl
  have o2 : w5.cell? ⟨w.heap.size + 1, 2, none⟩ = some (.slice B1 o.sets.length d1) := blk_at HBx5.out.ob 2 rfl
  have o3 : w5.cell? ⟨w.heap.size + 1, 3, none⟩ = some (.slice B2 o.script.length d2) := blk_at HBx5.out.ob 3 rfl
  have s0 : w5.cell? ⟨w.heap.size, 0, none⟩ = some (.slice A a.nodes.length c) := blk_at HBx5.out.sb 0 rfl
  have s1 : w5.cell? ⟨w.heap.size, 1, none⟩ = some (.int .i64 a.root) := blk_at HBx5.out.sb 1 rfl
  by_cases hbk : o.kind = 1 ∧ ¬ (o.sets.length = 0 ∧ o.script.length = 0)
  · have HE := Aside0.mk (show oneN a.nodes base o = (nodez, 21) from by unfold oneN; rw [if_pos hbk.1]; exact if_neg (fun hh => hbk.2 ⟨hh.1, hh.2.1⟩))
    have g4 : (o.kind == 1) = true := by simpa using hbk.1
    by_cases h2 : o.sets.length = 0
    · have q2 : decide (0 < o.sets.length) = false := decide_eq_false (by omega)
      have q3 : decide (0 < o.script.length) = true := decide_eq_true (by omega)
      clear hbk h2 hk hk3
      have n0 : w5.cell? ⟨w.heap.size + 3, 0, none⟩ = some (.int .i64 0) := blk_at HBx5.out.non 0 rfl
      have n1 : w5.cell? ⟨w.heap.size + 3, 1, none⟩ = some (.slice none 0 0) := blk_at HBx5.out.non 1 rfl
      have n2 : w5.cell? ⟨w.heap.size + 3, 2, none⟩ = some (.slice none 0 0) := blk_at HBx5.out.non 2 rfl
      have n3 : w5.cell? ⟨w.heap.size + 3, 3, none⟩ = some (.slice none 0 0) := blk_at HBx5.out.non 3 rfl
      obtain ⟨e0, e0f, e1, e1f, e2, e2f, e3, e3f⟩ := slots4 HBx5.out.res (.int .i64 0) (.slice none 0 0) (.slice none 0 0)
      go_wp2
      have h4 := res4 (box4 HBx5.out.res (.int .i64 0) (.slice none 0 0) (.slice none 0 0) (.slice none 0 0))
      exact bodyPost_ret (v := .tuple #[.agg #[.int .i64 0, .slice none 0 0, .slice none 0 0, .slice none 0 0], .int .i64 21]) (by simp [results, Tryd.results57, go_sem, h4]) rfl (NodePost.bad HE.out (below_set4 HBx5.out.below (by omega)))
    · have q2 : decide (0 < o.sets.length) = true := decide_eq_true (by omega)
      clear hbk h2 hk hk3
      have n0 : w5.cell? ⟨w.heap.size + 3, 0, none⟩ = some (.int .i64 0) := blk_at HBx5.out.non 0 rfl
      have n1 : w5.cell? ⟨w.heap.size + 3, 1, none⟩ = some (.slice none 0 0) := blk_at HBx5.out.non 1 rfl
      have n2 : w5.cell? ⟨w.heap.size + 3, 2, none⟩ = some (.slice none 0 0) := blk_at HBx5.out.non 2 rfl
      have n3 : w5.cell? ⟨w.heap.size + 3, 3, none⟩ = some (.slice none 0 0) := blk_at HBx5.out.non 3 rfl
      obtain ⟨e0, e0f, e1, e1f, e2, e2f, e3, e3f⟩ := slots4 HBx5.out.res (.int .i64 0) (.slice none 0 0) (.slice none 0 0)
      go_wp2
      have h4 := res4 (box4 HBx5.out.res (.int .i64 0) (.slice none 0 0) (.slice none 0 0) (.slice none 0 0))
      exact bodyPost_ret (v := .tuple #[.agg #[.int .i64 0, .slice none 0 0, .slice none 0 0, .slice none 0 0], .int .i64 21]) (by simp [results, Tryd.results57, go_sem, h4]) rfl (NodePost.bad HE.out (below_set4 HBx5.out.below (by omega)))
  by_cases hk1 : o.kind = 1
  · have hz : o.sets.length = 0 ∧ o.script.length = 0 := Classical.byContradiction fun hh => hbk ⟨hk1, hh⟩
    have HBadT := Aside0.mk (fun (hh : ¬ (0 ≤ o.base ∧ o.base < (a.nodes.length : Int) ∧ ¬ o.base ∈ base)) => show oneN a.nodes base o = (nodez, 21) from by unfold oneN; rw [if_pos hk1]; exact if_neg (fun h => hh (of_decide_eq_true h.2.2.2)))
    have HGood := Aside0.mk (fun (i : Nat) (hi : o.base = (i : Int)) (hl : i < a.nodes.length) (hn : ¬ (i : Int) ∈ base) => show oneN a.nodes base o = (imgN base (nd a.nodes i), 0) from by
      unfold oneN; rw [if_pos hk1]
      have hdd : takes a.nodes.length base o.base = true := decide_eq_true (by rw [hi]; exact ⟨by omega, by omega, hn⟩)
      exact (if_pos ⟨hz.1, hz.2, HEm.out, hdd⟩).trans (by rw [hi, Int.toNat_natCast]))
    have g4 : (o.kind == 1) = true := by simpa using hk1
    have q2 : decide (0 < o.sets.length) = false := decide_eq_false (by omega)
    have q3 : decide (0 < o.script.length) = false := decide_eq_false (by omega)
    clear hbk hk1 hz hk hk3
    go_wp2_with fail
    refine (place_any A c a.nodes.length a.root o.base w5).mono ?_
    rintro e w6 ⟨rfl, hB6⟩
    have HBx6 := Aside0.mk (HBx5.out.later hB6)
    clear hB6 o0 o1 o2 o3 s0 s1
    by_cases hpl : ¬ isPl a.nodes.length o.base = true
    · have HE := Aside0.mk (HBadT.out (fun hh => hpl (decide_eq_true ⟨hh.1, hh.2.1⟩)))
      rw [Bool.eq_false_iff.2 hpl]
      clear hpl
      have n0 : w6.cell? ⟨w.heap.size + 3, 0, none⟩ = some (.int .i64 0) := blk_at HBx6.out.non 0 rfl
      have n1 : w6.cell? ⟨w.heap.size + 3, 1, none⟩ = some (.slice none 0 0) := blk_at HBx6.out.non 1 rfl
      have n2 : w6.cell? ⟨w.heap.size + 3, 2, none⟩ = some (.slice none 0 0) := blk_at HBx6.out.non 2 rfl
      have n3 : w6.cell? ⟨w.heap.size + 3, 3, none⟩ = some (.slice none 0 0) := blk_at HBx6.out.non 3 rfl
      obtain ⟨e0, e0f, e1, e1f, e2, e2f, e3, e3f⟩ := slots4 HBx6.out.res (.int .i64 0) (.slice none 0 0) (.slice none 0 0)
      go_wp2
      have h4 := res4 (box4 HBx6.out.res (.int .i64 0) (.slice none 0 0) (.slice none 0 0) (.slice none 0 0))
      exact bodyPost_ret (v := .tuple #[.agg #[.int .i64 0, .slice none 0 0, .slice none 0 0, .slice none 0 0], .int .i64 21]) (by simp [results, Tryd.results57, go_sem, h4]) rfl (NodePost.bad HE.out (below_set4 HBx6.out.below (by omega)))
    replace hpl := Classical.byContradiction hpl
    obtain ⟨hp0, hp1⟩ := of_decide_eq_true hpl
    rw [hpl]
    clear hpl
    have o1 : w6.cell? ⟨w.heap.size + 1, 1, none⟩ = some (.int .i64 o.base) := blk_at HBx6.out.ob 1 rfl
    go_wp2_with fail
    refine (find_C B d base o.base w6 (Kd.C_below HBs.out HBx6.out.below) hd hbl).mono ?_
    rintro e w7' ⟨rfl, ⟨nn, rfl⟩⟩
    have HBx7 := Aside0.mk (HBx6.out.later (pw_below_drewN (Below.refl _ _) nn))
    clear o1
    generalize w6.drewN nn = w7 at HBx7 ⊢
    rw [findI_img]
    by_cases hin : o.base ∈ base
    · have HE := Aside0.mk (HBadT.out (fun hh => hh.2.2 hin))
      have hx := Aside0.mk (show 0 ≤ img base o.base from by unfold img; rw [if_pos hin]; omega)
      have dx : decide (0 ≤ img base o.base) = true := decide_eq_true hx.out
      clear hin
      generalize img base o.base = x at dx ⊢
      have n0 : w7.cell? ⟨w.heap.size + 3, 0, none⟩ = some (.int .i64 0) := blk_at HBx7.out.non 0 rfl
      have n1 : w7.cell? ⟨w.heap.size + 3, 1, none⟩ = some (.slice none 0 0) := blk_at HBx7.out.non 1 rfl
      have n2 : w7.cell? ⟨w.heap.size + 3, 2, none⟩ = some (.slice none 0 0) := blk_at HBx7.out.non 2 rfl
      have n3 : w7.cell? ⟨w.heap.size + 3, 3, none⟩ = some (.slice none 0 0) := blk_at HBx7.out.non 3 rfl
      obtain ⟨e0, e0f, e1, e1f, e2, e2f, e3, e3f⟩ := slots4 HBx7.out.res (.int .i64 0) (.slice none 0 0) (.slice none 0 0)
      go_wp2
      have h4 := res4 (box4 HBx7.out.res (.int .i64 0) (.slice none 0 0) (.slice none 0 0) (.slice none 0 0))
      exact bodyPost_ret (v := .tuple #[.agg #[.int .i64 0, .slice none 0 0, .slice none 0 0, .slice none 0 0], .int .i64 21]) (by simp [results, Tryd.results57, go_sem, h4]) rfl (NodePost.bad HE.out (below_set4 HBx7.out.below (by omega)))
    rw [show img base o.base = -1 from if_neg hin]
    obtain ⟨i, hi⟩ := Int.eq_ofNat_of_zero_le hp0
    have hil : i < a.nodes.length := by omega
    have HE := Aside0.mk (HGood.out i hi hil (by rw [← hi]; exact hin))
    have o1 : w7.cell? ⟨w.heap.size + 1, 1, none⟩ = some (.int .i64 (i : Int)) := by rw [← hi]; exact blk_at HBx7.out.ob 1 rfl
    have s0 : w7.cell? ⟨w.heap.size, 0, none⟩ = some (.slice A a.nodes.length c) := blk_at HBx7.out.sb 0 rfl
    obtain ⟨adn, N1, f1, N2, f2, N3, f3, rfl, x0, x1, x2, x3, hN⟩ := at_node (Kd.C_below HR.out HBx7.out.below) i hil
    have HN := Aside0.mk hN
    have HOkn := Aside0.mk (HOk.out i hil)
    clear hN hin hp0 hp1 hi
    go_wp2_with fail
    refine (rcopy_any (nd a.nodes i) N1 f1 N2 f2 N3 f3 w7 HN.out (HOkn.out.small (by omega))).mono ?_
    rintro e w8 ⟨v', rfl, ⟨v1, v2, v3, rfl, hM8⟩, hB8⟩
    have HOk2 := Aside0.mk (And.intro HOkn.out.1 HOkn.out.2.1)
    have HKd := Aside0.mk (show ((nd a.nodes i).kids.map (img base)).length ≤ 4000 from by rw [List.length_map]; exact HOkn.out.2.2.1)
    clear x0 x1 x2 x3 HN o1 s0
    have HMm := Aside0.mk (show imgN base (nd a.nodes i) = ⟨(nd a.nodes i).kind, (nd a.nodes i).ints, (nd a.nodes i).texts, (nd a.nodes i).kids.map (img base)⟩ from rfl)
    rw [HMm.out] at HE
    clear HMm
    generalize nd a.nodes i = m0 at HE hM8 HOk2 HKd HOkn ⊢
    obtain ⟨A5, c5, A6, c6, A7, c7, rfl, rfl, rfl⟩ := M_slices hM8
    have HBx8 := Aside0.mk (HBx7.out.later hB8)
    have HO8 := Aside0.mk (OutRel.start (w := w) (rb := w.heap.size + 2) (below_step HBx7.out.below hB8) (by omega) HBx8.out.res HBx7.out.below.size hM8)
    have HBx9 := Aside0.mk (HBx8.out.later (below_alloc (Below.refl _ _) (.cells #[.int .i64 m0.kind, .slice A5 m0.ints.length c5, .slice A6 m0.texts.length c6, .slice A7 m0.kids.length c7] 26)))
    have HG := Aside0.mk (show w.heap.size + 3 < w8.heap.size from blk_lt HBx8.out.non)
    clear hM8 hB8 HBx8 HBx7
    go_wp2_with fail
    generalize w8.alloc (.cells #[.int .i64 m0.kind, .slice A5 m0.ints.length c5, .slice A6 m0.texts.length c6, .slice A7 m0.kids.length c7] 26) = w9 at HO8 HBx9 ⊢
    generalize w8.heap.size = g at HO8 HG ⊢
    have hnc := M_nodeC HO8.out.m
    refine (images_any A7 c7 m0.kids B d base w9 hnc.k (Kd.C_below HBs.out HBx9.out.below) hd hbl (Nat.le_trans HOkn.out.2.2.1 (by omega))).mono ?_
    rintro e w10 ⟨A8, c8, rfl, hR10, hB10⟩
    rw [List.length_map] at hR10 ⊢
    have HBx10 := Aside0.mk (HBx9.out.later hB10)
    have HO10 := Aside0.mk (HO8.out.later hB10)
    have HR10 := Aside0.mk (Kd.R_lower hR10 HBx9.out.below.size)
    clear hnc hR10 hB10 HBx9 HO8
    have k3 : w10.cell? ⟨g, 3, none⟩ = some (.slice A7 m0.kids.length c7) := blk_at HO10.out.box 3 rfl
    have k3f := blk_frozen HO10.out.box 3
    have HO11 := Aside0.mk (HO10.out.row3 HR10.out)
    have HBx11 := Aside0.mk (HBx10.out.far (i := 3) HG.out (.slice A8 m0.kids.length c8))
    have hgw : g < w10.heap.size := blk_lt HO10.out.box
    have u0 : (w10.setCell ⟨g, 3, none⟩ (.slice A8 m0.kids.length c8)).cell? ⟨w.heap.size + 1, 0, none⟩ = some (.int .i64 o.kind) := blk_at HBx11.out.ob 0 rfl
    have u2 : (w10.setCell ⟨g, 3, none⟩ (.slice A8 m0.kids.length c8)).cell? ⟨w.heap.size + 1, 2, none⟩ = some (.slice B1 o.sets.length d1) := blk_at HBx11.out.ob 2 rfl
    have b0 : (w10.setCell ⟨g, 3, none⟩ (.slice A8 m0.kids.length c8)).cell? ⟨g, 0, none⟩ = some (.int .i64 m0.kind) := blk_at HO11.out.box 0 rfl
    have b1 : (w10.setCell ⟨g, 3, none⟩ (.slice A8 m0.kids.length c8)).cell? ⟨g, 1, none⟩ = some (.slice A5 m0.ints.length c5) := blk_at HO11.out.box 1 rfl
    have b2 : (w10.setCell ⟨g, 3, none⟩ (.slice A8 m0.kids.length c8)).cell? ⟨g, 2, none⟩ = some (.slice A6 m0.texts.length c6) := blk_at HO11.out.box 2 rfl
    have b3 : (w10.setCell ⟨g, 3, none⟩ (.slice A8 m0.kids.length c8)).cell? ⟨g, 3, none⟩ = some (.slice A8 m0.kids.length c8) := blk_at HO11.out.box 3 rfl
    obtain ⟨e0, e0f, e1, e1f, e2, e2f, e3, e3f⟩ := slots4 HBx11.out.res (.int .i64 m0.kind) (.slice A5 m0.ints.length c5) (.slice A6 m0.texts.length c6)
    have HD := Aside0.mk HO11.out.done
    go_wp2
    have h4 := res4 HD.out.1
    exact bodyPost_ret (v := .tuple #[.agg #[.int .i64 m0.kind, .slice A5 m0.ints.length c5, .slice A6 m0.texts.length c6, .slice A8 m0.kids.length c8], .int .i64 0]) (by simp [results, Tryd.results57, go_sem, h4]) rfl
      ⟨_, _, _, by rw [HE.out], by rw [HE.out]; exact HD.out.2.1, HD.out.2.2⟩
  · have g4 : (o.kind == 1) = false := by simpa using hk1
    have hk2 : o.kind = 2 := by omega
    have HBadT := Aside0.mk (fun (hh : ¬ (0 ≤ o.base ∧ o.base < (a.nodes.length : Int) ∧ ¬ o.base ∈ base)) => show oneN a.nodes base o = (nodez, 21) from by unfold oneN; rw [if_neg hk1, if_pos hk2]; exact if_neg (fun h => hh (of_decide_eq_true h.2)))
    have HGood := Aside0.mk (fun (i : Nat) (hi : o.base = (i : Int)) (hl : i < a.nodes.length) (hn : ¬ (i : Int) ∈ base) => show oneN a.nodes base o = editN (imgN base (nd a.nodes i)) o from by
      unfold oneN; rw [if_neg hk1, if_pos hk2]
      have hdd : takes a.nodes.length base o.base = true := decide_eq_true (by rw [hi]; exact ⟨by omega, by omega, hn⟩)
      exact (if_pos ⟨HEm.out, hdd⟩).trans (by rw [hi, Int.toNat_natCast]))
    clear hbk hk1 hk hk3 hk2
    go_wp2_with fail
    refine (place_any A c a.nodes.length a.root o.base w5).mono ?_
    rintro e w6 ⟨rfl, hB6⟩
    have HBx6 := Aside0.mk (HBx5.out.later hB6)
    clear hB6 o0 o1 o2 o3 s0 s1
    by_cases hpl : ¬ isPl a.nodes.length o.base = true
    · have HE := Aside0.mk (HBadT.out (fun hh => hpl (decide_eq_true ⟨hh.1, hh.2.1⟩)))
      rw [Bool.eq_false_iff.2 hpl]
      clear hpl
      have n0 : w6.cell? ⟨w.heap.size + 3, 0, none⟩ = some (.int .i64 0) := blk_at HBx6.out.non 0 rfl
      have n1 : w6.cell? ⟨w.heap.size + 3, 1, none⟩ = some (.slice none 0 0) := blk_at HBx6.out.non 1 rfl
      have n2 : w6.cell? ⟨w.heap.size + 3, 2, none⟩ = some (.slice none 0 0) := blk_at HBx6.out.non 2 rfl
      have n3 : w6.cell? ⟨w.heap.size + 3, 3, none⟩ = some (.slice none 0 0) := blk_at HBx6.out.non 3 rfl
      obtain ⟨e0, e0f, e1, e1f, e2, e2f, e3, e3f⟩ := slots4 HBx6.out.res (.int .i64 0) (.slice none 0 0) (.slice none 0 0)
      go_wp2
      have h4 := res4 (box4 HBx6.out.res (.int .i64 0) (.slice none 0 0) (.slice none 0 0) (.slice none 0 0))
      exact bodyPost_ret (v := .tuple #[.agg #[.int .i64 0, .slice none 0 0, .slice none 0 0, .slice none 0 0], .int .i64 21]) (by simp [results, Tryd.results57, go_sem, h4]) rfl (NodePost.bad HE.out (below_set4 HBx6.out.below (by omega)))
    replace hpl := Classical.byContradiction hpl
    obtain ⟨hp0, hp1⟩ := of_decide_eq_true hpl
    rw [hpl]
    clear hpl
    have o1 : w6.cell? ⟨w.heap.size + 1, 1, none⟩ = some (.int .i64 o.base) := blk_at HBx6.out.ob 1 rfl
    go_wp2_with fail
    refine (find_C B d base o.base w6 (Kd.C_below HBs.out HBx6.out.below) hd hbl).mono ?_
    rintro e w7' ⟨rfl, ⟨nn, rfl⟩⟩
    have HBx7 := Aside0.mk (HBx6.out.later (pw_below_drewN (Below.refl _ _) nn))
    clear o1
    generalize w6.drewN nn = w7 at HBx7 ⊢
    rw [findI_img]
    by_cases hin : o.base ∈ base
    · have HE := Aside0.mk (HBadT.out (fun hh => hh.2.2 hin))
      have hx := Aside0.mk (show 0 ≤ img base o.base from by unfold img; rw [if_pos hin]; omega)
      have dx : decide (0 ≤ img base o.base) = true := decide_eq_true hx.out
      clear hin
      generalize img base o.base = x at dx ⊢
      have n0 : w7.cell? ⟨w.heap.size + 3, 0, none⟩ = some (.int .i64 0) := blk_at HBx7.out.non 0 rfl
      have n1 : w7.cell? ⟨w.heap.size + 3, 1, none⟩ = some (.slice none 0 0) := blk_at HBx7.out.non 1 rfl
      have n2 : w7.cell? ⟨w.heap.size + 3, 2, none⟩ = some (.slice none 0 0) := blk_at HBx7.out.non 2 rfl
      have n3 : w7.cell? ⟨w.heap.size + 3, 3, none⟩ = some (.slice none 0 0) := blk_at HBx7.out.non 3 rfl
      obtain ⟨e0, e0f, e1, e1f, e2, e2f, e3, e3f⟩ := slots4 HBx7.out.res (.int .i64 0) (.slice none 0 0) (.slice none 0 0)
      go_wp2
      have h4 := res4 (box4 HBx7.out.res (.int .i64 0) (.slice none 0 0) (.slice none 0 0) (.slice none 0 0))
      exact bodyPost_ret (v := .tuple #[.agg #[.int .i64 0, .slice none 0 0, .slice none 0 0, .slice none 0 0], .int .i64 21]) (by simp [results, Tryd.results57, go_sem, h4]) rfl (NodePost.bad HE.out (below_set4 HBx7.out.below (by omega)))
    rw [show img base o.base = -1 from if_neg hin]
    obtain ⟨i, hi⟩ := Int.eq_ofNat_of_zero_le hp0
    have hil : i < a.nodes.length := by omega
    have HE := Aside0.mk (HGood.out i hi hil (by rw [← hi]; exact hin))
    have o1 : w7.cell? ⟨w.heap.size + 1, 1, none⟩ = some (.int .i64 (i : Int)) := by rw [← hi]; exact blk_at HBx7.out.ob 1 rfl
    have s0 : w7.cell? ⟨w.heap.size, 0, none⟩ = some (.slice A a.nodes.length c) := blk_at HBx7.out.sb 0 rfl
    obtain ⟨adn, N1, f1, N2, f2, N3, f3, rfl, x0, x1, x2, x3, hN⟩ := at_node (Kd.C_below HR.out HBx7.out.below) i hil
    have HN := Aside0.mk hN
    have HOkn := Aside0.mk (HOk.out i hil)
    clear hN hin hp0 hp1 hi
    go_wp2_with fail
    refine (rcopy_any (nd a.nodes i) N1 f1 N2 f2 N3 f3 w7 HN.out (HOkn.out.small (by omega))).mono ?_
    rintro e w8 ⟨v', rfl, ⟨v1, v2, v3, rfl, hM8⟩, hB8⟩
    have HOk2 := Aside0.mk (And.intro HOkn.out.1 HOkn.out.2.1)
    have HKd := Aside0.mk (show ((nd a.nodes i).kids.map (img base)).length ≤ 4000 from by rw [List.length_map]; exact HOkn.out.2.2.1)
    clear x0 x1 x2 x3 HN o1 s0
    have HMm := Aside0.mk (show imgN base (nd a.nodes i) = ⟨(nd a.nodes i).kind, (nd a.nodes i).ints, (nd a.nodes i).texts, (nd a.nodes i).kids.map (img base)⟩ from rfl)
    rw [HMm.out] at HE
    clear HMm
    generalize nd a.nodes i = m0 at HE hM8 HOk2 HKd HOkn ⊢
    obtain ⟨A5, c5, A6, c6, A7, c7, rfl, rfl, rfl⟩ := M_slices hM8
    have HBx8 := Aside0.mk (HBx7.out.later hB8)
    have HO8 := Aside0.mk (OutRel.start (w := w) (rb := w.heap.size + 2) (below_step HBx7.out.below hB8) (by omega) HBx8.out.res HBx7.out.below.size hM8)
    have HBx9 := Aside0.mk (HBx8.out.later (below_alloc (Below.refl _ _) (.cells #[.int .i64 m0.kind, .slice A5 m0.ints.length c5, .slice A6 m0.texts.length c6, .slice A7 m0.kids.length c7] 26)))
    have HG := Aside0.mk (show w.heap.size + 3 < w8.heap.size from blk_lt HBx8.out.non)
    clear hM8 hB8 HBx8 HBx7
    go_wp2_with fail
    generalize w8.alloc (.cells #[.int .i64 m0.kind, .slice A5 m0.ints.length c5, .slice A6 m0.texts.length c6, .slice A7 m0.kids.length c7] 26) = w9 at HO8 HBx9 ⊢
    generalize w8.heap.size = g at HO8 HG ⊢
    have hnc := M_nodeC HO8.out.m
    refine (images_any A7 c7 m0.kids B d base w9 hnc.k (Kd.C_below HBs.out HBx9.out.below) hd hbl (Nat.le_trans HOkn.out.2.2.1 (by omega))).mono ?_
    rintro e w10 ⟨A8, c8, rfl, hR10, hB10⟩
    rw [List.length_map] at hR10 ⊢
    have HBx10 := Aside0.mk (HBx9.out.later hB10)
    have HO10 := Aside0.mk (HO8.out.later hB10)
    have HR10 := Aside0.mk (Kd.R_lower hR10 HBx9.out.below.size)
    clear hnc hR10 hB10 HBx9 HO8
    have k3 : w10.cell? ⟨g, 3, none⟩ = some (.slice A7 m0.kids.length c7) := blk_at HO10.out.box 3 rfl
    have k3f := blk_frozen HO10.out.box 3
    have HO11 := Aside0.mk (HO10.out.row3 HR10.out)
    have HBx11 := Aside0.mk (HBx10.out.far (i := 3) HG.out (.slice A8 m0.kids.length c8))
    have hgw : g < w10.heap.size := blk_lt HO10.out.box
    have u0 : (w10.setCell ⟨g, 3, none⟩ (.slice A8 m0.kids.length c8)).cell? ⟨w.heap.size + 1, 0, none⟩ = some (.int .i64 o.kind) := blk_at HBx11.out.ob 0 rfl
    have u2 : (w10.setCell ⟨g, 3, none⟩ (.slice A8 m0.kids.length c8)).cell? ⟨w.heap.size + 1, 2, none⟩ = some (.slice B1 o.sets.length d1) := blk_at HBx11.out.ob 2 rfl
    have b0 : (w10.setCell ⟨g, 3, none⟩ (.slice A8 m0.kids.length c8)).cell? ⟨g, 0, none⟩ = some (.int .i64 m0.kind) := blk_at HO11.out.box 0 rfl
    have b1 : (w10.setCell ⟨g, 3, none⟩ (.slice A8 m0.kids.length c8)).cell? ⟨g, 1, none⟩ = some (.slice A5 m0.ints.length c5) := blk_at HO11.out.box 1 rfl
    have b2 : (w10.setCell ⟨g, 3, none⟩ (.slice A8 m0.kids.length c8)).cell? ⟨g, 2, none⟩ = some (.slice A6 m0.texts.length c6) := blk_at HO11.out.box 2 rfl
    have b3 : (w10.setCell ⟨g, 3, none⟩ (.slice A8 m0.kids.length c8)).cell? ⟨g, 3, none⟩ = some (.slice A8 m0.kids.length c8) := blk_at HO11.out.box 3 rfl
    go_wp2_with fail
    clear k3 k3f u0 u2 b0 b1 b2 b3 hgw
    obtain ⟨mm, hmm⟩ : ∃ mm : Node, mm = ⟨m0.kind, m0.ints, m0.texts, m0.kids.map (img base)⟩ := ⟨_, rfl⟩
    have HMM := Aside0.mk hmm
    have HMl := Aside0.mk (show m0.kids.length = mm.kids.length ∧ m0.ints = mm.ints ∧ m0.texts = mm.texts ∧ m0.kind = mm.kind from by rw [hmm]; exact ⟨by simp, rfl, rfl, rfl⟩)
    rw [← hmm] at HE HO11
    rw [HMl.out.1] at HO11 HBx11 ⊢
    rw [HMl.out.2.1, HMl.out.2.2.1] at HO11 ⊢
    rw [HMl.out.2.2.2]
    rw [HMl.out.2.1, HMl.out.2.2.1] at HOk2
    have HKd2 := Aside0.mk (show mm.kids.length ≤ 4000 from by rw [← HMl.out.1]; have := HKd.out; rwa [List.length_map] at this)
    clear hmm HMM HMl HKd HOkn HO10 HBx10 HR10
    generalize w10.setCell ⟨g, 3, none⟩ (.slice A8 mm.kids.length c8) = w11 at HO11 HBx11 ⊢
    refine (rset_any mm A5 c5 A6 c6 A8 c8 B1 d1 o.sets w11 (M_nodeC HO11.out.m) ⟨HOk2.out.1, HOk2.out.2, Nat.le_trans HKd2.out (by omega)⟩ (Kd.C_below HO.out.s HBx11.out.below) HOp.out.sets).mono ?_
    cases hsa : setAll mm o.sets with
    | none =>
      have HE2 := Aside0.mk (show oneN a.nodes base o = (nodez, 21) from by rw [HE.out]; unfold editN; rw [hsa])
      rw [setR_no hsa]
      generalize nodez = z
      rintro e w12 ⟨y1, y2, y3, rfl, hM12, hB12⟩
      dsimp only at hM12 ⊢
      obtain ⟨A9, c9, A10, c10, A11, c11, rfl, rfl, rfl⟩ := M_slices hM12
      have hO12 := HO11.out.later hB12
      have HBx12 := Aside0.mk (HBx11.out.later hB12)
      have HBx13 := Aside0.mk (HBx12.out.far4 (i0 := 0) (i1 := 1) (i2 := 2) (i3 := 3) HG.out (.int .i64 z.kind) (.slice A9 z.ints.length c9) (.slice A10 z.texts.length c10) (.slice A11 z.kids.length c11))
      obtain ⟨t0, t0f, t1, t1f, t2, t2f, t3, t3f⟩ := slots4 hO12.box (.int .i64 z.kind) (.slice A9 z.ints.length c9) (.slice A10 z.texts.length c10)
      have hgn : w.heap.size + 3 ≠ g := by have := HG.out; omega
      have hgr : w.heap.size + 2 ≠ g := by have := HG.out; omega
      have m0n : w12.cell? ⟨w.heap.size + 3, 0, none⟩ = some (.int .i64 0) := blk_at HBx12.out.non 0 rfl
      have m1n : w12.cell? ⟨w.heap.size + 3, 1, none⟩ = some (.slice none 0 0) := blk_at HBx12.out.non 1 rfl
      have m2n : w12.cell? ⟨w.heap.size + 3, 2, none⟩ = some (.slice none 0 0) := blk_at HBx12.out.non 2 rfl
      have m3n : w12.cell? ⟨w.heap.size + 3, 3, none⟩ = some (.slice none 0 0) := blk_at HBx12.out.non 3 rfl
      clear hsa hO12 hM12 hB12
      have n0 : ((((w12.setCell ⟨g, 0, none⟩ (.int .i64 z.kind)).setCell ⟨g, 1, none⟩ (.slice A9 z.ints.length c9)).setCell ⟨g, 2, none⟩ (.slice A10 z.texts.length c10)).setCell ⟨g, 3, none⟩ (.slice A11 z.kids.length c11)).cell? ⟨w.heap.size + 3, 0, none⟩ = some (.int .i64 0) := blk_at HBx13.out.non 0 rfl
      have n1 : ((((w12.setCell ⟨g, 0, none⟩ (.int .i64 z.kind)).setCell ⟨g, 1, none⟩ (.slice A9 z.ints.length c9)).setCell ⟨g, 2, none⟩ (.slice A10 z.texts.length c10)).setCell ⟨g, 3, none⟩ (.slice A11 z.kids.length c11)).cell? ⟨w.heap.size + 3, 1, none⟩ = some (.slice none 0 0) := blk_at HBx13.out.non 1 rfl
      have n2 : ((((w12.setCell ⟨g, 0, none⟩ (.int .i64 z.kind)).setCell ⟨g, 1, none⟩ (.slice A9 z.ints.length c9)).setCell ⟨g, 2, none⟩ (.slice A10 z.texts.length c10)).setCell ⟨g, 3, none⟩ (.slice A11 z.kids.length c11)).cell? ⟨w.heap.size + 3, 2, none⟩ = some (.slice none 0 0) := blk_at HBx13.out.non 2 rfl
      have n3 : ((((w12.setCell ⟨g, 0, none⟩ (.int .i64 z.kind)).setCell ⟨g, 1, none⟩ (.slice A9 z.ints.length c9)).setCell ⟨g, 2, none⟩ (.slice A10 z.texts.length c10)).setCell ⟨g, 3, none⟩ (.slice A11 z.kids.length c11)).cell? ⟨w.heap.size + 3, 3, none⟩ = some (.slice none 0 0) := blk_at HBx13.out.non 3 rfl
      obtain ⟨e0, e0f, e1, e1f, e2, e2f, e3, e3f⟩ := slots4 HBx13.out.res (.int .i64 0) (.slice none 0 0) (.slice none 0 0)
      go_wp2
      have h4 := res4 (box4 HBx13.out.res (.int .i64 0) (.slice none 0 0) (.slice none 0 0) (.slice none 0 0))
      exact bodyPost_ret (v := .tuple #[.agg #[.int .i64 0, .slice none 0 0, .slice none 0 0, .slice none 0 0], .int .i64 21]) (by simp [results, Tryd.results57, go_sem, h4]) rfl (NodePost.bad HE2.out (below_set4 HBx13.out.below (by omega)))
    | some m2 =>
      obtain ⟨hk2, -, -, -⟩ := setAll_kids hsa
      have HKl2 := Aside0.mk (show m2.kids.length ≤ 400000 from by rw [hk2]; exact Nat.le_trans HKd2.out (by omega))
      have HE2 := Aside0.mk (show oneN a.nodes base o = if (app m2.kids o.script).2 = true then (⟨m2.kind, m2.ints, m2.texts, (app m2.kids o.script).1⟩, 0) else (nodez, 21) from by rw [HE.out]; unfold editN; rw [hsa])
      rw [setR_some hsa]
      rintro e w12 ⟨y1, y2, y3, rfl, hM12, hB12⟩
      dsimp only at hM12 ⊢
      obtain ⟨A9, c9, A10, c10, A11, c11, rfl, rfl, rfl⟩ := M_slices hM12
      have hO12 := HO11.out.later hB12
      have HBx12 := Aside0.mk (HBx11.out.later hB12)
      have HBx13 := Aside0.mk (HBx12.out.far4 (i0 := 0) (i1 := 1) (i2 := 2) (i3 := 3) HG.out (.int .i64 m2.kind) (.slice A9 m2.ints.length c9) (.slice A10 m2.texts.length c10) (.slice A11 m2.kids.length c11))
      have HO13 := Aside0.mk (hO12.put (M_lower hM12 HO11.out.below.size))
      obtain ⟨t0, t0f, t1, t1f, t2, t2f, t3, t3f⟩ := slots4 hO12.box (.int .i64 m2.kind) (.slice A9 m2.ints.length c9) (.slice A10 m2.texts.length c10)
      have hgn : w.heap.size + 1 ≠ g := by have := HG.out; omega
      have k4n : w12.cell? ⟨w.heap.size + 1, 3, none⟩ = some (.slice B2 o.script.length d2) := blk_at HBx12.out.ob 3 rfl
      have k4 : ((((w12.setCell ⟨g, 0, none⟩ (.int .i64 m2.kind)).setCell ⟨g, 1, none⟩ (.slice A9 m2.ints.length c9)).setCell ⟨g, 2, none⟩ (.slice A10 m2.texts.length c10)).setCell ⟨g, 3, none⟩ (.slice A11 m2.kids.length c11)).cell? ⟨w.heap.size + 1, 3, none⟩ = some (.slice B2 o.script.length d2) := blk_at HBx13.out.ob 3 rfl
      have k5 : ((((w12.setCell ⟨g, 0, none⟩ (.int .i64 m2.kind)).setCell ⟨g, 1, none⟩ (.slice A9 m2.ints.length c9)).setCell ⟨g, 2, none⟩ (.slice A10 m2.texts.length c10)).setCell ⟨g, 3, none⟩ (.slice A11 m2.kids.length c11)).cell? ⟨g, 3, none⟩ = some (.slice A11 m2.kids.length c11) := blk_at HO13.out.box 3 rfl
      clear hsa hk2 hO12 hM12 hB12
      go_wp2_with fail
      clear t0 t0f t1 t1f t2 t2f t3 t3f k4 k4n k5 hgn
      generalize ((((w12.setCell ⟨g, 0, none⟩ (.int .i64 m2.kind)).setCell ⟨g, 1, none⟩ (.slice A9 m2.ints.length c9)).setCell ⟨g, 2, none⟩ (.slice A10 m2.texts.length c10)).setCell ⟨g, 3, none⟩ (.slice A11 m2.kids.length c11)) = w13 at HBx13 HO13 ⊢
      have hN13 := M_nodeC HO13.out.m
      refine (rapply_any A11 c11 m2.kids B2 d2 o.script w13 hN13.k hN13.l3 (Kd.C_below HO.out.e HBx13.out.below) HKl2.out (Nat.le_trans HOp.out.script (by omega))).mono ?_
      rintro e w14 ⟨y, rfl, hR14, hB14⟩
      have HO14 := Aside0.mk (HO13.out.later hB14)
      have HBx14 := Aside0.mk (HBx13.out.later hB14)
      have hK14 := Kd.R_lower hR14 HO13.out.below.size
      generalize app m2.kids o.script = q at HE2 hK14 ⊢
      obtain ⟨ql, qb⟩ := q
      obtain ⟨A12, c12, hy⟩ := Kd.R_slice hK14
      subst hy
      clear hN13 hR14 hB14
      cases qb with
      | true =>
        have HE3 := Aside0.mk (HE2.out.trans (if_pos rfl))
        have HO15 := Aside0.mk (HO14.out.row3 hK14)
        have HBx15 := Aside0.mk (HBx14.out.far (i := 3) HG.out (.slice A12 ql.length c12))
        have f3 : w14.cell? ⟨g, 3, none⟩ = some (.slice A11 m2.kids.length c11) := blk_at HO14.out.box 3 rfl
        have f3f := blk_frozen HO14.out.box 3
        have b0 : (w14.setCell ⟨g, 3, none⟩ (.slice A12 ql.length c12)).cell? ⟨g, 0, none⟩ = some (.int .i64 m2.kind) := blk_at HO15.out.box 0 rfl
        have b1 : (w14.setCell ⟨g, 3, none⟩ (.slice A12 ql.length c12)).cell? ⟨g, 1, none⟩ = some (.slice A9 m2.ints.length c9) := blk_at HO15.out.box 1 rfl
        have b2 : (w14.setCell ⟨g, 3, none⟩ (.slice A12 ql.length c12)).cell? ⟨g, 2, none⟩ = some (.slice A10 m2.texts.length c10) := blk_at HO15.out.box 2 rfl
        have b3 : (w14.setCell ⟨g, 3, none⟩ (.slice A12 ql.length c12)).cell? ⟨g, 3, none⟩ = some (.slice A12 ql.length c12) := blk_at HO15.out.box 3 rfl
        obtain ⟨e0, e0f, e1, e1f, e2, e2f, e3, e3f⟩ := slots4 HBx15.out.res (.int .i64 m2.kind) (.slice A9 m2.ints.length c9) (.slice A10 m2.texts.length c10)
        have HD := Aside0.mk HO15.out.done
        clear hK14
        go_wp2
        have h4 := res4 HD.out.1
        exact bodyPost_ret (v := .tuple #[.agg #[.int .i64 m2.kind, .slice A9 m2.ints.length c9, .slice A10 m2.texts.length c10, .slice A12 ql.length c12], .int .i64 0]) (by simp [results, Tryd.results57, go_sem, h4]) rfl
          ⟨_, _, _, by rw [HE3.out], by rw [HE3.out]; exact HD.out.2.1, HD.out.2.2⟩
      | false =>
        have HE3 := Aside0.mk (HE2.out.trans (if_neg Bool.false_ne_true))
        clear hK14
        have n0 : w14.cell? ⟨w.heap.size + 3, 0, none⟩ = some (.int .i64 0) := blk_at HBx14.out.non 0 rfl
        have n1 : w14.cell? ⟨w.heap.size + 3, 1, none⟩ = some (.slice none 0 0) := blk_at HBx14.out.non 1 rfl
        have n2 : w14.cell? ⟨w.heap.size + 3, 2, none⟩ = some (.slice none 0 0) := blk_at HBx14.out.non 2 rfl
        have n3 : w14.cell? ⟨w.heap.size + 3, 3, none⟩ = some (.slice none 0 0) := blk_at HBx14.out.non 3 rfl
        obtain ⟨e0, e0f, e1, e1f, e2, e2f, e3, e3f⟩ := slots4 HBx14.out.res (.int .i64 0) (.slice none 0 0) (.slice none 0 0)
        go_wp2
        have h4 := res4 (box4 HBx14.out.res (.int .i64 0) (.slice none 0 0) (.slice none 0 0) (.slice none 0 0))
        exact bodyPost_ret (v := .tuple #[.agg #[.int .i64 0, .slice none 0 0, .slice none 0 0, .slice none 0 0], .int .i64 21]) (by simp [results, Tryd.results57, go_sem, h4]) rfl (NodePost.bad HE3.out (below_set4 HBx14.out.below (by omega)))
end Go.Proofs.YtglfebpgdghlfaaDoor.L
end
section
namespace Go.Proofs.YtglfebpgdghlfaaDoor.L
open Go.RowKit Go.ChangeShapes Go.WideShapes Go.Proofs.YtglfebpgdghlfaaDoorW.PrintWords Go.Proofs.YtglfebpgdghlfaaDoorW.PrintLast Go.Proofs.YtglfebpgdghlfaaDoorW.PrintMore
attribute [local go_sem] max2_int min2_int max_two min_two max_three min_three max_four min_four
open Go.Proofs.YtglfebpgdghlfaaDoor.PUpgradeUps
structure LedInv (ns : List Node) (K : List Int) (met : List Bool) (vs work : List Int) : Prop where
  len : met.length = ns.length
  tell : ∀ i : Nat, i < ns.length → rdOf false met (i : Int) = decide ((i : Int) ∈ vs)
  vpl : ∀ x ∈ vs, 0 ≤ x ∧ x < (ns.length : Int)
  wpl : ∀ x ∈ work, 0 ≤ x ∧ x < (ns.length : Int)
  vin : ∀ x ∈ vs, Rch ns K x
  win : ∀ x ∈ work, Rch ns K x
  k0 : ∀ k ∈ K, k ∈ vs ∨ k ∈ work
  clo : ∀ x ∈ vs, ∀ k ∈ kids ns x, k ∈ vs ∨ k ∈ work
theorem LedInv.done {ns : List Node} {K : List Int} {met : List Bool} {vs : List Int} (h : LedInv ns K met vs []) (x : Int) : Rch ns K x ↔ x ∈ vs := by
  refine ⟨fun hr => ?_, h.vin x⟩
  induction hr with
  | base hk => exact (h.k0 _ hk).resolve_right (by simp)
  | step _ hk ih => exact (h.clo _ ih _ hk).resolve_right (by simp)
theorem LedInv.skip {ns : List Node} {K : List Int} {met : List Bool} {vs work : List Int} {x : Int} (h : LedInv ns K met vs (x :: work)) (hx : x ∈ vs) : LedInv ns K met vs work :=
  ⟨h.len, h.tell, h.vpl, fun y hy => h.wpl y (by simp [hy]), h.vin, fun y hy => h.win y (by simp [hy]),
    fun k hk => (h.k0 k hk).elim .inl (fun hm => by
      rcases List.mem_cons.1 hm with rfl | hm
      · exact .inl hx
      · exact .inr hm),
    fun y hy k hk => (h.clo y hy k hk).elim .inl (fun hm => by
      rcases List.mem_cons.1 hm with rfl | hm
      · exact .inl hx
      · exact .inr hm)⟩
theorem LedInv.meet {ns : List Node} {K : List Int} {met : List Bool} {vs work : List Int} {x : Int} (hP : Places ns) (h : LedInv ns K met vs (x :: work)) (hx : ¬ x ∈ vs) : LedInv ns K (met.set x.toNat true) (x :: vs) (work ++ kids ns x) := by
  have hxp := h.wpl x (by simp)
  obtain ⟨q, rfl⟩ : ∃ q : Nat, x = (q : Int) := ⟨x.toNat, by omega⟩
  have hkp : ∀ k ∈ kids ns q, 0 ≤ k ∧ k < (ns.length : Int) := fun k hk => hP q (by omega) k hk
  refine ⟨by rw [List.length_set]; exact h.len, fun i hi => ?_, fun y hy => ?_, fun y hy => ?_, fun y hy => ?_, fun y hy => ?_, fun k hk => ?_, fun y hy k hk => ?_⟩
  · have ht := h.tell i hi
    unfold rdOf at ht ⊢
    rw [Int.toNat_natCast] at ht ⊢
    rw [Int.toNat_natCast, List.getD_eq_getElem?_getD, List.getElem?_set]
    rw [List.getD_eq_getElem?_getD] at ht
    by_cases e : q = i
    · subst e
      rw [if_pos rfl, if_pos (by rw [h.len]; exact hi)]
      simp
    · rw [if_neg e, ht]
      have : ((i : Int) ∈ (q : Int) :: vs) ↔ (i : Int) ∈ vs := by
        rw [List.mem_cons]
        exact ⟨fun h => h.resolve_left (fun e' => e (by omega)), .inr⟩
      exact decide_eq_decide.2 this.symm
  · rcases List.mem_cons.1 hy with rfl | hy
    · exact hxp
    · exact h.vpl y hy
  · rcases List.mem_append.1 hy with hy | hy
    · exact h.wpl y (by simp [hy])
    · exact hkp y hy
  · rcases List.mem_cons.1 hy with rfl | hy
    · exact h.win _ (by simp)
    · exact h.vin y hy
  · rcases List.mem_append.1 hy with hy | hy
    · exact h.win y (by simp [hy])
    · exact .step (h.win _ (List.mem_cons_self)) hy
  · rcases h.k0 k hk with hm | hm
    · exact .inl (by simp [hm])
    · rcases List.mem_cons.1 hm with rfl | hm
      · exact .inl (by simp)
      · exact .inr (by simp [hm])
  · rcases List.mem_cons.1 hy with rfl | hy
    · exact .inr (by simp [hk])
    · rcases h.clo y hy k hk with hm | hm
      · exact .inl (by simp [hm])
      · rcases List.mem_cons.1 hm with rfl | hm
        · exact .inl (by simp)
        · exact .inr (by simp [hm])
def Tells (ns : List Node) (K : List Int) (r : List Bool) : Prop := r.length = ns.length ∧ ∀ i : Nat, i < ns.length → (rdOf false r (i : Int) = true ↔ Rch ns K (i : Int))
theorem led_l0 {ns : List Node} (hP : Places ns) (K : List Int) (root : Int) (hM : rows ns ≤ 1000000) : ∀ (m : Nat) (met : List Bool) (vs work : List Int), LedInv ns K met vs work → left ns vs + work.length < m → work.length ≤ 3000000 →
    (work.length + left ns vs ≤ 3000000) → ∃ r, dioramaref09_Led.l0 m met work (ns.map toS) root = some r ∧ Tells ns K r
  | 0, _, _, _, _, h, _, _ => by omega
  | m + 1, met, vs, [], h, _, _, _ => by
    rw [dioramaref09_Led.l0, if_neg (by simp)]
    refine ⟨_, rfl, h.len, fun i hi => ?_⟩
    rw [h.tell i hi, decide_eq_true_iff]
    exact (h.done _).symm
  | m + 1, met, vs, x :: work, h, hl, hw, hs => by
    have hxp := h.wpl x (by simp)
    have hrd : rd (x :: work) 0 = x := rfl
    have hlen : (((x :: work).length : Nat) : Int) = (work.length : Int) + 1 := by simp
    rw [dioramaref09_Led.l0, if_pos (by rw [hlen]; omega), if_pos (by rw [hlen]; omega), if_pos (by rw [hlen]; omega), Option.bind_some, hrd, if_pos hxp.1, if_pos (by rw [h.len]; exact hxp.2)]
    rw [show (x :: work).drop (1 : Int).toNat = work from rfl]
    have hlen' : (x :: work).length = work.length + 1 := rfl
    obtain ⟨q, rfl⟩ : ∃ q : Nat, x = (q : Int) := ⟨x.toNat, by omega⟩
    have ht := h.tell q (by omega)
    by_cases hx : (q : Int) ∈ vs
    · rw [if_pos (by rw [ht]; exact decide_eq_true hx)]
      exact led_l0 hP K root hM m met vs work (h.skip hx) (by omega) (by omega) (by omega)
    · rw [if_neg (by rw [ht, decide_eq_false hx]; decide), Option.bind_some, if_pos (by simp; omega), Option.bind_some, if_pos (by rw [List.length_map]; exact hxp.2)]
      have hk := kids_to ns (q : Int)
      have hlc := left_cons (ns := ns) (vs := vs) (x := q) (by omega) hx
      have hwt : wt ns q = (kids ns (q : Int)).length + 1 := rfl
      rw [hk, if_pos (by simp; omega), List.nil_append]
      exact led_l0 hP K root hM m _ _ _ (h.meet hP hx) (by rw [List.length_append]; omega) (by rw [List.length_append]; omega) (by rw [List.length_append]; omega)
theorem wt_le {ns : List Node} {p : Nat} (hp : p < ns.length) : wt ns p ≤ rows ns := by
  have := left_cons (ns := ns) (vs := []) (x := p) hp (by simp)
  rw [left_nil] at this
  omega
theorem led_f {ns : List Node} (hP : Places ns) (root : Int) (hM : rows ns ≤ 1000000) (p : Nat) (hp : p < ns.length) (k : Nat) (hk : 2 * rows ns < k) :
    ∃ r, dioramaref09_Led.f k (ns.map toS) root (p : Int) = some r ∧ Tells ns (kids ns (p : Int)) r := by
  unfold dioramaref09_Led.f
  have hlr := len_rows ns
  have hl : (((ns.map toS).length : Nat) : Int) = (ns.length : Int) := by rw [List.length_map]
  have hwt : wt ns p = (kids ns (p : Int)).length + 1 := rfl
  have hle := wt_le hp
  rw [hl, if_pos (by omega), if_pos (by rw [Int.toNat_natCast]; omega), Option.bind_some, if_pos (by omega), if_pos (by omega), kids_to, if_pos (by simp; omega), List.nil_append, Int.toNat_natCast]
  refine led_l0 hP (kids ns (p : Int)) root hM k _ [] _ ⟨by simp, fun i hi => ?_, by simp, fun x hx => hP p hp x hx, by simp, fun x hx => .base hx, fun k hk => .inr hk, by simp⟩ ?_ (by omega) ?_
  · unfold rdOf
    rw [Int.toNat_natCast, List.getD_eq_getElem?_getD, List.getElem?_replicate, if_pos hi]
    simp
  · rw [left_nil]; omega
  · rw [left_nil]; omega
theorem rch_root {ns : List Node} {r x : Int} : Rch ns [r] x ↔ x = r ∨ Rch ns (kids ns r) x := by
  refine ⟨fun h => ?_, fun h => ?_⟩
  · induction h with
    | base hk => exact .inl (List.mem_singleton.1 hk)
    | step _ hk ih =>
      rcases ih with rfl | ih
      · exact .inr (.base hk)
      · exact .inr (.step ih hk)
  · rcases h with rfl | h
    · exact .base (by simp)
    · exact h.under
theorem chk_l1 (s : Scene) (led : List Bool) (hn : s.nodes.length ≤ 1000000) (hT : Tells s.nodes (kids s.nodes s.root) led) : ∀ (m i K : Nat), s.nodes.length ≤ i + m → i ≤ s.nodes.length → (∀ j : Nat, j < i → Rch s.nodes [s.root] (j : Int)) →
    dioramaref09_Check.l1 (K + 1 + m) led (i : Int) (s.nodes.map toS) s.root = some (if 0 ≤ looseAt s then (15, looseAt s) else (0, 0))
  | 0, i, K, h1, h2, h3 => by
    rw [show K + 1 + 0 = K + 1 by omega, dioramaref09_Check.l1, if_neg (by rw [List.length_map]; omega)]
    have : looseAt s = -1 := firstP_no _ 0 (fun j hj h => h (by rw [Nat.zero_add]; exact h3 j (by omega)))
    rw [this]; rfl
  | m + 1, i, K, h1, h2, h3 => by
    by_cases hi : i < s.nodes.length
    · rw [show K + 1 + (m + 1) = (K + 1 + m) + 1 by omega, dioramaref09_Check.l1, if_pos (by rw [List.length_map]; omega), wrap64_in ((i : Int) + 1) (by omega), show (i : Int) + 1 = ((i + 1 : Nat) : Int) from rfl]
      have next : Rch s.nodes [s.root] (i : Int) → dioramaref09_Check.l1 (K + 1 + m) led ((i + 1 : Nat) : Int) (s.nodes.map toS) s.root = some (if 0 ≤ looseAt s then (15, looseAt s) else (0, 0)) := fun hr =>
        chk_l1 s led hn hT m (i + 1) K (by omega) (by omega) (ext_lt (P := fun j : Nat => Rch s.nodes [s.root] (j : Int)) h3 hr)
      by_cases hr : (i : Int) = s.root
      · rw [if_pos hr]
        exact next (rch_root.2 (.inl hr))
      · rw [if_neg hr, if_pos (Int.natCast_nonneg i), if_pos (by rw [hT.1]; omega)]
        have ht := hT.2 i hi
        by_cases hl : rdOf false led (i : Int) = true
        · rw [if_pos hl]
          exact next (rch_root.2 (.inr (ht.1 hl)))
        · rw [if_neg hl]
          have : looseAt s = (i : Int) := by
            have := firstP_at (p := fun i => ¬ Rch s.nodes [s.root] (i : Int)) s.nodes.length 0 i hi (fun j hj h => h (by rw [Nat.zero_add]; exact h3 j hj)) (by rw [Nat.zero_add]; exact fun h => hl (ht.2 ((rch_root.1 h).resolve_left hr)))
            rw [Nat.zero_add] at this
            exact this
          rw [this, if_pos (Int.natCast_nonneg i)]
    · have := chk_l1 s led hn hT m i (K + 1) (by omega) h2 h3
      rw [show K + 1 + 1 + m = K + 1 + (m + 1) by omega] at this
      exact this
theorem chk_l0 (s : Scene) (hM : rows s.nodes ≤ 1000000) (hP : Places s.nodes) (h0 : 0 ≤ s.root) (h1 : s.root < s.nodes.length) : ∀ (m i K : Nat), s.nodes.length ≤ i + m → i ≤ s.nodes.length → (∀ j : Nat, j < i → ¬ Cyc s.nodes (j : Int)) →
    dioramaref09_Check.l0 (K + 2 * rows s.nodes + s.nodes.length + 3 + m) (i : Int) (s.nodes.map toS) s.root = some (if 0 ≤ cycAt s.nodes then (14, cycAt s.nodes) else if 0 ≤ looseAt s then (15, looseAt s) else (0, 0))
  | 0, i, K, k1, k2, k3 => by
    have hlr := len_rows s.nodes
    rw [show K + 2 * rows s.nodes + s.nodes.length + 3 + 0 = (K + 2 * rows s.nodes + s.nodes.length + 2) + 1 by omega, dioramaref09_Check.l0, if_neg (by rw [List.length_map]; omega)]
    obtain ⟨q, hq⟩ : ∃ q : Nat, s.root = (q : Int) := ⟨s.root.toNat, by omega⟩
    obtain ⟨r, hr, hT⟩ := led_f hP s.root hM q (by omega) (K + 2 * rows s.nodes + s.nodes.length + 2) (by omega)
    rw [← hq] at hr hT
    rw [hr, Option.bind_some]
    have hc : cycAt s.nodes = -1 := firstP_no _ 0 (fun j hj h => k3 j (by omega) (by rwa [Nat.zero_add] at h))
    rw [hc, if_neg (by decide)]
    have := chk_l1 s r (by omega) hT s.nodes.length 0 (K + 2 * rows s.nodes + 1) (by omega) (by omega) (fun j hj => by omega)
    rw [show K + 2 * rows s.nodes + 1 + 1 + s.nodes.length = K + 2 * rows s.nodes + s.nodes.length + 2 by omega] at this
    exact this
  | m + 1, i, K, k1, k2, k3 => by
    by_cases hi : i < s.nodes.length
    · have hlr := len_rows s.nodes
      rw [show K + 2 * rows s.nodes + s.nodes.length + 3 + (m + 1) = (K + 2 * rows s.nodes + s.nodes.length + 3 + m) + 1 by omega, dioramaref09_Check.l0, if_pos (by rw [List.length_map]; omega)]
      obtain ⟨r, hr, hT⟩ := led_f hP s.root hM i hi (K + 2 * rows s.nodes + s.nodes.length + 3 + m) (by omega)
      rw [hr, Option.bind_some, if_pos (Int.natCast_nonneg i), if_pos (by rw [hT.1]; omega), wrap64_in ((i : Int) + 1) (by omega), show (i : Int) + 1 = ((i + 1 : Nat) : Int) from rfl]
      have ht := hT.2 i hi
      by_cases hl : rdOf false r (i : Int) = true
      · rw [if_pos hl]
        have : cycAt s.nodes = (i : Int) := by
          have := firstP_at (p := fun i => Cyc s.nodes (i : Int)) s.nodes.length 0 i hi (fun j hj h => k3 j hj (by rwa [Nat.zero_add] at h)) (by rw [Nat.zero_add]; exact ht.1 hl)
          rw [Nat.zero_add] at this
          exact this
        rw [this, if_pos (Int.natCast_nonneg i)]
      · rw [if_neg hl]
        exact chk_l0 s hM hP h0 h1 m (i + 1) K (by omega) (by omega) (ext_lt (P := fun j : Nat => ¬ Cyc s.nodes (j : Int)) k3 (fun h => hl (ht.2 h)))
    · have := chk_l0 s hM hP h0 h1 m i (K + 1) (by omega) k2 k3
      rw [show K + 1 + 2 * rows s.nodes + s.nodes.length + 3 + m = K + 2 * rows s.nodes + s.nodes.length + 3 + (m + 1) by omega] at this
      exact this
theorem chk_f (s : Scene) (hM : rows s.nodes ≤ 1000000) : dioramaref09_Check.f (2 * rows s.nodes + 2 * s.nodes.length + 3) (s.nodes.map toS) s.root = some (gcheck s) := by
  unfold dioramaref09_Check.f dioramaref09_Place.f dioramaref09_Refs.f
  rw [Option.bind_some, List.length_map, Option.bind_some, map_of_to]
  by_cases h0 : s.root < 0 ∨ (s.nodes.length : Int) ≤ s.root
  · have : isPl s.nodes.length s.root = false := by unfold isPl; exact decide_eq_false (by omega)
    rw [this, if_neg (by decide), gcheck_root h0]
  · have : isPl s.nodes.length s.root = true := by unfold isPl; exact decide_eq_true (by omega)
    rw [this, if_pos rfl]
    by_cases h : 0 ≤ refsAt s.nodes
    · rw [if_pos h, gcheck_refs h0 h]
    · rw [if_neg h]
      have hP : Places s.nodes := Places.of_refs ((refsAt_lt _).resolve_right h)
      have := chk_l0 s hM hP (by omega) (by omega) s.nodes.length 0 0 (by omega) (by omega) (fun j hj => by omega)
      rw [show 0 + 2 * rows s.nodes + s.nodes.length + 3 + s.nodes.length = 2 * rows s.nodes + 2 * s.nodes.length + 3 by omega] at this
      refine this.trans ?_
      unfold gcheck
      rw [if_neg h0, if_neg h]
theorem rchk_any (A : Option Addr) (c : Nat) (s : Scene) (w : World) (h : kNode.C w A s.nodes.length s.nodes) (hc : s.nodes.length ≤ c) (hM : rows s.nodes ≤ 1000000) :
    Calls Tryd.prog 22 #[.agg #[.slice A s.nodes.length c, .int .i64 s.root]] w fun e w' => e = .returned (.tuple #[.int .i64 (gcheck s).1, .int .i64 (gcheck s).2]) ∧ Below w.heap.size w w' := by
  have hl : (s.nodes.map toS).length = s.nodes.length := List.length_map ..
  have := dioramaref09_Check.calls (2 * rows s.nodes + 2 * s.nodes.length + 3) A c (s.nodes.map toS) s.root (gcheck s).1 (gcheck s).2 w (by rw [hl]; exact C_to h) (by rw [hl]; exact hc) (chk_f s hM)
  rw [hl] at this
  exact this
end Go.Proofs.YtglfebpgdghlfaaDoor.L
end
section
namespace Go.Proofs.YtglfebpgdghlfaaDoor.L
open Go.RowKit Go.ChangeShapes Go.WideShapes Go.Proofs.YtglfebpgdghlfaaDoorW.PrintWords Go.Proofs.YtglfebpgdghlfaaDoorW.PrintLast Go.Proofs.YtglfebpgdghlfaaDoorW.PrintMore
attribute [local go_sem] max2_int min2_int max_two min_two max_three min_three max_four min_four
open Go.Proofs.YtglfebpgdghlfaaDoor.PUpgradeUps
structure Iso (ns ms : List Node) (f : Int → Int) : Prop where
  len : ns.length = ms.length
  pl : ∀ x, Pl ms x → Pl ns (f x)
  inj : ∀ x y, Pl ms x → Pl ms y → f x = f y → x = y
  nd : ∀ x, Pl ms x → nd ns (f x).toNat = ⟨(nd ms x.toNat).kind, (nd ms x.toNat).ints, (nd ms x.toNat).texts, (kids ms x).map f⟩
theorem Iso.kids {ns ms : List Node} {f : Int → Int} (h : Iso ns ms f) {x : Int} (hx : Pl ms x) : L.kids ns (f x) = (L.kids ms x).map f := by
  show (L.nd ns (f x).toNat).kids = _
  rw [h.nd x hx]
theorem Iso.mem {ns ms : List Node} {f : Int → Int} (h : Iso ns ms f) {x : Int} (hx : Pl ms x) {l : List Int} (hl : ∀ y ∈ l, Pl ms y) : f x ∈ l.map f ↔ x ∈ l := by
  refine ⟨fun hm => ?_, fun hm => List.mem_map_of_mem hm⟩
  obtain ⟨y, hy, e⟩ := List.mem_map.1 hm
  rw [h.inj x y hx (hl y hy) e.symm]; exact hy
theorem kids_pl {ms : List Node} (hP : Places ms) {x : Int} (hx : Pl ms x) : ∀ k ∈ kids ms x, Pl ms k := fun k hk => hP x.toNat (by have := hx.1; have := hx.2; omega) k hk
theorem Iso.meet {ns ms : List Node} {f : Int → Int} (h : Iso ns ms f) (hP : Places ms) : ∀ (m : Nat) (a : Int) (met : List Int), Pl ms a → (∀ x ∈ met, Pl ms x) →
    L.meet ns m (f a) (met.map f) = (L.meet ms m a met).map f ∧ ∀ x ∈ L.meet ms m a met, Pl ms x
  | 0, a, met, _, hm => ⟨rfl, hm⟩
  | m + 1, a, met, ha, hm => by
    unfold L.meet
    by_cases hin : a ∈ met
    · rw [if_pos hin, if_pos ((h.mem ha hm).2 hin)]
      exact ⟨rfl, hm⟩
    · rw [if_neg hin, if_neg (fun e => hin ((h.mem ha hm).1 e)), h.kids ha, List.foldl_map]
      have key : ∀ (l met : List Int), (∀ k ∈ l, Pl ms k) → (∀ x ∈ met, Pl ms x) →
          l.foldl (fun v k => L.meet ns m (f k) v) (met.map f) = (l.foldl (fun v k => L.meet ms m k v) met).map f ∧ ∀ x ∈ l.foldl (fun v k => L.meet ms m k v) met, Pl ms x := by
        intro l
        induction l with
        | nil => intro met _ hm; exact ⟨rfl, hm⟩
        | cons k l ih =>
          intro met hl hm
          obtain ⟨e1, e2⟩ := Iso.meet h hP m k met (hl k (by simp)) hm
          rw [List.foldl_cons, List.foldl_cons, e1]
          exact ih _ (fun y hy => hl y (by simp [hy])) e2
      obtain ⟨e1, e2⟩ := key (L.kids ms a) met (kids_pl hP ha) hm
      refine ⟨?_, fun x hx => ?_⟩
      · rw [List.map_append, ← e1]; rfl
      · rcases List.mem_append.1 hx with hx | hx
        · exact e2 x hx
        · rw [List.mem_singleton.1 hx]; exact ha
theorem Iso.rch {ns ms : List Node} {f : Int → Int} (h : Iso ns ms f) (hP : Places ms) {l : List Int} (hl : ∀ k ∈ l, Pl ms k) {x : Int} (hr : Rch ms l x) : Rch ns (l.map f) (f x) ∧ Pl ms x := by
  induction hr with
  | base hk => exact ⟨.base (List.mem_map_of_mem hk), hl _ hk⟩
  | step _ hk ih => exact ⟨.step ih.1 (by rw [h.kids ih.2]; exact List.mem_map_of_mem hk), kids_pl hP ih.2 _ hk⟩
theorem Iso.dag {ns ms : List Node} {f : Int → Int} (h : Iso ns ms f) (hP : Places ms) (hc : ∀ p : Nat, p < ns.length → ¬ Cyc ns p) : Dag ms := by
  refine ⟨hP, fun p hp hcy => ?_⟩
  have hx : Pl ms (p : Int) := ⟨by omega, by omega⟩
  have h1 := (h.rch hP (kids_pl hP hx) hcy).1
  rw [← h.kids hx] at h1
  have hpl := h.pl _ hx
  obtain ⟨q, hq⟩ : ∃ q : Nat, f (p : Int) = (q : Int) := ⟨(f p).toNat, by have := hpl.1; omega⟩
  rw [hq] at h1 hpl
  exact hc q (by have := hpl.2; omega) h1
theorem idxOf_map {f : Int → Int} {P : Int → Prop} (hf : ∀ x y, P x → P y → f x = f y → x = y) {k : Int} (hk : P k) : ∀ l : List Int, (∀ y ∈ l, P y) → (l.map f).idxOf (f k) = l.idxOf k
  | [], _ => rfl
  | y :: l, h => by
    rw [List.map_cons, List.idxOf_cons, List.idxOf_cons, idxOf_map hf hk l (fun z hz => h z (by simp [hz]))]
    by_cases e : y = k
    · rw [e]; simp
    · have : ¬ f y = f k := fun e' => e (hf y k (h y (by simp)) hk e')
      rw [beq_eq_false_iff_ne.2 e, beq_eq_false_iff_ne.2 this]
theorem Iso.ord {s t : Scene} {f : Int → Int} (h : Iso s.nodes t.nodes f) (hP : Places t.nodes) (hr : Pl t.nodes t.root) (he : s.root = f t.root) : L.ord s = (L.ord t).map f ∧ ∀ x ∈ L.ord t, Pl t.nodes x := by
  unfold L.ord M
  rw [he, h.len]
  exact h.meet hP _ _ [] hr (fun x hx => by simp at hx)
theorem Iso.canonL {s t : Scene} {f : Int → Int} (h : Iso s.nodes t.nodes f) (hP : Places t.nodes) (hr : Pl t.nodes t.root) (he : s.root = f t.root) : L.canonL s = L.canonL t := by
  obtain ⟨ho, hop⟩ := h.ord hP hr he
  unfold L.canonL
  rw [ho, List.map_map]
  refine List.map_congr_left (fun a ha => ?_)
  have hap := hop a ha
  show relab s (L.nd s.nodes (f a).toNat) = relab t (L.nd t.nodes a.toNat)
  unfold relab
  rw [h.nd a hap]
  show Node.mk _ _ _ _ = Node.mk _ _ _ _
  congr 1
  rw [List.map_map]
  refine List.map_congr_left (fun k hk => ?_)
  show ((idx s (f k) : Nat) : Int) = (idx t k : Int)
  unfold idx
  rw [ho, idxOf_map (P := Pl t.nodes) h.inj (kids_pl hP hap k hk) _ hop]
theorem Shut.len {ns : List Node} {m : List Int} (h : Shut ns m) : m.length ≤ ns.length := nodup_len h.nd h.pl
theorem shut_next {ns : List Node} {met : List Int} (hs : Shut ns met) (a : Int) : ∀ x ∈ met, ¬ Rch ns (kids ns x) a ∨ a ∈ met := fun x hx => by
  by_cases hr : Rch ns (kids ns x) a
  · right
    have : ∀ y, Rch ns (kids ns x) y → y ∈ met := fun y hy => by
      induction hy with
      | base hb => exact hs.kids x hx _ hb
      | step _ hb ih => exact hs.kids _ ih _ hb
    exact this a hr
  · exact .inl hr
theorem meet_l0 (ns : List Node) (root a : Int) (met : List Int) (hm : met.length ≤ 1000000) : ∀ (m i K : Nat), met.length ≤ i + m → i ≤ met.length → (∀ j : Nat, j < i → ¬ rd met (j : Int) = a) →
    (a ∈ met → dioramaref10_meet.l0 (K + 1 + m) a met (i : Int) (ns.map toS) root = some met) ∧
    (¬ a ∈ met → ∃ K', K ≤ K' ∧ dioramaref10_meet.l0 (K + 1 + m) a met (i : Int) (ns.map toS) root = dioramaref10_meet.l1 K' a met 0 (ns.map toS) root)
  | 0, i, K, h1, h2, h3 => by
    have hno : ¬ a ∈ met := fun hm => by
      obtain ⟨j, hj⟩ := List.getElem?_of_mem hm
      have hjl := (List.getElem?_eq_some_iff.1 hj).1
      refine h3 j (by omega) ?_
      unfold rd
      rw [Int.toNat_natCast, List.getD_eq_getElem?_getD, hj]; rfl
    refine ⟨fun h => absurd h hno, fun _ => ⟨K, Nat.le_refl _, ?_⟩⟩
    rw [show K + 1 + 0 = K + 1 by omega, dioramaref10_meet.l0, if_neg (by omega)]
  | m + 1, i, K, h1, h2, h3 => by
    by_cases hi : i < met.length
    · rw [show K + 1 + (m + 1) = (K + 1 + m) + 1 by omega, dioramaref10_meet.l0, if_pos (by omega), if_pos (Int.natCast_nonneg i)]
      by_cases he : rd met (i : Int) = a
      · rw [if_pos he]
        have hin : a ∈ met := by rw [← he]; exact rd_mem hi
        exact ⟨fun _ => rfl, fun h => absurd hin h⟩
      · rw [if_neg he, wrap64_in ((i : Int) + 1) (by omega), show (i : Int) + 1 = ((i + 1 : Nat) : Int) from rfl]
        exact meet_l0 ns root a met hm m (i + 1) K (by omega) (by omega) (ext_lt (P := fun j : Nat => ¬ rd met (j : Int) = a) h3 he)
    · obtain ⟨g1, g2⟩ := meet_l0 ns root a met hm m i (K + 1) (by omega) h2 h3
      rw [show K + 1 + 1 + m = K + 1 + (m + 1) by omega] at g1 g2
      exact ⟨g1, fun h => by obtain ⟨K', h1, h2⟩ := g2 h; exact ⟨K', by omega, h2⟩⟩
def meetT (ns : List Node) : Nat := ns.length + rows ns + 4
theorem meet_f {ns : List Node} (hd : Dag ns) (root : Int) (hM : rows ns ≤ 1000000) : ∀ (N : Nat) (a : Int) (met : List Int) (K : Nat), reachN ns a < N → Pl ns a → Shut ns met → N * meetT ns ≤ K →
    dioramaref10_meet.f K (ns.map toS) root a met = some (M ns a met)
  | 0, _, _, _, h, _, _, _ => by omega
  | N + 1, a, met, K, hN, ha, hs, hK => by
    have hT : (N + 1) * meetT ns = N * meetT ns + meetT ns := Nat.succ_mul _ _
    have hlen := hs.len
    have hlr := len_rows ns
    have hTd : meetT ns = ns.length + rows ns + 4 := rfl
    obtain ⟨K1, rfl⟩ : ∃ K1, K = (K1 + (kids ns a).length + 1) + 1 + met.length + 1 := ⟨K - met.length - 3 - (kids ns a).length, by
      have hw : (kids ns a).length + 1 ≤ rows ns := wt_le (ns := ns) (p := a.toNat) (by have := ha.1; have := ha.2; omega)
      omega⟩
    rw [dioramaref10_meet.f]
    obtain ⟨g1, g2⟩ := meet_l0 ns root a met (by omega) met.length 0 (K1 + (kids ns a).length + 1) (by omega) (by omega) (fun j hj => by omega)
    by_cases hin : a ∈ met
    · rw [M_in hd ha hin]
      exact g1 hin
    · obtain ⟨K', hK', e⟩ := g2 hin
      rw [M_out hd ha hin]
      refine Eq.trans e ?_
      have hw : (kids ns a).length + 1 ≤ rows ns := wt_le (ns := ns) (p := a.toNat) (by have := ha.1; have := ha.2; omega)
      have hK1 : N * meetT ns ≤ K1 := by omega
      -- the kids, one behind the other
      have key : ∀ (m j K2 : Nat) (v : List Int), (kids ns a).length = j + m → N * meetT ns ≤ K2 → Shut ns v → (∀ x ∈ v, x ∈ v) → v = ML ns ((kids ns a).take j) met →
          dioramaref10_meet.l1 (K2 + 1 + m) a v (j : Int) (ns.map toS) root = some (ML ns (kids ns a) met ++ [a]) := by
        intro m
        induction m with
        | zero =>
          intro j K2 v hj hK2 hv _ hve
          have hvl := hv.len
          rw [show K2 + 1 + 0 = K2 + 1 by omega, dioramaref10_meet.l1, if_pos ha.1, if_pos (by rw [List.length_map]; exact ha.2), kids_to, if_neg (by omega), Option.bind_some, if_pos (by simp; omega), Option.bind_some, if_pos (by simp; omega), List.nil_append]
          rw [hve, List.take_of_length_le (by omega)]
        | succ m ih =>
          intro j K2 v hj hK2 hv _ hve
          have hjl : j < (kids ns a).length := by omega
          rw [show K2 + 1 + (m + 1) = (K2 + 1 + m) + 1 by omega, dioramaref10_meet.l1, if_pos ha.1, if_pos (by rw [List.length_map]; exact ha.2), kids_to, if_pos (by omega), if_pos (Int.natCast_nonneg j)]
          have hk : rd (kids ns a) (j : Int) ∈ kids ns a := rd_mem hjl
          have hkp := hd.kid ha hk
          have hlow := hd.lower ha hk
          rw [meet_f hd root hM N (rd (kids ns a) (j : Int)) v (K2 + 1 + m) (by omega) hkp hv (by omega), Option.bind_some, wrap64_in ((j : Int) + 1) (by have := hs.len; omega), show (j : Int) + 1 = ((j + 1 : Nat) : Int) from rfl]
          have hmet := M_met hd _ (rd (kids ns a) (j : Int)) v (Nat.lt_succ_self _) hkp hv (shut_next hv _)
          refine ih (j + 1) K2 _ (by omega) hK2 hmet.shut (fun _ h => h) ?_
          rw [take_succ_rd hjl, hve]
          unfold ML
          rw [List.foldl_append]
          rfl
      obtain ⟨K2, rfl⟩ : ∃ K2, K' = K2 + 1 + (kids ns a).length := ⟨K' - 1 - (kids ns a).length, by omega⟩
      exact key (kids ns a).length 0 K2 met (by omega) (by omega) hs (fun _ h => h) (by rw [List.take_zero]; rfl)
theorem order_f {s : Scene} (hd : Dag s.nodes) (hr : Pl s.nodes s.root) (hM : rows s.nodes ≤ 1000000) : dioramaref10_Order.f ((s.nodes.length + 1) * meetT s.nodes) (s.nodes.map toS) s.root = some (ord s) := by
  unfold dioramaref10_Order.f
  rw [meet_f hd s.root hM (s.nodes.length + 1) s.root [] _ (Nat.lt_succ_of_le (reachN_le _ _)) hr (Shut.nil _) (Nat.le_refl _)]
  rfl
theorem ord_met' {s : Scene} (hd : Dag s.nodes) (hr : Pl s.nodes s.root) : Met s.nodes s.root [] (ord s) := M_met hd _ _ _ (Nat.lt_succ_self _) hr (Shut.nil _) (fun x hx => by simp at hx)
theorem refCan_eq {s : Scene} (hd : Dag s.nodes) (hr : Pl s.nodes s.root) : refCanL s.nodes (ord s) = canonL s := by
  have hm := ord_met' hd hr
  unfold refCanL canonL
  refine List.map_congr_left (fun a ha => ?_)
  unfold refN relab
  congr 1
  refine List.map_congr_left (fun k hk => ?_)
  have := hm.shut.kids a ha k hk
  unfold findI idx
  rw [if_pos this]
end Go.Proofs.YtglfebpgdghlfaaDoor.L
end
section
namespace Go.Proofs.YtglfebpgdghlfaaDoor.L
open Go.RowKit Go.ChangeShapes Go.WideShapes Go.Proofs.YtglfebpgdghlfaaDoorW.PrintWords Go.Proofs.YtglfebpgdghlfaaDoorW.PrintLast Go.Proofs.YtglfebpgdghlfaaDoorW.PrintMore
attribute [local go_sem] max2_int min2_int max_two min_two max_three min_three max_four min_four
open Go.Proofs.YtglfebpgdghlfaaDoor.PUpgradeUps
def isTr (n : Node) : Bool := decide (n.kind = 2)
def lows (ns : List Node) (n : Nat) : List Nat := (List.range n).filter (fun p => isTr (nd ns p))
def cnt (ns : List Node) (n : Nat) : Nat := (lows ns n).length
end Go.Proofs.YtglfebpgdghlfaaDoor.L
end
section
namespace Go.Proofs.YtglfebpgdghlfaaDoor.L
open Go.RowKit Go.ChangeShapes Go.WideShapes Go.Proofs.YtglfebpgdghlfaaDoorW.PrintWords Go.Proofs.YtglfebpgdghlfaaDoorW.PrintLast Go.Proofs.YtglfebpgdghlfaaDoorW.PrintMore
attribute [local go_sem] max2_int min2_int max_two min_two max_three min_three max_four min_four
def maxl (l : List Nat) : Nat := l.foldl max 0
theorem maxl_snoc (l : List Nat) (x : Nat) : maxl (l ++ [x]) = max (maxl l) x := by unfold maxl; rw [List.foldl_append]; rfl
def hgt (ns : List Node) : Nat → Int → Nat
  | 0, _ => 0
  | f + 1, a => maxl ((kids ns a).map (hgt ns f)) + 1
theorem hgt_fuel {ns : List Node} (h : Dag ns) : ∀ (f g : Nat) (a : Int), Pl ns a → reachN ns a < f → reachN ns a < g → hgt ns f a = hgt ns g a
  | 0, _, _, _, hf, _ => by omega
  | f + 1, 0, _, _, _, hg => by omega
  | f + 1, g + 1, a, ha, hf, hg => by
    unfold hgt
    congr 2
    exact List.map_congr_left (fun k hk => hgt_fuel h f g k (h.kid ha hk) (by have := h.lower ha hk; omega) (by have := h.lower ha hk; omega))
def H (ns : List Node) (a : Int) : Nat := hgt ns (ns.length + 1) a
theorem H_eq {ns : List Node} (h : Dag ns) {a : Int} (ha : Pl ns a) : H ns a = maxl ((kids ns a).map (H ns)) + 1 := by
  unfold H
  conv => lhs; unfold hgt
  congr 2
  refine List.map_congr_left (fun k hk => hgt_fuel h _ _ k (h.kid ha hk) ?_ ?_)
  · have := h.lower ha hk; have := reachN_le ns a; omega
  · have := reachN_le ns k; omega
structure DpInv (ns : List Node) (L : List Int) (i j : Nat) (deep : List Int) : Prop where
  len : deep.length = ns.length
  tell : ∀ p : Nat, p < ns.length → (p : Int) ∈ L.take i → rd deep (p : Int) = (H ns (p : Int) : Int)
  rest : ∀ p : Nat, p < ns.length → ¬ (p : Int) ∈ L.take i → rd deep (p : Int) = if rd L (i : Int) = (p : Int) ∧ i < L.length then (maxl (((kids ns (p : Int)).take j).map (H ns)) : Int) else 0
theorem rd_setN {l : List Int} {q p : Nat} {v : Int} (hq : q < l.length) : rd (l.set q v) (p : Int) = if p = q then v else rd l (p : Int) := by
  unfold rd
  rw [Int.toNat_natCast, List.getD_eq_getElem?_getD, List.getD_eq_getElem?_getD, List.getElem?_set]
  by_cases e : p = q
  · subst e; rw [if_pos rfl, if_pos rfl, if_pos hq]; rfl
  · rw [if_neg e, if_neg (fun h => e h.symm)]
theorem DpInv.start (ns : List Node) (L : List Int) : DpInv ns L 0 0 (List.replicate ns.length 0) := by
  have hz : ∀ p : Nat, rd (List.replicate ns.length 0) (p : Int) = 0 := fun p => by
    unfold rd
    rw [Int.toNat_natCast, List.getD_eq_getElem?_getD, List.getElem?_replicate]
    split <;> rfl
  refine ⟨by simp, fun p _ h => by simp at h, fun p _ _ => ?_⟩
  rw [hz]
  split
  · rw [List.take_zero]; rfl
  · rfl
theorem take_not {L : List Int} (hnd : L.Nodup) {i : Nat} (hi : i < L.length) : ¬ rd L (i : Int) ∈ L.take i := fun hm => by
  obtain ⟨m, hm', e⟩ := List.getElem_of_mem hm
  rw [List.length_take] at hm'
  rw [List.getElem_take, rd_eq hi] at e
  have := (List.getElem_inj hnd).1 e
  omega
theorem DpInv.kid {ns : List Node} {L : List Int} {i j q k : Nat} {deep : List Int} (hT : Topo ns L) (h : DpInv ns L i j deep) (hi : i < L.length) (hq : rd L (i : Int) = (q : Int)) (hqn : q < ns.length) (hj : j < (kids ns (q : Int)).length) (hk : rd (kids ns (q : Int)) (j : Int) = (k : Int)) (hkn : k < ns.length) :
    rd deep (q : Int) = (maxl (((kids ns (q : Int)).take j).map (H ns)) : Int) ∧ rd deep (k : Int) = (H ns (k : Int) : Int) ∧ DpInv ns L i (j + 1) (deep.set q ((max (maxl (((kids ns (q : Int)).take j).map (H ns))) (H ns (k : Int)) : Nat) : Int)) := by
  have hnq : ¬ (q : Int) ∈ L.take i := by rw [← hq]; exact take_not hT.nd hi
  have h1 := h.rest q hqn hnq
  rw [if_pos ⟨hq, hi⟩] at h1
  have hkm : (k : Int) ∈ L.take i := by
    refine hT.ahead i hi _ ?_
    rw [hq, ← hk]
    exact rd_mem hj
  refine ⟨h1, h.tell k hkn hkm, by rw [List.length_set]; exact h.len, fun p hp hm => ?_, fun p hp hm => ?_⟩
  · rw [rd_setN (by rw [h.len]; exact hqn), if_neg (fun e => hnq (by rw [← e]; exact hm))]
    exact h.tell p hp hm
  · rw [rd_setN (by rw [h.len]; exact hqn)]
    by_cases e : p = q
    · subst e
      rw [if_pos rfl, if_pos ⟨hq, hi⟩, take_succ_rd hj, List.map_append, hk]
      show _ = ((maxl (_ ++ [H ns (k : Int)]) : Nat) : Int)
      rw [maxl_snoc]
    · have h2 := h.rest p hp hm
      rw [if_neg (fun hh => e (by have := hh.1; rw [hq] at this; omega))] at h2
      rw [if_neg e, if_neg (fun hh => e (by have := hh.1; rw [hq] at this; omega))]
      exact h2
theorem DpInv.node {ns : List Node} {L : List Int} {i q : Nat} {deep : List Int} (hd : Dag ns) (hT : Topo ns L) (h : DpInv ns L i (kids ns (q : Int)).length deep) (hi : i < L.length) (hq : rd L (i : Int) = (q : Int)) (hqn : q < ns.length) :
    rd deep (q : Int) + 1 = (H ns (q : Int) : Int) ∧ DpInv ns L (i + 1) 0 (deep.set q (H ns (q : Int) : Int)) := by
  have hnq : ¬ (q : Int) ∈ L.take i := by rw [← hq]; exact take_not hT.nd hi
  have h1 := h.rest q hqn hnq
  rw [if_pos ⟨hq, hi⟩, List.take_length] at h1
  have hH := H_eq hd (a := (q : Int)) ⟨by omega, by omega⟩
  have htk : L.take (i + 1) = L.take i ++ [(q : Int)] := by rw [take_succ_rd hi, hq]
  refine ⟨by rw [h1, hH]; rfl, by rw [List.length_set]; exact h.len, fun p hp hm => ?_, fun p hp hm => ?_⟩
  · rw [rd_setN (by rw [h.len]; exact hqn)]
    by_cases e : p = q
    · subst e; rw [if_pos rfl]
    · rw [if_neg e]
      rw [htk] at hm
      rcases List.mem_append.1 hm with hm | hm
      · exact h.tell p hp hm
      · exact absurd (List.mem_singleton.1 hm) (fun e' => e (by omega))
  · rw [htk] at hm
    have e : ¬ p = q := fun e => hm (by rw [e]; simp)
    rw [rd_setN (by rw [h.len]; exact hqn), if_neg e, List.take_zero]
    have h2 := h.rest p hp (fun hh => hm (List.mem_append_left _ hh))
    rw [if_neg (fun hh => e (by have := hh.1; rw [hq] at this; omega))] at h2
    rw [h2]
    split <;> rfl
structure DpRel (s : Scene) (L : List Int) (w : World) (A : Option Addr) (c g cd : Nat) (Ao : Option Addr) (co i j : Nat) (deep : List Int) (W : World) : Prop where
  inv : DpInv s.nodes L i j deep
  row : (Kd.int .i64).R 3 W w.heap.size (fun _ => True) (.slice (some ⟨g, 0, none⟩) s.nodes.length cd) deep
  ord : (Kd.int .i64).R 3 W w.heap.size (fun k => k ≠ g) (.slice Ao L.length co) L
  box : W.heap[w.heap.size]? = some (.cells #[.slice A s.nodes.length c, .int .i64 s.root] 39 (0, 0))
  below : Below w.heap.size w W
theorem DpRel.drew {s : Scene} {L : List Int} {w : World} {A : Option Addr} {c g cd : Nat} {Ao : Option Addr} {co i j : Nat} {deep : List Int} {W : World} (h : DpRel s L w A c g cd Ao co i j deep W) : DpRel s L w A c g cd Ao co i j deep W.drew :=
  ⟨h.inv, Kd.R_drew h.row, Kd.R_drew h.ord, h.box, below_drew h.below⟩
theorem DpRel.put {s : Scene} {L : List Int} {w : World} {A : Option Addr} {c g cd : Nat} {Ao : Option Addr} {co i j i' j' q : Nat} {deep : List Int} {W : World} {v : Int} (h : DpRel s L w A c g cd Ao co i j deep W) (hq : q < s.nodes.length) (hi : DpInv s.nodes L i' j' (deep.set q v)) :
    DpRel s L w A c g cd Ao co i' j' (deep.set q v) (W.setCell ⟨g, q, none⟩ (.int .i64 v)) := by
  obtain ⟨s1, s2, s3⟩ := ints_store h.row q hq v
  exact ⟨hi, s1, Kd.R_far (p := ⟨g, q, none⟩) h.ord (fun k hk => hk) _, blk_grown h.box s2 (Kd.R_ne h.row h.box (by decide)), below_set h.below s3⟩
end Go.Proofs.YtglfebpgdghlfaaDoor.L
end
section
namespace Go.Proofs.YtglfebpgdghlfaaDoor.L
open Go.RowKit Go.ChangeShapes Go.WideShapes Go.Proofs.YtglfebpgdghlfaaDoorW.PrintWords Go.Proofs.YtglfebpgdghlfaaDoorW.PrintLast Go.Proofs.YtglfebpgdghlfaaDoorW.PrintMore
attribute [local go_sem] max2_int min2_int max_two min_two max_three min_three max_four min_four
theorem canon_iso {s : Scene} (h : Right s) : Iso (canonL s) s.nodes (fun x => (idx s x : Int)) := by
  have hlen : (canonL s).length = s.nodes.length := by
    have := ord_len h
    simp [canonL, this]
  refine ⟨hlen, fun x hx => ?_, fun x y hx hy he => ?_, fun x hx => ?_⟩
  · obtain ⟨q, rfl⟩ : ∃ q : Nat, x = (q : Int) := ⟨x.toNat, by have := hx.1; omega⟩
    have := (at_idx h (p := q) (by have := hx.2; omega)).1
    exact ⟨by omega, by omega⟩
  · obtain ⟨q, rfl⟩ : ∃ q : Nat, x = (q : Int) := ⟨x.toNat, by have := hx.1; omega⟩
    obtain ⟨r, rfl⟩ : ∃ r : Nat, y = (r : Int) := ⟨y.toNat, by have := hy.1; omega⟩
    have := idx_inj h (p := q) (q := r) (by have := hx.2; omega) (by have := hy.2; omega) (by
      have he' : (idx s (q : Int) : Int) = (idx s (r : Int) : Int) := he
      omega)
    rw [this]
  · obtain ⟨q, rfl⟩ : ∃ q : Nat, x = (q : Int) := ⟨x.toNat, by have := hx.1; omega⟩
    obtain ⟨h1, h2⟩ := at_idx h (p := q) (by have := hx.2; omega)
    show nd (canonL s) ((idx s (q : Int) : Int)).toNat = _
    rw [Int.toNat_natCast]
    have hl : idx s (q : Int) < (ord s).length := by rw [ord_len h]; exact h1
    unfold canonL
    unfold nd
    rw [List.getD_eq_getElem?_getD, List.getElem?_map, List.getElem?_eq_getElem hl]
    have h3 : (ord s)[idx s (q : Int)] = (q : Int) := (rd_eq hl).symm.trans h2
    rw [h3]
    rfl
theorem canon_root {s : Scene} (h : Right s) : (s.nodes.length : Int) - 1 = (idx s s.root : Int) := by
  have hpl : Pl s.nodes s.root := ⟨h.r0, h.r1⟩
  have ho : ord s = ML s.nodes (kids s.nodes s.root) [] ++ [s.root] := by
    show M s.nodes s.root [] = _
    exact M_out h.dag hpl (by simp)
  have hl := ord_len h
  have hnd := ord_nodup h
  rw [ho] at hl hnd
  rw [List.length_append, List.length_singleton] at hl
  have hni : ¬ s.root ∈ ML s.nodes (kids s.nodes s.root) [] := fun hm => by
    exact (List.nodup_append.1 hnd).2.2 s.root hm s.root (by simp) rfl
  unfold idx
  rw [ho, List.idxOf_append, if_neg hni]
  simp
  omega
theorem canon_right {s : Scene} (h : Right s) : Right ⟨canonL s, (s.nodes.length : Int) - 1⟩ := by
  have hi := canon_iso h
  have hlen : (canonL s).length = s.nodes.length := hi.len
  have hn : 0 < s.nodes.length := by have := h.r0; have := h.r1; omega
  have hsur : ∀ m : Nat, m < (canonL s).length → ∃ q : Nat, q < s.nodes.length ∧ (m : Int) = (idx s (q : Int) : Int) := fun m hm => by
    obtain ⟨q, hq, hqn⟩ := ord_at h (m := m) (by omega)
    refine ⟨q, hqn, ?_⟩
    have := idx_at h (m := m) (by omega)
    rw [hq] at this
    rw [this]
  refine ⟨by show 0 ≤ (s.nodes.length : Int) - 1; omega, by show (s.nodes.length : Int) - 1 < ((canonL s).length : Int); omega, fun m hm k hk => ?_, fun m hm hc => ?_, fun m hm => ?_⟩
  · obtain ⟨q, hq, e⟩ := hsur m hm
    have hkk : k ∈ kids (canonL s) (idx s (q : Int) : Int) := by rw [← e]; unfold kids; rw [Int.toNat_natCast]; exact hk
    rw [hi.kids ⟨by omega, by omega⟩] at hkk
    obtain ⟨x, hx, rfl⟩ := List.mem_map.1 hkk
    exact hi.pl x (kids_pl h.pl ⟨by omega, by omega⟩ x hx)
  · obtain ⟨q, hq, e⟩ := hsur m hm
    have hqp : Pl s.nodes (q : Int) := ⟨by omega, by omega⟩
    have back : ∀ (l : List Int), (∀ k ∈ l, Pl s.nodes k) → ∀ y, Rch (canonL s) (l.map (fun x => (idx s x : Int))) y → ∃ x, Pl s.nodes x ∧ y = (idx s x : Int) ∧ Rch s.nodes l x := fun l hl y hy => by
      induction hy with
      | base hk =>
        obtain ⟨x, hx, rfl⟩ := List.mem_map.1 hk
        exact ⟨x, hl x hx, rfl, .base hx⟩
      | step _ hk ih =>
        obtain ⟨x, hx, rfl, hrx⟩ := ih
        rw [hi.kids hx] at hk
        obtain ⟨z, hz, rfl⟩ := List.mem_map.1 hk
        exact ⟨z, kids_pl h.pl hx z hz, rfl, .step hrx hz⟩
    have hc' : Rch (canonL s) (kids (canonL s) (m : Int)) (m : Int) := hc
    rw [e, hi.kids hqp] at hc'
    obtain ⟨x, hx, ex, hrx⟩ := back _ (kids_pl h.pl hqp) _ hc'
    have := hi.inj _ _ hqp hx ex
    rw [← this] at hrx
    exact h.cyc q hq hrx
  · obtain ⟨q, hq, e⟩ := hsur m hm
    rw [e]
    have h1 := (hi.rch h.pl (l := [s.root]) (fun k hk => by rw [List.mem_singleton.1 hk]; exact ⟨h.r0, h.r1⟩) (h.all q hq)).1
    show Rch (canonL s) [(s.nodes.length : Int) - 1] _
    rw [canon_root h]
    exact h1
end Go.Proofs.YtglfebpgdghlfaaDoor.L
end
section
namespace Go.Proofs.YtglfebpgdghlfaaDoor.L
open Go.RowKit Go.ChangeShapes Go.WideShapes Go.Proofs.YtglfebpgdghlfaaDoorW.PrintWords Go.Proofs.YtglfebpgdghlfaaDoorW.PrintLast Go.Proofs.YtglfebpgdghlfaaDoorW.PrintMore
attribute [local go_sem] max2_int min2_int max_two min_two max_three min_three max_four min_four
theorem isC_right {s : Scene} (h : isC s = true) : Right s := by
  have h1 := (of_decide_eq_true h).2
  refine gcheck_right.1 (Classical.byContradiction fun hn => ?_)
  unfold nums at h1
  rw [if_neg hn] at h1
  simp at h1
theorem ord_iota {s : Scene} (h : Right s) : (ord s).map (fun x => (idx s x : Int)) = iota s.nodes.length := by
  have hl := ord_len h
  refine List.ext_getElem (by rw [List.length_map, hl, iota_len]) (fun m h1 h2 => ?_)
  rw [List.length_map] at h1
  rw [List.getElem_map]
  have h3 := idx_at h (m := m) (by omega)
  rw [rd_eq h1] at h3
  rw [h3]
  have h4 := iota_rd s.nodes.length m (by omega)
  rw [rd_eq h2] at h4
  exact h4.symm
theorem canon_ord {s : Scene} (h : Right s) : ord ⟨canonL s, (s.nodes.length : Int) - 1⟩ = iota s.nodes.length := by
  have hi := canon_iso h
  have := (hi.ord (s := ⟨canonL s, (s.nodes.length : Int) - 1⟩) h.pl ⟨h.r0, h.r1⟩ (canon_root h)).1
  rw [this]
  exact ord_iota h
theorem idxOf_iota (n p : Nat) (h : p < n) : (iota n).idxOf (p : Int) = p := by
  have hp : p < (iota n).length := by rw [iota_len]; exact h
  have hnd : (iota n).Nodup := by
    unfold iota
    refine List.pairwise_map.2 (List.Pairwise.imp ?_ List.nodup_range)
    intro a b hab e
    exact hab (by omega)
  have e : (iota n)[p] = (p : Int) := by have := iota_rd n p h; rwa [rd_eq hp] at this
  have := hnd.idxOf_getElem p hp
  rwa [e] at this
theorem canon_isC {s : Scene} (h : Right s) : isC ⟨canonL s, (s.nodes.length : Int) - 1⟩ = true := by
  have hr := canon_right h
  have hlen : (canonL s).length = s.nodes.length := (canon_iso h).len
  have hn : 0 < s.nodes.length := by have := h.r0; have := h.r1; omega
  have hnum : nums ⟨canonL s, (s.nodes.length : Int) - 1⟩ = iota s.nodes.length := by
    unfold nums
    rw [if_pos (gcheck_right.2 hr)]
    unfold numsL
    show (List.range (canonL s).length).map _ = _
    rw [hlen]
    unfold iota
    refine List.map_congr_left (fun p hp => ?_)
    unfold idx
    rw [canon_ord h, idxOf_iota _ _ (List.mem_range.1 hp)]
  refine decide_eq_true ?_
  rw [hnum, iota_len]
  exact ⟨rfl, hn⟩
theorem isC_idx {s : Scene} (h : Right s) (hc : isC s = true) {p : Nat} (hp : p < s.nodes.length) : idx s (p : Int) = p := by
  have h1 := (of_decide_eq_true hc).1
  have h2 : nums s = numsL s := by unfold nums; rw [if_pos (gcheck_right.2 h)]
  rw [h2, numsL_len] at h1
  have h3 := numsL_rd s p hp
  rw [h1, iota_rd _ _ hp] at h3
  omega
theorem isC_eq {s : Scene} (h : Right s) (hc : isC s = true) : s = ⟨canonL s, (s.nodes.length : Int) - 1⟩ := by
  have hlen : (canonL s).length = s.nodes.length := (canon_iso h).len
  have hroot : s.root = (s.nodes.length : Int) - 1 := by
    have h1 := canon_root h
    obtain ⟨r, hr⟩ : ∃ r : Nat, s.root = (r : Int) := ⟨s.root.toNat, by have := h.r0; omega⟩
    rw [hr] at h1
    rw [isC_idx h hc (p := r) (by have := h.r1; omega)] at h1
    omega
  have hnodes : s.nodes = canonL s := by
    refine List.ext_getElem hlen.symm (fun p h1 h2 => ?_)
    have h3 := (canon_iso h).nd (p : Int) ⟨by omega, by omega⟩
    rw [isC_idx h hc h1, Int.toNat_natCast] at h3
    unfold nd kids nd at h3
    rw [Int.toNat_natCast, getD_eq _ h2, getD_eq _ h1] at h3
    rw [h3]
    generalize hx : s.nodes[p] = x
    have hk : ∀ k ∈ x.kids, Pl s.nodes k := fun k hk => h.pl p h1 k (by unfold nd; rw [getD_eq _ h1, hx]; exact hk)
    have e : x.kids.map (fun x => (idx s x : Int)) = x.kids := by
      conv => rhs; rw [← List.map_id x.kids]
      refine List.map_congr_left (fun k hkk => ?_)
      have hkp := hk k hkk
      obtain ⟨q, rfl⟩ : ∃ q : Nat, k = (q : Int) := ⟨k.toNat, by have := hkp.1; omega⟩
      show ((idx s (q : Int) : Nat) : Int) = _
      rw [isC_idx h hc (by have := hkp.2; omega)]
      rfl
    cases x
    simp only at e ⊢
    rw [e]
  cases s
  simp only at hnodes hroot ⊢
  congr 1
theorem isC_iff {s : Scene} (h : Right s) : isC s = true ↔ (⟨canonL s, (s.nodes.length : Int) - 1⟩ : Scene) = s :=
  ⟨fun hc => (isC_eq h hc).symm, fun e => by have := canon_isC h; rwa [e] at this⟩
end Go.Proofs.YtglfebpgdghlfaaDoor.L
end
section
namespace Go.Proofs.YtglfebpgdghlfaaDoor.L
open Go.RowKit Go.ChangeShapes Go.WideShapes Go.Proofs.YtglfebpgdghlfaaDoorW.PrintWords Go.Proofs.YtglfebpgdghlfaaDoorW.PrintLast Go.Proofs.YtglfebpgdghlfaaDoorW.PrintMore
attribute [local go_sem] max2_int min2_int max_two min_two max_three min_three max_four min_four
theorem findS_no (l : List Spec) (k : Int) (h : ∀ i : Nat, 1 ≤ i → i < l.length → k ≠ (i : Int)) : findS l k = none := by
  unfold findS
  rw [if_pos]
  rcases Int.lt_or_le k 1 with h1 | h1
  · exact .inl h1
  · refine .inr ?_
    rcases Int.lt_or_le k l.length with h2 | h2
    · exact absurd (Int.toNat_of_nonneg (show 0 ≤ k by omega)).symm (h k.toNat (by omega) (by omega))
    · exact h2
set_option maxRecDepth 100000 in
set_option maxHeartbeats 4000000 in
theorem rspec_2 (k : Int) (w : World) : Calls Tryd.prog 40 #[.int .i64 2, .int .i64 k] w (SpecPost (Past w.heap.size) (findS newTab k) w) := by
  have HB := Aside0.mk (Below.refl w.heap.size w)
  have hu := Tryd.underlying66
  by_cases k1 : k = 1
  · subst k1
    have HE : Aside0 (findS newTab 1 = some ⟨[], 1, 0, -1⟩) := ⟨rfl⟩
    go_enter Tryd.func40, Tryd.ntmps40
    go_wp2
    rw [HE.out]
    exact bodyPost_ret (v := .tuple #[.agg #[.slice none 0 0, .int .i64 1, .int .i64 0, .int .i64 (-1)], .bool true]) (by simp [results, Tryd.results40, go_sem]) rfl ⟨none, 0, rfl, ⟨Nat.le_refl _, C_nil _ _⟩, Past.none _, by repeat (first | with_reducible exact HB.out | with_reducible apply below_alloc | with_reducible apply pw_below_drewN | with_reducible apply below_drew1 | (with_reducible refine below_set ?_ (by first | omega | (simp; omega))))⟩
  by_cases k2 : k = 2
  · subst k2
    have HE : Aside0 (findS newTab 2 = some ⟨[2, 2, 2], 0, 1, 1⟩) := ⟨rfl⟩
    go_enter Tryd.func40, Tryd.ntmps40
    go_wp2
    rw [HE.out]
    exact bodyPost_ret (v := .tuple #[.agg #[.slice (some ⟨w.heap.size + 2, 0, none⟩) 3 3, .int .i64 0, .int .i64 1, .int .i64 (1)], .bool true]) (by simp [results, Tryd.results40, go_sem]) rfl ⟨(some ⟨w.heap.size + 2, 0, none⟩), 3, rfl, ⟨Nat.le_refl _, C_ints _ 3 _ (by simp) [2, 2, 2] (by decide) rfl⟩, fun ad h => by cases h; simp, by repeat (first | with_reducible exact HB.out | with_reducible apply below_alloc | with_reducible apply pw_below_drewN | with_reducible apply below_drew1 | (with_reducible refine below_set ?_ (by first | omega | (simp; omega))))⟩
  by_cases k3 : k = 3
  · subst k3
    have HE : Aside0 (findS newTab 3 = some ⟨[3, 3, 3], 1, 0, 0⟩) := ⟨rfl⟩
    go_enter Tryd.func40, Tryd.ntmps40
    go_wp2
    rw [HE.out]
    exact bodyPost_ret (v := .tuple #[.agg #[.slice (some ⟨w.heap.size + 2, 0, none⟩) 3 3, .int .i64 1, .int .i64 0, .int .i64 (0)], .bool true]) (by simp [results, Tryd.results40, go_sem]) rfl ⟨(some ⟨w.heap.size + 2, 0, none⟩), 3, rfl, ⟨Nat.le_refl _, C_ints _ 3 _ (by simp) [3, 3, 3] (by decide) rfl⟩, fun ad h => by cases h; simp, by repeat (first | with_reducible exact HB.out | with_reducible apply below_alloc | with_reducible apply pw_below_drewN | with_reducible apply below_drew1 | (with_reducible refine below_set ?_ (by first | omega | (simp; omega))))⟩
  by_cases k4 : k = 4
  · subst k4
    have HE : Aside0 (findS newTab 4 = some ⟨[3], 1, 0, 0⟩) := ⟨rfl⟩
    go_enter Tryd.func40, Tryd.ntmps40
    go_wp2
    rw [HE.out]
    exact bodyPost_ret (v := .tuple #[.agg #[.slice (some ⟨w.heap.size + 2, 0, none⟩) 1 1, .int .i64 1, .int .i64 0, .int .i64 (0)], .bool true]) (by simp [results, Tryd.results40, go_sem]) rfl ⟨(some ⟨w.heap.size + 2, 0, none⟩), 1, rfl, ⟨Nat.le_refl _, C_ints _ 3 _ (by simp) [3] (by decide) rfl⟩, fun ad h => by cases h; simp, by repeat (first | with_reducible exact HB.out | with_reducible apply below_alloc | with_reducible apply pw_below_drewN | with_reducible apply below_drew1 | (with_reducible refine below_set ?_ (by first | omega | (simp; omega))))⟩
  by_cases k5 : k = 5
  · subst k5
    have HE : Aside0 (findS newTab 5 = some ⟨[3], 2, 0, 0⟩) := ⟨rfl⟩
    go_enter Tryd.func40, Tryd.ntmps40
    go_wp2
    rw [HE.out]
    exact bodyPost_ret (v := .tuple #[.agg #[.slice (some ⟨w.heap.size + 2, 0, none⟩) 1 1, .int .i64 2, .int .i64 0, .int .i64 (0)], .bool true]) (by simp [results, Tryd.results40, go_sem]) rfl ⟨(some ⟨w.heap.size + 2, 0, none⟩), 1, rfl, ⟨Nat.le_refl _, C_ints _ 3 _ (by simp) [3] (by decide) rfl⟩, fun ad h => by cases h; simp, by repeat (first | with_reducible exact HB.out | with_reducible apply below_alloc | with_reducible apply pw_below_drewN | with_reducible apply below_drew1 | (with_reducible refine below_set ?_ (by first | omega | (simp; omega))))⟩
  by_cases k6 : k = 6
  · subst k6
    have HE : Aside0 (findS newTab 6 = some ⟨[1], 0, 0, -1⟩) := ⟨rfl⟩
    go_enter Tryd.func40, Tryd.ntmps40
    go_wp2
    rw [HE.out]
    exact bodyPost_ret (v := .tuple #[.agg #[.slice (some ⟨w.heap.size + 2, 0, none⟩) 1 1, .int .i64 0, .int .i64 0, .int .i64 (-1)], .bool true]) (by simp [results, Tryd.results40, go_sem]) rfl ⟨(some ⟨w.heap.size + 2, 0, none⟩), 1, rfl, ⟨Nat.le_refl _, C_ints _ 3 _ (by simp) [1] (by decide) rfl⟩, fun ad h => by cases h; simp, by repeat (first | with_reducible exact HB.out | with_reducible apply below_alloc | with_reducible apply pw_below_drewN | with_reducible apply below_drew1 | (with_reducible refine below_set ?_ (by first | omega | (simp; omega))))⟩
  by_cases k7 : k = 7
  · subst k7
    have HE : Aside0 (findS newTab 7 = some ⟨[4, 4, 4, 5], 0, 0, 0⟩) := ⟨rfl⟩
    go_enter Tryd.func40, Tryd.ntmps40
    go_wp2
    rw [HE.out]
    exact bodyPost_ret (v := .tuple #[.agg #[.slice (some ⟨w.heap.size + 2, 0, none⟩) 4 4, .int .i64 0, .int .i64 0, .int .i64 (0)], .bool true]) (by simp [results, Tryd.results40, go_sem]) rfl ⟨(some ⟨w.heap.size + 2, 0, none⟩), 4, rfl, ⟨Nat.le_refl _, C_ints _ 3 _ (by simp) [4, 4, 4, 5] (by decide) rfl⟩, fun ad h => by cases h; simp, by repeat (first | with_reducible exact HB.out | with_reducible apply below_alloc | with_reducible apply pw_below_drewN | with_reducible apply below_drew1 | (with_reducible refine below_set ?_ (by first | omega | (simp; omega))))⟩
  by_cases k8 : k = 8
  · subst k8
    have HE : Aside0 (findS newTab 8 = some ⟨[2, 2, 2], 0, 1, 1⟩) := ⟨rfl⟩
    go_enter Tryd.func40, Tryd.ntmps40
    go_wp2
    rw [HE.out]
    exact bodyPost_ret (v := .tuple #[.agg #[.slice (some ⟨w.heap.size + 2, 0, none⟩) 3 3, .int .i64 0, .int .i64 1, .int .i64 (1)], .bool true]) (by simp [results, Tryd.results40, go_sem]) rfl ⟨(some ⟨w.heap.size + 2, 0, none⟩), 3, rfl, ⟨Nat.le_refl _, C_ints _ 3 _ (by simp) [2, 2, 2] (by decide) rfl⟩, fun ad h => by cases h; simp, by repeat (first | with_reducible exact HB.out | with_reducible apply below_alloc | with_reducible apply pw_below_drewN | with_reducible apply below_drew1 | (with_reducible refine below_set ?_ (by first | omega | (simp; omega))))⟩
  have HE : Aside0 (findS newTab k = none) := ⟨findS_no _ _ (fun i h1 h2 => by simp [newTab] at h2; omega)⟩
  go_enter Tryd.func40, Tryd.ntmps40
  go_wp2
  rw [HE.out]
  exact bodyPost_ret (v := .tuple #[.agg #[.slice none 0 0, .int .i64 0, .int .i64 0, .int .i64 0], .bool false]) (by simp [results, Tryd.results40, go_sem]) rfl ⟨none, 0, rfl, ⟨Nat.le_refl _, C_nil _ _⟩, Past.none _, by repeat (first | with_reducible exact HB.out | with_reducible apply below_alloc | with_reducible apply pw_below_drewN | with_reducible apply below_drew1 | (with_reducible refine below_set ?_ (by first | omega | (simp; omega))))⟩
end Go.Proofs.YtglfebpgdghlfaaDoor.L
end
section
namespace Go.Proofs.YtglfebpgdghlfaaDoor.L
open Go.RowKit Go.ChangeShapes Go.WideShapes Go.Proofs.YtglfebpgdghlfaaDoorW.PrintWords Go.Proofs.YtglfebpgdghlfaaDoorW.PrintLast Go.Proofs.YtglfebpgdghlfaaDoorW.PrintMore
attribute [local go_sem] max2_int min2_int max_two min_two max_three min_three max_four min_four
set_option maxRecDepth 100000 in
set_option maxHeartbeats 4000000 in
theorem rtyped_2 (A : Option Addr) (c : Nat) (s : Scene) (w : World) (h : kNode.C w A s.nodes.length s.nodes) (hS : ∀ i : Nat, i < s.nodes.length → Small (nd s.nodes i)) (hTS : ∀ i : Nat, i < s.nodes.length → TextsSmall (nd s.nodes i)) :
    Calls Tryd.prog 21 #[.agg #[.slice A s.nodes.length c, .int .i64 s.root], .int .i64 2] w fun e w' => e = .returned (.tuple #[.int .i64 (typedS newTab s.nodes).1, .int .i64 (typedS newTab s.nodes).2]) ∧ Below w.heap.size w w' := by
  have HR := Aside0.mk h
  have HS := Aside0.mk hS
  have HTS := Aside0.mk hTS
  have b0 := h.2.1
  have HB := Aside0.mk (below_alloc (Below.refl w.heap.size w) (.cells #[.slice A s.nodes.length c, .int .i64 s.root] 39))
  have k0 := box_cell w _ rfl #[.slice A s.nodes.length c, .int .i64 s.root] 39 0 (.slice A s.nodes.length c) rfl
  have HK := Aside0.mk k0
  have hu := Tryd.underlying39
  have hun := Tryd.underlying26
  have hus := Tryd.underlying66
  clear h hS hTS
  go_enter Tryd.func21, Tryd.ntmps21
  go_wp2
  clear k0
  go_loopw [6] (fun v6 W => ∃ i : Nat, i ≤ s.nodes.length ∧ v6 = .int .i64 i ∧ Aside0 (∀ j : Nat, j < i → nodeT newTab (nd s.nodes j) = 0) ∧ Aside0 (Below w.heap.size w W) ∧ Aside0 (W.cell? ⟨w.heap.size, 0, none⟩ = some (.slice A s.nodes.length c))) (fun v6 _ => s.nodes.length - (intOf v6).toNat)
  case atStart => exact ⟨0, by omega, rfl, ⟨fun j h => by omega⟩, HB, HK⟩
  case round =>
    clear HK HB
    obtain ⟨i, hi, rfl, HA, HW, HK⟩ := hrel
    have k0 := HK.out
    by_cases hlt : i < s.nodes.length
    · obtain ⟨adn, A1, c1, A2, c2, A3, c3, rfl, x0, x1, x2, x3, hN⟩ := at_node HR.out i hlt
      replace x0 := pw_cell_below HW.out x0
      replace x1 := pw_cell_below HW.out x1
      replace x2 := pw_cell_below HW.out x2
      replace x3 := pw_cell_below HW.out x3
      have HN := Aside0.mk hN
      clear hN
      go_wp2_with fail
      refine (rspec_2 (nd s.nodes i).kind _).mono ?_
      rintro e w6 ⟨A4, c4, rfl, hS6, -, hB6⟩
      have HB6 := Aside0.mk (below_step HW.out hB6)
      replace k0 := pw_cell_below hB6 k0
      replace x0 := pw_cell_below hB6 x0
      replace x1 := pw_cell_below hB6 x1
      replace x2 := pw_cell_below hB6 x2
      replace x3 := pw_cell_below hB6 x3
      cases hf : findS newTab (nd s.nodes i).kind with
      | none =>
        have HE := Aside0.mk (typedS_bad (tab := newTab) hlt HA.out (by unfold nodeT; rw [hf]; exact (by decide : ¬ (9 : Int) = 0)))
        have HE2 := Aside0.mk (show nodeT newTab (nd s.nodes i) = 9 from by unfold nodeT; rw [hf])
        clear hf hS6 hB6 x0 x1 x2 x3
        go_wp2
        go_ret2
        exact ⟨ret_pair (by rw [HE.out, HE2.out]), below_step HB6.out (below_alloc (Below.refl _ _) _)⟩
      | some sp =>
        have HE2 := Aside0.mk (show nodeT newTab (nd s.nodes i) = nodeErr (nd s.nodes i) sp from by unfold nodeT; rw [hf])
        rw [hf] at hS6
        have hbs := below_alloc (Below.refl w6.heap.size w6) (.cells #[.slice A4 sp.ints.length c4, .int .i64 sp.texts, .int .i64 sp.least, .int .i64 sp.most] 66)
        have q0 := box_cell w6 _ rfl #[.slice A4 sp.ints.length c4, .int .i64 sp.texts, .int .i64 sp.least, .int .i64 sp.most] 66 0 (.slice A4 sp.ints.length c4) rfl
        have q1 := box_cell w6 _ rfl #[.slice A4 sp.ints.length c4, .int .i64 sp.texts, .int .i64 sp.least, .int .i64 sp.most] 66 1 (.int .i64 sp.texts) rfl
        have q2 := box_cell w6 _ rfl #[.slice A4 sp.ints.length c4, .int .i64 sp.texts, .int .i64 sp.least, .int .i64 sp.most] 66 2 (.int .i64 sp.least) rfl
        have q3 := box_cell w6 _ rfl #[.slice A4 sp.ints.length c4, .int .i64 sp.texts, .int .i64 sp.least, .int .i64 sp.most] 66 3 (.int .i64 sp.most) rfl
        have HS6 := Aside0.mk (SpecC.below hS6 hbs)
        have HB7 := Aside0.mk (below_step HB6.out hbs)
        replace k0 := pw_cell_below hbs k0
        replace x0 := pw_cell_below hbs x0
        replace x1 := pw_cell_below hbs x1
        replace x2 := pw_cell_below hbs x2
        replace x3 := pw_cell_below hbs x3
        clear hf hS6 hB6 hbs
        go_wp2
        go_region_held3 (fun W => W.cell? ⟨w.heap.size, 0, none⟩ = some (.slice (some adn) s.nodes.length c) ∧ W.cell? (adn.add (i * 4)) = some (.int .i64 (nd s.nodes i).kind) ∧ W.cell? ⟨(adn.add (i * 4)).block, (adn.add (i * 4)).off + 1, none⟩ = some (.slice A1 (nd s.nodes i).ints.length c1) ∧ W.cell? ⟨(adn.add (i * 4)).block, (adn.add (i * 4)).off + 2, none⟩ = some (.slice A2 (nd s.nodes i).texts.length c2) ∧ W.cell? ⟨(adn.add (i * 4)).block, (adn.add (i * 4)).off + 3, none⟩ = some (.slice A3 (nd s.nodes i).kids.length c3) ∧
            W.cell? ⟨w6.heap.size, 0, none⟩ = some (.slice A4 sp.ints.length c4) ∧ W.cell? ⟨w6.heap.size, 1, none⟩ = some (.int .i64 sp.texts) ∧ W.cell? ⟨w6.heap.size, 2, none⟩ = some (.int .i64 sp.least) ∧ W.cell? ⟨w6.heap.size, 3, none⟩ = some (.int .i64 sp.most))
          (first
            | (go_split_ands
               (repeat' apply And.intro)
               all_goals first
                 | with_reducible assumption
                 | with_reducible exact pw_cell_below hB (by assumption)
                 | (simp [*]; done)))
          (first
            | (go_at_call 41; refine (rcheck_any (nd s.nodes i) A1 c1 A2 c2 A3 c3 sp A4 c4 _ (HN.out.below (below_drew HB7.out)) (SpecC.below HS6.out (below_drew (Below.refl _ _))) (HTS.out i hlt) (HS.out i hlt)).mono ?_; rintro e w8 ⟨rfl, hB8⟩; have hB := hB8))
        have HB8 := Aside0.mk (below_step (below_drew HB7.out) hB)
        have HK8 := Aside0.mk (pw_cell_below hB (show (w6.alloc _).drew.cell? _ = _ from k0))
        clear hB x0 x1 x2 x3 q0 q1 q2 q3 k0
        by_cases hz : nodeErr (nd s.nodes i) sp = 0
        · have HA2 := Aside0.mk (ext_lt HA.out (HE2.out.trans hz))
          rw [hz]
          clear hz
          go_wp2
          go_roundw
          case rel => exact ⟨i + 1, by omega, by go_num, HA2, HB8, HK8⟩
          case measure => simp [intOf]; omega
        · have HE := Aside0.mk (typedS_bad (tab := newTab) hlt HA.out (by rw [HE2.out]; exact hz))
          have dz : (nodeErr (nd s.nodes i) sp != 0) = true := by simpa using hz
          clear hz
          go_wp2
          go_ret2
          exact ⟨ret_pair (by rw [HE.out, HE2.out]), HB8.out⟩
    · obtain rfl : i = s.nodes.length := by omega
      have HE := Aside0.mk (typedS_ok (tab := newTab) HA.out)
      go_wp2
      go_ret2
      exact ⟨ret_pair HE.out, HW.out⟩
end Go.Proofs.YtglfebpgdghlfaaDoor.L
end
section
namespace Go.Proofs.YtglfebpgdghlfaaDoor.L
open Go.RowKit Go.ChangeShapes Go.WideShapes Go.Proofs.YtglfebpgdghlfaaDoorW.PrintWords Go.Proofs.YtglfebpgdghlfaaDoorW.PrintLast Go.Proofs.YtglfebpgdghlfaaDoorW.PrintMore
attribute [local go_sem] max2_int min2_int max_two min_two max_three min_three max_four min_four
noncomputable def rightB (s : Scene) : Bool := (gcheck s).1 == 0
set_option maxRecDepth 100000 in
theorem rright_any (A : Option Addr) (c : Nat) (s : Scene) (w : World) (h : kNode.C w A s.nodes.length s.nodes) (hc : s.nodes.length ≤ c) (hM : rows s.nodes ≤ 1000000) :
    Calls Tryd.prog 50 #[.agg #[.slice A s.nodes.length c, .int .i64 s.root]] w fun e w' => e = .returned (.bool (rightB s)) ∧ Below w.heap.size w w' := by
  have HR := Aside0.mk h
  have HB := Aside0.mk (below_alloc (Below.refl w.heap.size w) (.cells #[.slice A s.nodes.length c, .int .i64 s.root] 39))
  have k0 := box_cell w _ rfl #[.slice A s.nodes.length c, .int .i64 s.root] 39 0 (.slice A s.nodes.length c) rfl
  have k1 := box_cell w _ rfl #[.slice A s.nodes.length c, .int .i64 s.root] 39 1 (.int .i64 s.root) rfl
  have hu := Tryd.underlying39
  have HE := Aside0.mk (show rightB s = ((gcheck s).1 == 0) from rfl)
  clear h
  go_enter Tryd.func50, Tryd.ntmps50
  go_wp2_with fail
  refine (rchk_any A c s _ (Kd.C_below HR.out HB.out) hc hM).mono ?_
  rintro e w1 ⟨rfl, hB1⟩
  have HB1 := Aside0.mk (below_step HB.out hB1)
  clear hB1 k0 k1
  generalize (gcheck s).1 = g at HE ⊢
  generalize (gcheck s).2 = g2
  go_wp2
  go_ret
  exact ⟨ret_bool HE.out.symm, HB1.out⟩
end Go.Proofs.YtglfebpgdghlfaaDoor.L
end
section
namespace Go.Proofs.YtglfebpgdghlfaaDoor.L
open Go.RowKit Go.ChangeShapes Go.WideShapes Go.Proofs.YtglfebpgdghlfaaDoorW.PrintWords Go.Proofs.YtglfebpgdghlfaaDoorW.PrintLast Go.Proofs.YtglfebpgdghlfaaDoorW.PrintMore
attribute [local go_sem] max2_int min2_int max_two min_two max_three min_three max_four min_four
open Go.Proofs.YtglfebpgdghlfaaDoor.PUpgradeUps
theorem refN_len (ns : List Node) (l : List Int) : (refCanL ns l).length = l.length := by simp [refCanL]
theorem take_succ_map {α β : Type} (f : α → β) (l : List α) (i : Nat) (h : i < l.length) : (l.map f).take (i + 1) = (l.map f).take i ++ [f l[i]] := by
  rw [List.take_succ_eq_append_getElem (by simpa using h)]
  simp
set_option maxRecDepth 100000 in
set_option maxHeartbeats 8000000 in
theorem rcanon_any (A : Option Addr) (c : Nat) (s : Scene) (l : List Int) (k : Nat) (w : World) (h : kNode.C w A s.nodes.length s.nodes) (hc : s.nodes.length ≤ c) (hS : ∀ i : Nat, i < s.nodes.length → Small (nd s.nodes i))
    (ho : dioramaref10_Order.f k (s.nodes.map toS) s.root = some l) (hl : l.length ≤ 1000000) (hp : ∀ x ∈ l, 0 ≤ x ∧ x < (s.nodes.length : Int)) :
    Calls Tryd.prog 33 #[.agg #[.slice A s.nodes.length c, .int .i64 s.root]] w (SceneRPost ⟨refCanL s.nodes l, (l.length : Int) - 1⟩ w) := by
  have HR := Aside0.mk h
  have HSm := Aside0.mk hS
  have HO := Aside0.mk ho
  have HP := Aside0.mk hp
  have HCc := Aside0.mk hc
  have b0 := h.2.1
  have HB := Aside0.mk (below_alloc (below_alloc (Below.refl w.heap.size w) (.cells #[.slice A s.nodes.length c, .int .i64 s.root] 39)) (.cells #[.slice none 0 0, .int .i64 0] 39))
  have k0 := box_cell2 w _ rfl #[.slice A s.nodes.length c, .int .i64 s.root] 39 (.cells #[.slice none 0 0, .int .i64 0] 39) 0 (.slice A s.nodes.length c) rfl
  have k1 := box_cell2 w _ rfl #[.slice A s.nodes.length c, .int .i64 s.root] 39 (.cells #[.slice none 0 0, .int .i64 0] 39) 1 (.int .i64 s.root) rfl
  have HL := Aside0.mk (show ((w.alloc (.cells #[.slice A s.nodes.length c, .int .i64 s.root] 39)).alloc (.cells #[.slice none 0 0, .int .i64 0] 39)).heap[w.heap.size + 1]? = some (.cells #[.slice none 0 0, .int .i64 0] 39 (0, 0)) from by
    have := heap_alloc_new (w.alloc (.cells #[.slice A s.nodes.length c, .int .i64 s.root] 39)) (.cells #[.slice none 0 0, .int .i64 0] 39)
    simpa using this)
  have hu := Tryd.underlying39
  have hun := Tryd.underlying26
  clear h hc hS ho hp
  go_enter Tryd.func33, Tryd.ntmps33
  go_wp2_with fail
  have hml : (s.nodes.map toS).length = s.nodes.length := List.length_map ..
  have hcall := dioramaref10_Order.calls k A c (s.nodes.map toS) s.root l ((w.alloc (.cells #[.slice A s.nodes.length c, .int .i64 s.root] 39)).alloc (.cells #[.slice none 0 0, .int .i64 0] 39)) (by rw [hml]; exact C_to (Kd.C_below HR.out HB.out)) (by rw [hml]; exact HCc.out) HO.out
  rw [hml] at hcall
  refine hcall.mono ?_
  clear hcall hml
  rintro e w1 ⟨v, rfl, hV, hB1⟩
  obtain ⟨A3, c3, rfl⟩ := Kd.V_slice hV
  have HV := Aside0.mk (Kd.V_reads' hV)
  have hlc : l.length ≤ c3 := HV.out.2.1
  have HB1 := Aside0.mk (below_step HB.out hB1)
  have HL1 := Aside0.mk ((hB1.block _ (blk_lt HL.out)).trans HL.out)
  have HK1 := Aside0.mk (pw_cell_below hB1 k0)
  have HI := Aside0.mk (CnRel.start w1 ((l.length : Int) - 1))
  have hw1 : IntKind.i64.wrap ((l.length : Int) - 1) = (l.length : Int) - 1 := wrap_i (by omega) (by omega)
  clear hV hB1 k0 k1 HL HB
  go_wp2
  generalize w1.alloc (.cells #[.slice none 0 0, .int .i64 ((l.length : Int) - 1)] 39) = W5 at HI ⊢
  go_loopw [5] (fun v5 W => ∃ i : Nat, i ≤ l.length ∧ v5 = .int .i64 i ∧ ∃ A4 c4, Aside0 (CnRel w1 ((l.length : Int) - 1) ((refCanL s.nodes l).take i) (.slice A4 i c4) W)) (fun v5 _ => l.length - (intOf v5).toNat)
  case atStart => exact ⟨0, by omega, rfl, none, 0, by rw [List.take_zero]; exact HI⟩
  case round =>
    clear HI
    obtain ⟨i, hi, rfl, A4, c4, HI⟩ := hrel
    by_cases hlt : i < l.length
    · obtain ⟨adl, rfl, z0⟩ := at_nat (Kd.C_below HV.out.2.2 HI.out.below) i hlt
      have hpi := HP.out _ (rd_mem hlt)
      obtain ⟨q, hq⟩ : ∃ q : Nat, rd l (i : Int) = (q : Int) := ⟨(rd l (i : Int)).toNat, by omega⟩
      rw [hq] at z0 hpi
      have hqn : q < s.nodes.length := by omega
      have HRN : Aside0 ((refCanL s.nodes l).take (i + 1) = (refCanL s.nodes l).take i ++ [⟨(nd s.nodes q).kind, (nd s.nodes q).ints, (nd s.nodes q).texts, (nd s.nodes q).kids.map (findI l)⟩]) := ⟨by
        unfold refCanL
        rw [take_succ_map _ _ _ hlt]
        have : l[i] = (q : Int) := by rw [← hq, rd_eq hlt]
        rw [this]; unfold refN; rw [Int.toNat_natCast]⟩
      clear hq hpi
      obtain ⟨adn, A1, c1, A2, c2, A5, c5, rfl, x0, x1, x2, x3, hN⟩ := at_node HR.out q hqn
      have k0 := pw_cell_below HI.out.below HK1.out
      have HW := Aside0.mk (below_step HB1.out HI.out.below)
      replace x0 := pw_cell_below HW.out x0
      replace x1 := pw_cell_below HW.out x1
      replace x2 := pw_cell_below HW.out x2
      replace x3 := pw_cell_below HW.out x3
      have HN := Aside0.mk hN
      clear hN
      have HSq := Aside0.mk (HSm.out q hqn)
      have hbz : (wr.alloc (.cells #[.int .i64 0, .slice none 0 0, .slice none 0 0, .slice none 0 0] 26)).drew.heap[wr.heap.size]? = some (.cells #[.int .i64 0, .slice none 0 0, .slice none 0 0, .slice none 0 0] 26 (0, 0)) := by
        show (wr.alloc _).heap[wr.heap.size]? = _
        simpa using heap_alloc_new wr _
      have HBZ := Aside0.mk hbz
      have hbA := below_drew (below_alloc (Below.refl wr.heap.size wr) (.cells #[.int .i64 0, .slice none 0 0, .slice none 0 0, .slice none 0 0] 26))
      have HBA := Aside0.mk hbA
      have n0 : wr.heap.size ≠ w.heap.size := World.new_ne wr _ k0
      have n1 := World.new_ne wr _ z0
      have n2 := World.new_ne wr _ x0
      clear hbz hbA
      have k0d : wr.drew.cell? ⟨w.heap.size, 0, none⟩ = some (.slice (some adn) s.nodes.length c) := k0
      have k0a : (wr.alloc (.cells #[.int .i64 0, .slice none 0 0, .slice none 0 0, .slice none 0 0] 26)).drew.cell? ⟨w.heap.size, 0, none⟩ = some (.slice (some adn) s.nodes.length c) := pw_cell_below HBA.out k0
      have z0d : wr.drew.cell? (adl.add i) = some (.int .i64 q) := z0
      have z0a : (wr.alloc (.cells #[.int .i64 0, .slice none 0 0, .slice none 0 0, .slice none 0 0] 26)).drew.cell? (adl.add i) = some (.int .i64 q) := pw_cell_below HBA.out z0
      have x0d : wr.drew.cell? (adn.add (q * 4)) = some (.int .i64 (nd s.nodes q).kind) := x0
      have x0a : (wr.alloc (.cells #[.int .i64 0, .slice none 0 0, .slice none 0 0, .slice none 0 0] 26)).drew.cell? (adn.add (q * 4)) = some (.int .i64 (nd s.nodes q).kind) := pw_cell_below HBA.out x0
      have x1d : wr.drew.cell? ⟨(adn.add (q * 4)).block, (adn.add (q * 4)).off + 1, none⟩ = some (.slice A1 (nd s.nodes q).ints.length c1) := x1
      have x1a : (wr.alloc (.cells #[.int .i64 0, .slice none 0 0, .slice none 0 0, .slice none 0 0] 26)).drew.cell? ⟨(adn.add (q * 4)).block, (adn.add (q * 4)).off + 1, none⟩ = some (.slice A1 (nd s.nodes q).ints.length c1) := pw_cell_below HBA.out x1
      have x2d : wr.drew.cell? ⟨(adn.add (q * 4)).block, (adn.add (q * 4)).off + 2, none⟩ = some (.slice A2 (nd s.nodes q).texts.length c2) := x2
      have x2a : (wr.alloc (.cells #[.int .i64 0, .slice none 0 0, .slice none 0 0, .slice none 0 0] 26)).drew.cell? ⟨(adn.add (q * 4)).block, (adn.add (q * 4)).off + 2, none⟩ = some (.slice A2 (nd s.nodes q).texts.length c2) := pw_cell_below HBA.out x2
      have x3d : wr.drew.cell? ⟨(adn.add (q * 4)).block, (adn.add (q * 4)).off + 3, none⟩ = some (.slice A5 (nd s.nodes q).kids.length c5) := x3
      have x3a : (wr.alloc (.cells #[.int .i64 0, .slice none 0 0, .slice none 0 0, .slice none 0 0] 26)).drew.cell? ⟨(adn.add (q * 4)).block, (adn.add (q * 4)).off + 3, none⟩ = some (.slice A5 (nd s.nodes q).kids.length c5) := pw_cell_below HBA.out x3
      go_wp2
      go_region_held3 (fun W => W.cell? ⟨w.heap.size, 0, none⟩ = some (.slice (some adn) s.nodes.length c) ∧ W.cell? (adl.add i) = some (.int .i64 q) ∧ W.cell? (adn.add (q * 4)) = some (.int .i64 (nd s.nodes q).kind) ∧ W.cell? ⟨(adn.add (q * 4)).block, (adn.add (q * 4)).off + 1, none⟩ = some (.slice A1 (nd s.nodes q).ints.length c1) ∧ W.cell? ⟨(adn.add (q * 4)).block, (adn.add (q * 4)).off + 2, none⟩ = some (.slice A2 (nd s.nodes q).texts.length c2) ∧ W.cell? ⟨(adn.add (q * 4)).block, (adn.add (q * 4)).off + 3, none⟩ = some (.slice A5 (nd s.nodes q).kids.length c5))
        (first
          | (go_split_ands
             (repeat' apply And.intro)
             all_goals first
               | with_reducible assumption
               | with_reducible exact pw_cell_below hB (by assumption)
               | with_reducible exact pw_cell_below (below_alloc (Below.refl _ _) _) (pw_cell_below hB k0d)
               | with_reducible exact pw_cell_below (below_alloc (Below.refl _ _) _) (pw_cell_below hB z0d)
               | with_reducible exact pw_cell_below (below_alloc (Below.refl _ _) _) (pw_cell_below hB x0d)
               | with_reducible exact pw_cell_below (below_alloc (Below.refl _ _) _) (pw_cell_below hB x1d)
               | with_reducible exact pw_cell_below (below_alloc (Below.refl _ _) _) (pw_cell_below hB x2d)
               | with_reducible exact pw_cell_below (below_alloc (Below.refl _ _) _) (pw_cell_below hB x3d)
               | with_reducible exact far_set (far_set (far_set (far_set (by assumption) _ _ (by assumption) _) _ _ (by assumption) _) _ _ (by assumption) _) _ _ (by assumption) _
               | (simp [*]; done)))
        (first
          | (go_at_call 13; refine (rcopy_any (nd s.nodes q) A1 c1 A2 c2 A5 c5 wr.drew (HN.out.below (below_drew HW.out)) HSq.out).mono ?_; rintro e w6 ⟨_, rfl, ⟨v1, v2, v3, rfl, hM⟩, hB⟩; obtain ⟨v1', v2', v3', ev, hR1, hR2, hR3⟩ := kNode_openM hM; injection ev with _ ev; injection ev with e1 ev; injection ev with e2 ev; injection ev with e3 _; subst e1 e2 e3; obtain ⟨B1, d1, rfl⟩ := Kd.R_slice hR1; obtain ⟨B2, d2, rfl⟩ := Kd.R_slice hR2; obtain ⟨B3, d3, rfl⟩ := Kd.R_slice hR3)
          | (go_at_call 13; refine (rcopy_any (nd s.nodes q) A1 c1 A2 c2 A5 c5 (wr.alloc (.cells #[.int .i64 0, .slice none 0 0, .slice none 0 0, .slice none 0 0] 26)).drew (HN.out.below (below_step HW.out HBA.out)) HSq.out).mono ?_; rintro e w6 ⟨_, rfl, ⟨v1, v2, v3, rfl, hM⟩, hB⟩; obtain ⟨v1', v2', v3', ev, hR1, hR2, hR3⟩ := kNode_openM hM; injection ev with _ ev; injection ev with e1 ev; injection ev with e2 ev; injection ev with e3 _; subst e1 e2 e3; obtain ⟨B1, d1, rfl⟩ := Kd.R_slice hR1; obtain ⟨B2, d2, rfl⟩ := Kd.R_slice hR2; obtain ⟨B3, d3, rfl⟩ := Kd.R_slice hR3; have hb6 := (hB.block _ (blk_lt HBZ.out)).trans HBZ.out; have f0 := (blk_cell hb6 0).trans rfl; have f0f := blk_frozen hb6 0; have f1 := (blk_cell (blk_set hb6 0 (.int .i64 (nd s.nodes q).kind)) 1).trans rfl; have f1f := blk_frozen (blk_set hb6 0 (.int .i64 (nd s.nodes q).kind)) 1; have f2 := (blk_cell (blk_set (blk_set hb6 0 (.int .i64 (nd s.nodes q).kind)) 1 (.slice B1 (nd s.nodes q).ints.length d1)) 2).trans rfl; have f2f := blk_frozen (blk_set (blk_set hb6 0 (.int .i64 (nd s.nodes q).kind)) 1 (.slice B1 (nd s.nodes q).ints.length d1)) 2; have f3 := (blk_cell (blk_set (blk_set (blk_set hb6 0 (.int .i64 (nd s.nodes q).kind)) 1 (.slice B1 (nd s.nodes q).ints.length d1)) 2 (.slice B2 (nd s.nodes q).texts.length d2)) 3).trans rfl; have f3f := blk_frozen (blk_set (blk_set (blk_set hb6 0 (.int .i64 (nd s.nodes q).kind)) 1 (.slice B1 (nd s.nodes q).ints.length d1)) 2 (.slice B2 (nd s.nodes q).texts.length d2)) 3))
      have HK : Aside0 (KidB (findI l) (nd s.nodes q) (.slice B1 (nd s.nodes q).ints.length d1) (.slice B2 (nd s.nodes q).texts.length d2) (.slice B3 (nd s.nodes q).kids.length d3) 0 w6.heap.size wr (w6.alloc (.cells #[.int .i64 (nd s.nodes q).kind, .slice B1 (nd s.nodes q).ints.length d1, .slice B2 (nd s.nodes q).texts.length d2, .slice B3 (nd s.nodes q).kids.length d3] 26))) := ⟨⟨below_step ((below_drew (Below.refl _ _)).trans hB) (below_alloc (Below.refl _ _) _), hB.size, by simpa using heap_alloc_new w6 _, Kd.R_alloc hR1 _, Kd.R_alloc hR2 _, by rw [mapTake_zero]; exact Kd.R_alloc hR3 _⟩⟩
      clear hM hR1 hR2 hR3 hB k0 z0 x0 x1 x2 x3 k0d z0d x0d x1d x2d x3d k0a z0a x0a x1a x2a x3a n0 n1 n2
      generalize (w6.alloc (.cells #[.int .i64 (nd s.nodes q).kind, .slice B1 (nd s.nodes q).ints.length d1, .slice B2 (nd s.nodes q).texts.length d2, .slice B3 (nd s.nodes q).kids.length d3] 26)) = W7 at HK ⊢
      generalize w6.heap.size = g6 at HK ⊢
      rotate_left
      have HK : Aside0 (KidB (findI l) (nd s.nodes q) (.slice B1 (nd s.nodes q).ints.length d1) (.slice B2 (nd s.nodes q).texts.length d2) (.slice B3 (nd s.nodes q).kids.length d3) 0 wr.heap.size wr ((((w6.setCell ⟨wr.heap.size, 0, none⟩ (.int .i64 (nd s.nodes q).kind)).setCell ⟨wr.heap.size, 1, none⟩ (.slice B1 (nd s.nodes q).ints.length d1)).setCell ⟨wr.heap.size, 2, none⟩ (.slice B2 (nd s.nodes q).texts.length d2)).setCell ⟨wr.heap.size, 3, none⟩ (.slice B3 (nd s.nodes q).kids.length d3))) := ⟨by
        have hlt2 : wr.heap.size < (wr.alloc (.cells #[.int .i64 0, .slice none 0 0, .slice none 0 0, .slice none 0 0] 26)).drew.heap.size := by show _ < (wr.alloc _).heap.size; simp
        exact ⟨below_set4 (below_step HBA.out hB) (Nat.le_refl _), Nat.le_refl _, box4 hb6 _ _ _ _, Kd.R_lower (R_old4 hR1 hlt2 _ _ _ _) (Nat.le_of_lt hlt2), Kd.R_lower (R_old4 hR2 hlt2 _ _ _ _) (Nat.le_of_lt hlt2), by rw [mapTake_zero]; exact Kd.R_lower (R_old4 hR3 hlt2 _ _ _ _) (Nat.le_of_lt hlt2)⟩⟩
      clear hM hR1 hR2 hR3 hB k0 z0 x0 x1 x2 x3 k0d z0d x0d x1d x2d x3d k0a z0a x0a x1a x2a x3a n0 n1 n2 hb6 f0 f0f f1 f1f f2 f2f f3 f3f
      generalize ((((w6.setCell ⟨wr.heap.size, 0, none⟩ (.int .i64 (nd s.nodes q).kind)).setCell ⟨wr.heap.size, 1, none⟩ (.slice B1 (nd s.nodes q).ints.length d1)).setCell ⟨wr.heap.size, 2, none⟩ (.slice B2 (nd s.nodes q).texts.length d2)).setCell ⟨wr.heap.size, 3, none⟩ (.slice B3 (nd s.nodes q).kids.length d3)) = W7 at HK ⊢
      generalize hg6 : wr.heap.size = g6 at HK ⊢
      all_goals
        obtain ⟨W0, hW0⟩ : ∃ W, W = wr := ⟨_, rfl⟩
        have HW0 := Aside0.mk hW0
        rw [← hW0] at HI HK HW
        have hkl : (nd s.nodes q).kids.length ≤ 1000000 := HSq.out.2.2
        clear hW0 HBZ HBA
        go_wp2
        go_loopw [7] (fun v7 W => ∃ j : Nat, j ≤ (nd s.nodes q).kids.length ∧ v7 = .int .i64 j ∧ Aside0 (KidB (findI l) (nd s.nodes q) (.slice B1 (nd s.nodes q).ints.length d1) (.slice B2 (nd s.nodes q).texts.length d2) (.slice B3 (nd s.nodes q).kids.length d3) j g6 W0 W)) (fun v7 _ => (nd s.nodes q).kids.length - (intOf v7).toNat)
        case atStart => exact ⟨0, by omega, rfl, HK⟩
        case round =>
          clear HK
          obtain ⟨j, hj, rfl, HJ⟩ := hrel
          have hq3 : wr.cell? ⟨g6, 3, none⟩ = some (.slice B3 (nd s.nodes q).kids.length d3) := (blk_cell HJ.out.box 3).trans rfl
          by_cases hjl : j < (nd s.nodes q).kids.length
          · obtain ⟨g7, c7', hv, -⟩ := Kd.R_form HJ.out.r3 (by rw [mapTake_len]; omega)
            injection hv with hA hmm hcc
            clear hmm
            subst hA hcc
            obtain ⟨s1, s2, s3, -⟩ := HJ.out.set hjl
            have HLs := Aside0.mk (Kd.C_below HV.out.2.2 (below_step HI.out.below HJ.out.below))
            go_wp2
            go_region_with (first
                | (go_at_call 61; refine (find_C (some adl) c3 l (rd (nd s.nodes q).kids (j : Int)) _ (Kd.C_drew HLs.out) hlc hl).mono ?_; rintro e w8 ⟨rfl, ⟨nn, rfl⟩⟩; obtain ⟨t1, t2, -, t4⟩ := (HJ.out.drewN (1 + nn)).set hjl))
            all_goals
              have HS4 := Aside0.mk t4
              clear t1 t2 t4 s1 s2 hq3
              go_wp2
              go_roundw
              case rel => exact ⟨j + 1, by omega, by go_num, HS4⟩
              case measure => simp [intOf]; omega
          · obtain rfl : j = (nd s.nodes q).kids.length := by omega
            have HI7 := Aside0.mk (HI.out.later HJ.out.below)
            have q0 := (blk_cell HJ.out.box 0).trans rfl
            have q1 := (blk_cell HJ.out.box 1).trans rfl
            have q2 := (blk_cell HJ.out.box 2).trans rfl
            have o0 := (blk_cell HI7.out.out 0).trans rfl
            have hsz1 := HI.out.below.size
            have HMk := Aside0.mk (node_off (n := ⟨(nd s.nodes q).kind, (nd s.nodes q).ints, (nd s.nodes q).texts, (nd s.nodes q).kids.map (findI l)⟩) (Kd.R_lower HJ.out.r1 hsz1) (Kd.R_lower HJ.out.r2 hsz1) (Kd.R_lower (by have h := HJ.out.r3; rw [mapTake_all] at h; exact h) hsz1) HI7.out.row)
            have hlnx : ((refCanL s.nodes l).take i).length ≤ 1000000 := by rw [List.length_take, refN_len]; omega
            have hln : ((refCanL s.nodes l).take (i + 1)).length = i + 1 := by rw [List.length_take, refN_len]; omega
            go_wp2_with (at_builtin; refine Kd.R_append kNode (w0 := w1) w1.heap.size rfl (.tmp 48) (.tmp 50) 30 26 (.agg #[.int .i64 0, .slice none 0 0, .slice none 0 0, .slice none 0 0]) 80 rfl Tryd.underlying30 info_nodez rfl (by decide) (by omega) (.slice A4 i c4) ((refCanL s.nodes l).take i) ⟨(nd s.nodes q).kind, (nd s.nodes q).ints, (nd s.nodes q).texts, (nd s.nodes q).kids.map (findI l)⟩ [.int .i64 (nd s.nodes q).kind, .slice B1 (nd s.nodes q).ints.length d1, .slice B2 (nd s.nodes q).texts.length d2, .slice B3 (nd s.nodes q).kids.length d3] (fun _ => True) (fun k => some k ≠ (Value.slice A4 i c4).ownBlock) rfl (by go_simp) HMk.out (fun k hk => ⟨trivial, hk⟩) (fun _ _ => trivial) HI7.out.row HI7.out.below HI7.out.below.size (by omega) ?_; intro v5 w8 hR8 hB8 hg8 hat8; rw [← HRN.out] at hR8; obtain ⟨A5', c5', rfl⟩ := Kd.R_slice hR8; rw [hln] at hR8 ⊢; obtain ⟨hb8, hN8⟩ := HI7.out.put hR8 hB8 hg8; have HN8 := Aside0.mk hN8; have y0 := (blk_cell hb8 0).trans rfl; have y0f := blk_frozen hb8 0; clear hR8 hB8 hg8 hat8 hN8 q0 q1 q2 o0 hq3)
            go_roundw
            case rel => exact ⟨i + 1, by omega, by go_num, A5', c5', HN8⟩
            case measure => simp [intOf]; omega
    · obtain rfl : i = l.length := by omega
      have hlall : (refCanL s.nodes l).take l.length = refCanL s.nodes l := List.take_of_length_le (Nat.le_of_eq (refN_len _ _))
      have o0 := (blk_cell HI.out.out 0).trans rfl
      have o1 := (blk_cell HI.out.out 1).trans rfl
      have hres := (HI.out.below.block _ (blk_lt HL1.out)).trans HL1.out
      have l0 := (blk_cell hres 0).trans rfl
      have l0f := blk_frozen hres 0
      have l1 := (blk_cell (blk_set hres 0 (.slice A4 l.length c4)) 1).trans rfl
      have l1f := blk_frozen (blk_set hres 0 (.slice A4 l.length c4)) 1
      go_wp2
      have h2 := And.intro ((blk_cell (box2 hres (.slice A4 l.length c4) (.int .i64 ((l.length : Int) - 1))) 0).trans rfl) ((blk_cell (box2 hres (.slice A4 l.length c4) (.int .i64 ((l.length : Int) - 1))) 1).trans rfl)
      have hRR := Kd.R_lower (R_type (R_type HI.out.row hres (by decide) (.slice A4 l.length c4) 0) (blk_set hres 0 _) (by decide) (.int .i64 ((l.length : Int) - 1)) 1) HB1.out.size
      rw [hlall] at hRR
      exact bodyPost_ret (v := .agg #[.slice A4 l.length c4, .int .i64 ((l.length : Int) - 1)]) (by simp [results, Tryd.results33, go_sem, h2]) rfl
        ⟨A4, c4, by rw [refN_len], by rw [refN_len]; exact hRR, below_set2 (below_step HB1.out HI.out.below) (by omega)⟩
end Go.Proofs.YtglfebpgdghlfaaDoor.L
end
section
namespace Go.Proofs.YtglfebpgdghlfaaDoor.L
open Go.RowKit Go.ChangeShapes Go.WideShapes Go.Proofs.YtglfebpgdghlfaaDoorW.PrintWords Go.Proofs.YtglfebpgdghlfaaDoorW.PrintLast Go.Proofs.YtglfebpgdghlfaaDoorW.PrintMore
attribute [local go_sem] max2_int min2_int max_two min_two max_three min_three max_four min_four
theorem nd_mem' (l : List Node) (k : Nat) (hk : k < l.length) : nd l k ∈ l := by
  unfold nd
  rw [List.getD_eq_getElem?_getD, List.getElem?_eq_getElem hk]
  exact List.getElem_mem hk
theorem isC_not {s : Scene} (h : rightB s = false) : isC s = false := by
  refine Bool.eq_false_iff.2 fun hc => ?_
  have h1 := gcheck_right.2 (isC_right hc)
  unfold rightB at h
  rw [h1] at h
  simp at h
set_option maxRecDepth 100000 in
set_option maxHeartbeats 4000000 in
theorem ris_any (A : Option Addr) (c : Nat) (s : Scene) (w : World) (h : kNode.C w A s.nodes.length s.nodes) (hc : s.nodes.length ≤ c) (hM : rows s.nodes ≤ 400000) (hS : ∀ i : Nat, i < s.nodes.length → Small (nd s.nodes i)) :
    Calls Tryd.prog 56 #[.agg #[.slice A s.nodes.length c, .int .i64 s.root]] w fun e w' => e = .returned (.bool (isC s)) ∧ Below w.heap.size w w' := by
  have HR := Aside0.mk h
  have HSm := Aside0.mk hS
  have HM := Aside0.mk hM
  have HCc := Aside0.mk hc
  have HB := Aside0.mk (below_alloc (Below.refl w.heap.size w) (.cells #[.slice A s.nodes.length c, .int .i64 s.root] 39))
  have k0 := box_cell w _ rfl #[.slice A s.nodes.length c, .int .i64 s.root] 39 0 (.slice A s.nodes.length c) rfl
  have k1 := box_cell w _ rfl #[.slice A s.nodes.length c, .int .i64 s.root] 39 1 (.int .i64 s.root) rfl
  have hu := Tryd.underlying39
  clear h hS hM hc
  cases hr : rightB s with
  | false =>
    have HI := Aside0.mk (isC_not hr)
    have HRb := Aside0.mk hr
    clear hr
    go_enter Tryd.func56, Tryd.ntmps56
    go_wp2
    go_region_with (first
        | (go_at_call 50; refine (rright_any A c s _ (Kd.C_drew (Kd.C_below HR.out HB.out)) HCc.out (by have := HM.out; omega)).mono ?_; rw [HRb.out]; rintro e w7 ⟨rfl, hB⟩; have HB7 := Aside0.mk (below_step (below_drew HB.out) hB); clear hB))
    all_goals
      clear k0 k1
      go_wp2
      go_ret
      exact ⟨ret_bool HI.out.symm, HB7.out⟩
  | true =>
    have hR : Right s := gcheck_right.1 (by unfold rightB at hr; simpa using hr)
    have HRt := Aside0.mk hR
    have HRb := Aside0.mk hr
    have HI := Aside0.mk (show sameS ⟨canonL s, (s.nodes.length : Int) - 1⟩ s = isC s from by
      cases hic : isC s with
      | true => exact sameS_yes ((isC_iff hR).1 hic)
      | false => exact sameS_no (fun e => by rw [(isC_iff hR).2 e] at hic; cases hic))
    have HCn := Aside0.mk (show (⟨refCanL s.nodes (ord s), ((ord s).length : Int) - 1⟩ : Scene) = ⟨canonL s, (s.nodes.length : Int) - 1⟩ from by rw [refCan_eq hR.dag ⟨hR.r0, hR.r1⟩, ord_len hR])
    have HOl := Aside0.mk (ord_len hR)
    have HSc := Aside0.mk (show ∀ i : Nat, i < (canonL s).length → Small (nd (canonL s) i) from fun i hi => by
      have hm := nd_mem' (canonL s) i hi
      generalize nd (canonL s) i = x at hm
      obtain ⟨q, hq, rfl⟩ := List.mem_map.1 hm
      have hpl := ord_pl hR q hq
      have h1 := HSm.out q.toNat (by have := hpl.1; have := hpl.2; omega)
      exact ⟨h1.1, h1.2.1, by show (List.map _ _).length ≤ _; rw [List.length_map]; exact h1.2.2⟩)
    have hnl := Aside0.mk (len_rows s.nodes)
    clear hr hR
    go_enter Tryd.func56, Tryd.ntmps56
    go_wp2
    go_region_with (first
        | (go_at_call 50; refine (rright_any A c s _ (Kd.C_drew (Kd.C_below HR.out HB.out)) HCc.out (by have := HM.out; omega)).mono ?_; rw [HRb.out]; rintro e w7 ⟨rfl, hB⟩; have k07 := pw_cell_below hB (show World.cell? (World.drew _) _ = _ from k0); have k17 := pw_cell_below hB (show World.cell? (World.drew _) _ = _ from k1); have HB7 := Aside0.mk (below_step (below_drew HB.out) hB); clear hB)
        | (go_at_call 33; refine (rcanon_any A c s (ord s) _ w7 (Kd.C_below HR.out HB7.out) HCc.out HSm.out (order_f HRt.out.dag ⟨HRt.out.r0, HRt.out.r1⟩ (by have := HM.out; omega)) (by have := HM.out; have := hnl.out; have := HOl.out; omega) (ord_met' HRt.out.dag ⟨HRt.out.r0, HRt.out.r1⟩).shut.pl).mono ?_; rw [HCn.out]; rintro e w8 ⟨B2, d2, rfl, hR2, hB⟩; have k08 := pw_cell_below hB k07; have k18 := pw_cell_below hB k17; have HC8 := Aside0.mk (Kd.R_reads' hR2).2.2; have HB8 := Aside0.mk (below_step HB7.out hB); clear hB hR2)
        | (go_at_call 23; refine (sameS_any B2 d2 ⟨canonL s, (s.nodes.length : Int) - 1⟩ A c s w8 HC8.out (Kd.C_below HR.out HB8.out) HSc.out).mono ?_; rw [HI.out]; rintro e w9 ⟨rfl, hB⟩; have HB9 := Aside0.mk (below_step HB8.out hB); clear hB))
    all_goals
      clear k0 k1 k07 k17 k08 k18
      go_wp2
      go_ret
      exact ⟨rfl, HB9.out⟩
end Go.Proofs.YtglfebpgdghlfaaDoor.L
end
section
namespace Go.Proofs.YtglfebpgdghlfaaDoor.L
open Go.RowKit Go.ChangeShapes Go.WideShapes Go.Proofs.YtglfebpgdghlfaaDoorW.PrintWords Go.Proofs.YtglfebpgdghlfaaDoorW.PrintLast Go.Proofs.YtglfebpgdghlfaaDoorW.PrintMore
attribute [local go_sem] max2_int min2_int max_two min_two max_three min_three max_four min_four
theorem drew_alloc' (W : World) (o : Obj) : (W.alloc o).drew = W.drew.alloc o := rfl
abbrev fB (b n : Nat) : Value := .func (.func n) #[.pointer (some ⟨b, 0, none⟩)] #[]
noncomputable def doF (b : Nat) : Lit → Option Value := putF (putF (putF (fun _ => none) (.int .i64 1) (fB b 90)) (.int .i64 2) (fB b 91)) (.int .i64 3) (fB b 92)
noncomputable def zFn : Value := (match (Tryd.prog.info? 117) with | some i => i.zero.getD undef | none => undef)
theorem zeroFn (w : World) : (zeroValue 117).run Tryd.prog w = .ok zFn w := by kernel_rfl
theorem doF_1 (b : Nat) {k : Int} (h : k = 1) (z : Value) : (doF b (.int .i64 k)).getD z = fB b 90 ∧ (doF b (.int .i64 k)).isSome = true := by subst h; simp [doF, putF]
theorem doF_2 (b : Nat) {k : Int} (h : k = 2) (z : Value) : (doF b (.int .i64 k)).getD z = fB b 91 ∧ (doF b (.int .i64 k)).isSome = true := by subst h; simp [doF, putF]
theorem doF_3 (b : Nat) {k : Int} (h : k = 3) (z : Value) : (doF b (.int .i64 k)).getD z = fB b 92 ∧ (doF b (.int .i64 k)).isSome = true := by subst h; simp [doF, putF]
theorem doF_no (b : Nat) {k : Int} (h1 : ¬ k = 1) (h2 : ¬ k = 2) (h3 : ¬ k = 3) (z : Value) : (doF b (.int .i64 k)).getD z = z ∧ (doF b (.int .i64 k)).isSome = false := by simp [doF, putF, h1, h2, h3]
def KeepsS (W W1 : World) : Prop := ∀ (q : Nat) (cs : Array Value), W.heap[q]? = some (.cells cs 39 (0, 0)) → W1.heap[q]? = some (.cells cs 39 (0, 0))
theorem KeepsS.trans {W W1 W2 : World} (h : KeepsS W W1) (k : KeepsS W1 W2) : KeepsS W W2 := fun q cs hq => k q cs (h q cs hq)
theorem KeepsS.below {W W1 : World} (h : Below W.heap.size W W1) : KeepsS W W1 := fun q _ hq => (h.block q (blk_lt hq)).trans hq
theorem KeepsS.map {P : Program} {k : TypeId} {W W1 : World} {mb n : Nat} {f : Lit → Option Value} (hm : MapF P k W mb n f) (hg : W.grownBy W1 (some mb)) : KeepsS W W1 := fun q _ hq => (hg.block q (blk_lt hq) (fun e => by injection e with e; exact hm.not_cells (by rw [← e]; exact hq))).trans hq
section
variable {a : Scene} {A : Option Addr} {c b mb cnt : Nat} {f : Lit → Option Value} {out : List Node} {w W W1 : World}
theorem BRel.keepsS {v v1 : Value} (h : BRel a A c b mb cnt f v out w W) (hg : W.grownBy W1 v.ownBlock) : KeepsS W (W1.setCell ⟨b, 3, none⟩ v1) := fun q cs hq => by
  have h1 := blk_grown hq hg (Kd.R_ne h.rows hq (by decide))
  refine (Below.heap_setCell W1 ⟨b, 3, none⟩ v1 q (fun e => ?_)).trans h1
  have e' : q = b := e
  have h2 := h.blk
  rw [← e', hq] at h2
  injection h2 with h2
  injection h2 with _ h2
  exact absurd h2 (by decide)
theorem BRel.push {v v1 : Value} {m : Node} (h : BRel a A c b mb cnt f v out w W) (hR : kNode.R 26 W1 w.heap.size (fun _ => True) v1 (out ++ [m])) (hB : Below w.heap.size w W1) (hg : W.grownBy W1 v.ownBlock) :
    W1.heap[b]? = some (.cells #[.slice A a.nodes.length c, .int .i64 a.root, .map (some mb), v] 89 (0, 0)) ∧ BRel a A c b mb cnt f v1 (out ++ [m]) w (W1.setCell ⟨b, 3, none⟩ v1) := by
  have hblk := blk_grown h.blk hg (Kd.R_ne h.rows h.blk (by decide))
  have hmb : mb ≠ b := fun e => h.map.not_cells (by rw [e]; exact h.blk)
  refine ⟨hblk, below_set hB h.bge, ?_, (h.map.kept hg (h.map.ne_row h.rows)).setCell (a := ⟨b, 3, none⟩) hmb _, R_type hR hblk (by decide) _ _, h.bge, h.mge⟩
  have := blk_set hblk 3 v1
  simpa using this
end
theorem M_off {W : World} {base : Nat} {n : Node} {v1 v2 v3 v4 : Value} {xs : List Node} (h : kNode.M W base (fun _ => True) n [.int .i64 n.kind, v1, v2, v3]) (hr : kNode.R 26 W base (fun _ => True) v4 xs) : kNode.M W base (fun k => some k ≠ v4.ownBlock) n [.int .i64 n.kind, v1, v2, v3] := by
  obtain ⟨x1, x2, x3, e, h1, h2, h3⟩ := kNode_openM h
  injection e with _ e
  injection e with e1 e
  injection e with e2 e
  injection e with e3 _
  subst e1 e2 e3
  exact node_off h1 h2 h3 hr
def DoPost (a : Scene) (A : Option Addr) (c b mb cnt : Nat) (base : List Int) (out : List Node) (w W : World) (o : Opn) (e : Ending) (W' : World) : Prop :=
  e = .returned (.int .i64 (doErr a.nodes base out.length o)) ∧ (doErr a.nodes base out.length o = 0 → ∃ cnt' v', cnt' ≤ cnt + 1 ∧ BRel a A c b mb cnt' (imgF (base ++ [baseOf o])) v' (out ++ [(oneN a.nodes base o).1]) w W') ∧ KeepsS W W' ∧ Below w.heap.size w W'
section
variable {a : Scene} {A : Option Addr} {c b mb cnt : Nat} {base : List Int} {v : Value} {out : List Node} {w : World}
theorem one_any (hlen : out.length = base.length) (hc : kNode.C w A a.nodes.length a.nodes) (hS : ∀ i : Nat, i < a.nodes.length → Small (nd a.nodes i)) (hKl : ∀ i : Nat, i < a.nodes.length → (nd a.nodes i).kids.length ≤ 400000) (hP : Places a.nodes) (hn : a.nodes.length ≤ 1000000) (hcn : cnt ≤ 1000000)
    (o : Opn) (B1 : Option Addr) (d1 : Nat) (B2 : Option Addr) (d2 : Nat) (A1 : Option Addr) (c1 : Nat) (A2 : Option Addr) (c2 : Nat) (A3 : Option Addr) (c3 : Nat) (hO : OpnC w o B1 d1 B2 d2 A1 c1 A2 c2 A3 c3) (hs : Small o.node) (hls : o.sets.length ≤ 1000000) (hle : o.script.length ≤ 1000000) (hb0 : -9223372036854775808 ≤ o.base) (hb1 : o.base ≤ 9223372036854775807) (hk : o.kind = 1 ∨ o.kind = 2 ∨ o.kind = 3) :
    ∃ n, (∀ z, (doF b (.int .i64 o.kind)).getD z = .func (.func n) #[.pointer (some ⟨b, 0, none⟩)] #[] ∧ (doF b (.int .i64 o.kind)).isSome = true) ∧ (∀ args w, (callFunc n args).run Tryd.prog w = .ok (.enter n args) w) ∧ ∀ W, BRel a A c b mb cnt (imgF base) v out w W → Calls Tryd.prog n #[.pointer (some ⟨b, 0, none⟩), .agg (opV o B1 d1 B2 d2 A1 c1 A2 c2 A3 c3)] W (OnePost a A c b mb cnt base v out w o (oneN a.nodes base o) W) := by
  rcases hk with hk | hk | hk
  · refine ⟨_, doF_1 b hk, fun args w => by simp [go_sem], fun W h => ?_⟩
    rw [show oneN a.nodes base o = keepN a.nodes base o by unfold oneN; rw [if_pos hk]]
    exact keep_any W h hlen hc hS hP hn hcn o B1 d1 B2 d2 A1 c1 A2 c2 A3 c3 (hO.below h.below) hb0 hb1 (by omega)
  · refine ⟨_, doF_2 b hk, fun args w => by simp [go_sem], fun W h => ?_⟩
    rw [show oneN a.nodes base o = changeN a.nodes base o by unfold oneN; rw [if_neg (by omega), if_pos hk]]
    exact edit_any W h hlen hc hS hKl hP hn hcn o B1 d1 B2 d2 A1 c1 A2 c2 A3 c3 hO hls hle hb0 hb1 (by omega)
  · refine ⟨_, doF_3 b hk, fun args w => by simp [go_sem], fun W h => ?_⟩
    rw [show oneN a.nodes base o = freshN o by unfold oneN; rw [if_neg (by omega), if_neg (by omega), if_pos hk]]
    exact fresh_any W h o B1 d1 B2 d2 A1 c1 A2 c2 A3 c3 (hO.below h.below) hs hk
set_option maxRecDepth 100000 in
set_option maxHeartbeats 8000000 in
theorem do_any (W : World) (h : BRel a A c b mb cnt (imgF base) v out w W) (hlen : out.length = base.length) (hc : kNode.C w A a.nodes.length a.nodes) (hS : ∀ i : Nat, i < a.nodes.length → Small (nd a.nodes i)) (hKl : ∀ i : Nat, i < a.nodes.length → (nd a.nodes i).kids.length ≤ 400000) (hP : Places a.nodes) (hn : a.nodes.length ≤ 1000000) (hcn : cnt ≤ 1000000) (hol : out.length ≤ 1000000)
    (o : Opn) (B1 : Option Addr) (d1 : Nat) (B2 : Option Addr) (d2 : Nat) (A1 : Option Addr) (c1 : Nat) (A2 : Option Addr) (c2 : Nat) (A3 : Option Addr) (c3 : Nat) (hO : OpnC w o B1 d1 B2 d2 A1 c1 A2 c2 A3 c3) (hs : Small o.node) (hls : o.sets.length ≤ 1000000) (hle : o.script.length ≤ 1000000) (hb0 : -9223372036854775808 ≤ o.base) (hb1 : o.base ≤ 9223372036854775807) (hk0 : -9223372036854775808 ≤ o.kind) (hk1 : o.kind ≤ 9223372036854775807) :
    Calls Tryd.prog 55 #[.pointer (some ⟨b, 0, none⟩), .agg (opV o B1 d1 B2 d2 A1 c1 A2 c2 A3 c3)] W (DoPost a A c b mb cnt base out w W o) := by
  obtain ⟨Av, cv, hvs⟩ := Kd.R_slice h.rows
  subst hvs
  have HB := Aside0.mk h
  have HO := Aside0.mk hO
  have HC := Aside0.mk hc
  have HSm := Aside0.mk hS
  have HKl := Aside0.mk hKl
  have HPl := Aside0.mk hP
  have HLen := Aside0.mk hlen
  have HSn := Aside0.mk hs
  have HLs := Aside0.mk (And.intro hls hle)
  have hmm := @run_makeMap Tryd.prog
  have huo := Tryd.underlying61
  have hun := Tryd.underlying26
  have hub := Tryd.underlying89
  have HK := Aside0.mk (keyI_of hk0 hk1)
  have hBW1 : Below W.heap.size W ((W.alloc (.cells #[.pointer (some ⟨b, 0, none⟩)] 86)).alloc (.cells (opV o B1 d1 B2 d2 A1 c1 A2 c2 A3 c3) 61)) := below_alloc (below_alloc (Below.refl _ _) _) _
  have hp1 : ((W.alloc (.cells #[.pointer (some ⟨b, 0, none⟩)] 86)).alloc (.cells (opV o B1 d1 B2 d2 A1 c1 A2 c2 A3 c3) 61)).heap[W.heap.size]? = some (.cells #[.pointer (some ⟨b, 0, none⟩)] 86 (0, 0)) := by
    refine ((below_alloc (Below.refl _ _) _).block _ (by simp)).trans ?_
    simpa using heap_alloc_new W (.cells #[.pointer (some ⟨b, 0, none⟩)] 86)
  have ho1 : ((W.alloc (.cells #[.pointer (some ⟨b, 0, none⟩)] 86)).alloc (.cells (opV o B1 d1 B2 d2 A1 c1 A2 c2 A3 c3) 61)).heap[W.heap.size + 1]? = some (.cells (opV o B1 d1 B2 d2 A1 c1 A2 c2 A3 c3) 61 (0, 0)) := by
    have := heap_alloc_new (W.alloc (.cells #[.pointer (some ⟨b, 0, none⟩)] 86)) (.cells (opV o B1 d1 B2 d2 A1 c1 A2 c2 A3 c3) 61)
    simpa using this
  have hBm := below_alloc (Below.refl ((W.alloc (.cells #[.pointer (some ⟨b, 0, none⟩)] 86)).alloc (.cells (opV o B1 d1 B2 d2 A1 c1 A2 c2 A3 c3) 61)).heap.size ((W.alloc (.cells #[.pointer (some ⟨b, 0, none⟩)] 86)).alloc (.cells (opV o B1 d1 B2 d2 A1 c1 A2 c2 A3 c3) 61))) (.map #[] 0)
  have HM0 := Aside0.mk (show MapF Tryd.prog 3 (((W.alloc (.cells #[.pointer (some ⟨b, 0, none⟩)] 86)).alloc (.cells (opV o B1 d1 B2 d2 A1 c1 A2 c2 A3 c3) 61)).alloc (.map #[] 0)) (W.heap.size + 1 + 1) 0 (fun _ => none) from by
    have := MapF.made Tryd.prog 3 ((W.alloc (.cells #[.pointer (some ⟨b, 0, none⟩)] 86)).alloc (.cells (opV o B1 d1 B2 d2 A1 c1 A2 c2 A3 c3) 61))
    simpa using this)
  have HB0 := Aside0.mk (below_step hBW1 hBm)
  have HP0 := Aside0.mk ((hBm.block _ (blk_lt hp1)).trans hp1)
  have HO0 := Aside0.mk ((hBm.block _ (blk_lt ho1)).trans ho1)
  clear h hO hc hS hP hlen hKl hls hle hs hBm hp1 ho1 hBW1
  go_enter Tryd.func55, Tryd.ntmps55
  by_cases hno : ¬ o.kind = 1 ∧ ¬ o.kind = 2 ∧ ¬ o.kind = 3
  · have HI := Aside0.mk (doF_no b hno.1 hno.2.1 hno.2.2 zFn)
    have HE : Aside0 (oneN a.nodes base o = (nodez, 21)) := ⟨by unfold oneN; rw [if_neg hno.1, if_neg hno.2.1, if_neg hno.2.2]⟩
    have HE2 : Aside0 (doErr a.nodes base out.length o = 21) := ⟨by unfold doErr; rw [HE.out]; rfl⟩
    clear hno
    go_wp2_with (first
          | (refine wpList_insert_F _ rfl (.tmp 10) _ (.tmp 12) 118 rfl 3 117 keyI Tryd.underlying118 (W.heap.size + 1 + 1) 0 (fun _ => none) rfl HM0.out (by decide) (.int .i64 1) (fB b 90) (.int .i64 1) rfl rfl (keyI_of (by omega) (by omega)) ?_; intro w1 hM1 hg1; have HM1 := Aside0.mk hM1; have HB1 := Aside0.mk (below_map HB0.out HB0.out.size hg1 (by omega)); have HP1 := Aside0.mk (blk_grown HP0.out hg1 (fun e => by injection e with e; omega)); have HO1 := Aside0.mk (blk_grown HO0.out hg1 (fun e => by injection e with e; omega)); have p1 : w1.cell? ⟨W.heap.size, 0, none⟩ = some (.pointer (some ⟨b, 0, none⟩)) := blk_at HP1.out 0 rfl; clear hM1 hg1)
          | (refine wpList_insert_F _ rfl (.tmp 10) _ (.tmp 14) 118 rfl 3 117 keyI Tryd.underlying118 (W.heap.size + 1 + 1) 1 _ rfl HM1.out (by decide) (.int .i64 2) (fB b 91) (.int .i64 2) rfl rfl (keyI_of (by omega) (by omega)) ?_; intro w2 hM2 hg2; have HM2 := Aside0.mk hM2; have HB2 := Aside0.mk (below_map HB1.out HB1.out.size hg2 (by omega)); have HP2 := Aside0.mk (blk_grown HP1.out hg2 (fun e => by injection e with e; omega)); have HO2 := Aside0.mk (blk_grown HO1.out hg2 (fun e => by injection e with e; omega)); have p2 : w2.cell? ⟨W.heap.size, 0, none⟩ = some (.pointer (some ⟨b, 0, none⟩)) := blk_at HP2.out 0 rfl; clear hM2 hg2)
          | (refine wpList_insert_F _ rfl (.tmp 10) _ (.tmp 16) 118 rfl 3 117 keyI Tryd.underlying118 (W.heap.size + 1 + 1) 2 _ rfl HM2.out (by decide) (.int .i64 3) (fB b 92) (.int .i64 3) rfl rfl (keyI_of (by omega) (by omega)) ?_; intro w3 hM3 hg3; have HM3 := Aside0.mk hM3; have HB3 := Aside0.mk (below_map HB2.out HB2.out.size hg3 (by omega)); have HP3 := Aside0.mk (blk_grown HP2.out hg3 (fun e => by injection e with e; omega)); have HO3 := Aside0.mk (blk_grown HO2.out hg3 (fun e => by injection e with e; omega)); have p3 : w3.cell? ⟨W.heap.size, 0, none⟩ = some (.pointer (some ⟨b, 0, none⟩)) := blk_at HP3.out 0 rfl; have q0 : w3.cell? ⟨W.heap.size + 1, 0, none⟩ = some (.int .i64 o.kind) := blk_at HO3.out 0 rfl; have q1 : w3.cell? ⟨W.heap.size + 1, 1, none⟩ = some (.int .i64 o.base) := blk_at HO3.out 1 rfl; have q2 : w3.cell? ⟨W.heap.size + 1, 2, none⟩ = some (.slice B1 o.sets.length d1) := blk_at HO3.out 2 rfl; have q3 : w3.cell? ⟨W.heap.size + 1, 3, none⟩ = some (.slice B2 o.script.length d2) := blk_at HO3.out 3 rfl; have q4 : w3.cell? ⟨W.heap.size + 1, 4, none⟩ = some (.int .i64 o.node.kind) := blk_at HO3.out 4 rfl; have q5 : w3.cell? ⟨W.heap.size + 1, 5, none⟩ = some (.slice A1 o.node.ints.length c1) := blk_at HO3.out 5 rfl; have q6 : w3.cell? ⟨W.heap.size + 1, 6, none⟩ = some (.slice A2 o.node.texts.length c2) := blk_at HO3.out 6 rfl; have q7 : w3.cell? ⟨W.heap.size + 1, 7, none⟩ = some (.slice A3 o.node.kids.length c3) := blk_at HO3.out 7 rfl; clear hM3 hg3)
          | (at_lookup; refine wpList_lookup_F_ok _ rfl (.tmp 19) (.tmp 21) 118 rfl 3 117 keyI Tryd.underlying118 (zeroFn _) (W.heap.size + 1 + 1) 3 (doF b) rfl HM3.out (.int .i64 o.kind) (.int .i64 o.kind) rfl HK.out _ HI.out.1 false HI.out.2 ?_))
    go_ret
    exact ⟨ret_int HE2.out.symm, fun hz => absurd (HE2.out.symm.trans hz) (by decide), KeepsS.below HB3.out, (HB.out.later HB3.out).below⟩
  · have hk3 : o.kind = 1 ∨ o.kind = 2 ∨ o.kind = 3 := by omega
    clear hno
    obtain ⟨fnn, hI, hrun, hCall⟩ := one_any (b := b) (mb := mb) (v := .slice Av out.length cv) HLen.out HC.out HSm.out HKl.out HPl.out hn hcn o B1 d1 B2 d2 A1 c1 A2 c2 A3 c3 HO.out HSn.out HLs.out.1 HLs.out.2 hb0 hb1 hk3
    have HI := Aside0.mk (hI zFn)
    have HCall := Aside0.mk hCall
    clear hI hCall
    go_wp2_with (first
        | (refine wpList_insert_F _ rfl (.tmp 10) _ (.tmp 12) 118 rfl 3 117 keyI Tryd.underlying118 (W.heap.size + 1 + 1) 0 (fun _ => none) rfl HM0.out (by decide) (.int .i64 1) (fB b 90) (.int .i64 1) rfl rfl (keyI_of (by omega) (by omega)) ?_; intro w1 hM1 hg1; have HM1 := Aside0.mk hM1; have HB1 := Aside0.mk (below_map HB0.out HB0.out.size hg1 (by omega)); have HP1 := Aside0.mk (blk_grown HP0.out hg1 (fun e => by injection e with e; omega)); have HO1 := Aside0.mk (blk_grown HO0.out hg1 (fun e => by injection e with e; omega)); have p1 : w1.cell? ⟨W.heap.size, 0, none⟩ = some (.pointer (some ⟨b, 0, none⟩)) := blk_at HP1.out 0 rfl; clear hM1 hg1)
        | (refine wpList_insert_F _ rfl (.tmp 10) _ (.tmp 14) 118 rfl 3 117 keyI Tryd.underlying118 (W.heap.size + 1 + 1) 1 _ rfl HM1.out (by decide) (.int .i64 2) (fB b 91) (.int .i64 2) rfl rfl (keyI_of (by omega) (by omega)) ?_; intro w2 hM2 hg2; have HM2 := Aside0.mk hM2; have HB2 := Aside0.mk (below_map HB1.out HB1.out.size hg2 (by omega)); have HP2 := Aside0.mk (blk_grown HP1.out hg2 (fun e => by injection e with e; omega)); have HO2 := Aside0.mk (blk_grown HO1.out hg2 (fun e => by injection e with e; omega)); have p2 : w2.cell? ⟨W.heap.size, 0, none⟩ = some (.pointer (some ⟨b, 0, none⟩)) := blk_at HP2.out 0 rfl; clear hM2 hg2)
        | (refine wpList_insert_F _ rfl (.tmp 10) _ (.tmp 16) 118 rfl 3 117 keyI Tryd.underlying118 (W.heap.size + 1 + 1) 2 _ rfl HM2.out (by decide) (.int .i64 3) (fB b 92) (.int .i64 3) rfl rfl (keyI_of (by omega) (by omega)) ?_; intro w3 hM3 hg3; have HM3 := Aside0.mk hM3; have HB3 := Aside0.mk (below_map HB2.out HB2.out.size hg3 (by omega)); have HP3 := Aside0.mk (blk_grown HP2.out hg3 (fun e => by injection e with e; omega)); have HO3 := Aside0.mk (blk_grown HO2.out hg3 (fun e => by injection e with e; omega)); have p3 : w3.cell? ⟨W.heap.size, 0, none⟩ = some (.pointer (some ⟨b, 0, none⟩)) := blk_at HP3.out 0 rfl; have q0 : w3.cell? ⟨W.heap.size + 1, 0, none⟩ = some (.int .i64 o.kind) := blk_at HO3.out 0 rfl; have q1 : w3.cell? ⟨W.heap.size + 1, 1, none⟩ = some (.int .i64 o.base) := blk_at HO3.out 1 rfl; have q2 : w3.cell? ⟨W.heap.size + 1, 2, none⟩ = some (.slice B1 o.sets.length d1) := blk_at HO3.out 2 rfl; have q3 : w3.cell? ⟨W.heap.size + 1, 3, none⟩ = some (.slice B2 o.script.length d2) := blk_at HO3.out 3 rfl; have q4 : w3.cell? ⟨W.heap.size + 1, 4, none⟩ = some (.int .i64 o.node.kind) := blk_at HO3.out 4 rfl; have q5 : w3.cell? ⟨W.heap.size + 1, 5, none⟩ = some (.slice A1 o.node.ints.length c1) := blk_at HO3.out 5 rfl; have q6 : w3.cell? ⟨W.heap.size + 1, 6, none⟩ = some (.slice A2 o.node.texts.length c2) := blk_at HO3.out 6 rfl; have q7 : w3.cell? ⟨W.heap.size + 1, 7, none⟩ = some (.slice A3 o.node.kids.length c3) := blk_at HO3.out 7 rfl; clear hM3 hg3)
        | (at_lookup; refine wpList_lookup_F_ok _ rfl (.tmp 19) (.tmp 21) 118 rfl 3 117 keyI Tryd.underlying118 (zeroFn _) (W.heap.size + 1 + 1) 3 (doF b) rfl HM3.out (.int .i64 o.kind) (.int .i64 o.kind) rfl HK.out _ HI.out.1 true HI.out.2 ?_))
    have HKp3 := Aside0.mk (KeepsS.below HB3.out)
    have HB3 := Aside0.mk (HB.out.later HB3.out)
    refine (HCall.out w3 HB3.out).mono ?_
    rintro e w4 ⟨v1, v2, v3, rfl, hM4, hR4, hg4⟩
    obtain ⟨r, hr⟩ : ∃ r, oneN a.nodes base o = r := ⟨_, rfl⟩
    have HE := Aside0.mk hr
    rw [hr] at hM4 hR4 ⊢
    clear hr
    obtain ⟨m, er⟩ := r
    dsimp only at hM4 hR4 ⊢
    obtain ⟨A5, c5, A6, c6, A7, c7, rfl, rfl, rfl⟩ := M_slices hM4
    have HB4 := Aside0.mk (HB3.out.below.grown hg4 HB3.out.below.size (fun q hq => by injection hq with hq; have := HB.out.mge; omega))
    have HKp4 := Aside0.mk (HKp3.out.trans (KeepsS.map HB3.out.map hg4))
    have HP4 := Aside0.mk ((hg4.block _ (blk_lt HP3.out) (fun e => by injection e with e; exact HB3.out.map.not_cells (by rw [← e]; exact HP3.out))).trans HP3.out)
    have HA5 := Aside0.mk (below_alloc (Below.refl w4.heap.size w4) (.cells #[.int .i64 m.kind, .slice A5 m.ints.length c5, .slice A6 m.texts.length c6, .slice A7 m.kids.length c7] 26))
    have HM5 := Aside0.mk (M_below (M_lower hM4 HB3.out.below.size) HA5.out)
    have HX5 := Aside0.mk (show (w4.alloc (.cells #[.int .i64 m.kind, .slice A5 m.ints.length c5, .slice A6 m.texts.length c6, .slice A7 m.kids.length c7] 26)).heap[w4.heap.size]? = some (.cells #[.int .i64 m.kind, .slice A5 m.ints.length c5, .slice A6 m.texts.length c6, .slice A7 m.kids.length c7] 26 (0, 0)) from by simpa using heap_alloc_new w4 _)
    have HP5 := Aside0.mk ((HA5.out.block _ (blk_lt HP4.out)).trans HP4.out)
    have HR4 := Aside0.mk hR4
    clear hM4 hR4 hg4 p1 p2 p3 q0 q1 q2 q3 q4 q5 q6 q7
    by_cases hz : er = 0
    · subst hz
      obtain ⟨cnt', hc', hR⟩ := HR4.out rfl
      have HR5 := Aside0.mk (hR.later HA5.out)
      have HC' := Aside0.mk hc'
      have p5 : (w4.alloc (.cells #[.int .i64 m.kind, .slice A5 m.ints.length c5, .slice A6 m.texts.length c6, .slice A7 m.kids.length c7] 26)).cell? ⟨W.heap.size, 0, none⟩ = some (.pointer (some ⟨b, 0, none⟩)) := blk_at HP5.out 0 rfl
      have HCap := Aside0.mk (show CapB W.heap.size out.length _ from ⟨b, Av, cv, p5, blk_at HR5.out.blk 3 rfl, (Kd.R_reads' HR5.out.rows).2.2.2.1⟩)
      clear hR hc'
      go_wp2_with fail
      refine (aheadHas_any A7 c7 m.kids W.heap.size out.length _ (M_nodeC HM5.out).k HCap.out).mono ?_
      rintro e w6 ⟨rfl, hB6⟩
      have HB6 := Aside0.mk hB6
      clear hB6 p5
      by_cases hkb : kidsBad out.length m.kids = true
      · have HEr : Aside0 (doErr a.nodes base out.length o = 13) := ⟨by unfold doErr; rw [HE.out]; exact (if_pos rfl).trans (if_pos hkb)⟩
        rw [hkb]
        clear hkb
        go_wp2
        go_ret
        exact ⟨ret_int HEr.out.symm, fun hz => absurd (HEr.out.symm.trans hz) (by decide), HKp4.out.trans (KeepsS.below (below_step HA5.out HB6.out)), below_step (below_step HB4.out HA5.out) HB6.out⟩
      · have HEr : Aside0 (doErr a.nodes base out.length o = 0) := ⟨by unfold doErr; rw [HE.out]; exact (if_pos rfl).trans (if_neg hkb)⟩
        rw [Bool.eq_false_iff.2 hkb]
        clear hkb
        have HR6 := Aside0.mk (HR5.out.later HB6.out)
        have HM6 := Aside0.mk (M_below HM5.out HB6.out)
        have HP6 := Aside0.mk ((HB6.out.block _ (blk_lt HP5.out)).trans HP5.out)
        have HX6 := Aside0.mk ((HB6.out.block _ (blk_lt HX5.out)).trans HX5.out)
        have p6 : w6.cell? ⟨W.heap.size, 0, none⟩ = some (.pointer (some ⟨b, 0, none⟩)) := blk_at HP6.out 0 rfl
        have b6 : w6.cell? ⟨b, 3, none⟩ = some (.slice Av out.length cv) := blk_at HR6.out.blk 3 rfl
        have y0 : w6.cell? ⟨w4.heap.size, 0, none⟩ = some (.int .i64 m.kind) := blk_at HX6.out 0 rfl
        have y1 : w6.cell? ⟨w4.heap.size, 1, none⟩ = some (.slice A5 m.ints.length c5) := blk_at HX6.out 1 rfl
        have y2 : w6.cell? ⟨w4.heap.size, 2, none⟩ = some (.slice A6 m.texts.length c6) := blk_at HX6.out 2 rfl
        have y3 : w6.cell? ⟨w4.heap.size, 3, none⟩ = some (.slice A7 m.kids.length c7) := blk_at HX6.out 3 rfl
        have hba := below_alloc (Below.refl w6.heap.size w6) (.cells #[.int .i64 m.kind, .slice A5 m.ints.length c5, .slice A6 m.texts.length c6, .slice A7 m.kids.length c7] 26)
        have p6a := pw_cell_below hba p6
        have b6a := pw_cell_below hba b6
        have HR6d := Aside0.mk HR6.out.drew
        have HP6d := Aside0.mk (show w6.drew.heap[W.heap.size]? = _ from HP6.out)
        have HMk := Aside0.mk (M_off (M_below HM6.out (pw_below_drewN (Below.refl _ _) 1)) HR6d.out.rows)
        clear hba HX5 HX6 HM5 HM6 HP5 HP6 HR5 HR6 HCap
        go_wp2
        go_region_law (first
            | (rw [drew_alloc']; refine Kd.R_append_step kNode (W := w6.drew) (w0 := w) w.heap.size (by rfl) (.tmp 44) (.tmp 46) 30 26 (.agg #[.int .i64 0, .slice none 0 0, .slice none 0 0, .slice none 0 0]) 80 rfl Tryd.underlying30 info_nodez rfl (by decide) (by omega) (.slice Av out.length cv) out m [.int .i64 m.kind, .slice A5 m.ints.length c5, .slice A6 m.texts.length c6, .slice A7 m.kids.length c7] (fun _ => True) (fun k => some k ≠ (Value.slice Av out.length cv).ownBlock) rfl rfl HMk.out (fun k hk => ⟨trivial, hk⟩) (fun _ _ => trivial) HR6d.out.rows HR6d.out.below HR6d.out.below.size (by omega) ?_; intro v5 w8 hR8 hB8 hg8 hat8; obtain ⟨A8, c8, hv8⟩ := Kd.R_slice hR8; rw [show (out ++ [m]).length = out.length + 1 from by simp] at hv8; subst hv8; obtain ⟨hb8, hN8⟩ := HR6d.out.push hR8 hB8 hg8; have HKp8 := Aside0.mk (HKp4.out.trans ((KeepsS.below (below_step HA5.out HB6.out)).trans (KeepsS.trans (KeepsS.below (pw_below_drewN (Below.refl _ _) 1)) (HR6d.out.keepsS (v1 := .slice A8 (out.length + 1) c8) hg8)))); have HN8 := Aside0.mk hN8; have f3 : w8.cell? ⟨b, 3, none⟩ = some (.slice Av out.length cv) := blk_at hb8 3 rfl; have f3f := blk_frozen hb8 3; have p8 : w8.cell? ⟨W.heap.size, 0, none⟩ = some (.pointer (some ⟨b, 0, none⟩)) := blk_at (blk_grown HP6d.out hg8 (Kd.R_ne HR6d.out.rows HP6d.out (by decide))) 0 rfl; clear hR8 hB8 hg8 hat8 hN8 hb8))
        all_goals
          clear p6 b6 y0 y1 y2 y3 p6a b6a f3 f3f p8
          go_wp2
          go_ret
          exact ⟨ret_int HEr.out.symm, fun _ => ⟨cnt', _, HC'.out, by rw [HE.out]; exact HN8.out⟩, HKp8.out, HN8.out.below⟩
    · have HEr : Aside0 (doErr a.nodes base out.length o = er) := ⟨by unfold doErr; rw [HE.out]; exact if_neg hz⟩
      have dz : (er != 0) = true := by simpa using hz
      have HZ := Aside0.mk hz
      clear hz
      go_wp2
      go_ret
      exact ⟨ret_int HEr.out.symm, fun hz => absurd (HEr.out.symm.trans hz) HZ.out, HKp4.out.trans (KeepsS.below HA5.out), below_step HB4.out HA5.out⟩
end
end Go.Proofs.YtglfebpgdghlfaaDoor.L
end
section
namespace Go.Proofs.YtglfebpgdghlfaaDoor.L
open Go.RowKit Go.ChangeShapes Go.WideShapes Go.Proofs.YtglfebpgdghlfaaDoorW.PrintWords Go.Proofs.YtglfebpgdghlfaaDoorW.PrintLast Go.Proofs.YtglfebpgdghlfaaDoorW.PrintMore
attribute [local go_sem] max2_int min2_int max_two min_two max_three min_three max_four min_four
theorem slots2 {W : World} {rb : Nat} {y0 y1 : Value} {T : TypeId} (h : W.heap[rb]? = some (.cells #[y0, y1] T (0, 0))) (u0 : Value) :
    W.cell? ⟨rb, 0, none⟩ = some y0 ∧ W.frozen? ⟨rb, 0, none⟩ = false ∧ (W.setCell ⟨rb, 0, none⟩ u0).cell? ⟨rb, 1, none⟩ = some y1 ∧ (W.setCell ⟨rb, 0, none⟩ u0).frozen? ⟨rb, 1, none⟩ = false :=
  ⟨(blk_cell h 0).trans rfl, blk_frozen h 0, (blk_cell (blk_set h 0 u0) 1).trans rfl, blk_frozen (blk_set h 0 u0) 1⟩
theorem res2 {W : World} {rb : Nat} {y0 y1 : Value} {T : TypeId} (h : W.heap[rb]? = some (.cells #[y0, y1] T (0, 0))) (u0 u1 : Value) :
    ((W.setCell ⟨rb, 0, none⟩ u0).setCell ⟨rb, 1, none⟩ u1).cell? ⟨rb, 0, none⟩ = some u0 ∧ ((W.setCell ⟨rb, 0, none⟩ u0).setCell ⟨rb, 1, none⟩ u1).cell? ⟨rb, 1, none⟩ = some u1 :=
  ⟨(blk_cell (box2 h u0 u1) 0).trans rfl, (blk_cell (box2 h u0 u1) 1).trans rfl⟩
abbrev zeroS : Array Value := #[.slice none 0 0, .int .i64 0]
def RebPost (r : Scene × Int × Int) (w : World) (e : Ending) (w' : World) : Prop :=
  ∃ A c, e = .returned (.tuple #[.agg #[.slice A r.1.nodes.length c, .int .i64 r.1.root], .int .i64 r.2.1, .int .i64 r.2.2]) ∧ kNode.R 26 w' w.heap.size (fun _ => True) (.slice A r.1.nodes.length c) r.1.nodes ∧ Below w.heap.size w w'
theorem RebPost.no {r : Scene × Int × Int} {w w' : World} {er p : Int} (hr : r = (⟨[], 0⟩, er, p)) (hB : Below w.heap.size w w') : RebPost r w (.returned (.tuple #[.agg #[.slice none 0 0, .int .i64 0], .int .i64 er, .int .i64 p])) w' := by
  subst hr
  exact ⟨none, 0, rfl, Kd.R_nil _ _ _ _ _, hB⟩
set_option maxRecDepth 100000 in
set_option maxHeartbeats 8000000 in
theorem rapp_any (A : Option Addr) (c : Nat) (a : Scene) (Al : Option Addr) (cl : Nat) (l : List Opn) (w : World) (h : kNode.C w A a.nodes.length a.nodes) (hl : kOpn.C w Al l.length l) (hT : Tabs w) (hn : a.nodes.length ≤ 1000000) (hM : rows a.nodes ≤ 400000) (ha : ∀ i : Nat, i < a.nodes.length → OkN 4000 (nd a.nodes i)) (ho : ∀ k : Nat, k < l.length → OpOk (op l k)) (hn60 : l.length ≤ 60) :
    Calls Tryd.prog 29 #[.agg #[.slice A a.nodes.length c, .int .i64 a.root], .slice Al l.length cl] w (RebPost (applyR a l) w) := by
  have HR := Aside0.mk h
  have HOps := Aside0.mk hl
  have HT := Aside0.mk hT
  have HM := Aside0.mk hM
  have HOk := Aside0.mk ha
  have HOp := Aside0.mk ho
  have HB := Aside0.mk (below_alloc (below_alloc (Below.refl w.heap.size w) (.cells #[.slice A a.nodes.length c, .int .i64 a.root] 39)) (.cells zeroS 39))
  have k0 := box_cell2 w _ rfl #[.slice A a.nodes.length c, .int .i64 a.root] 39 (.cells zeroS 39) 0 (.slice A a.nodes.length c) rfl
  have k1 := box_cell2 w _ rfl #[.slice A a.nodes.length c, .int .i64 a.root] 39 (.cells zeroS 39) 1 (.int .i64 a.root) rfl
  have HRes := Aside0.mk (show ((w.alloc (.cells #[.slice A a.nodes.length c, .int .i64 a.root] 39)).alloc (.cells zeroS 39)).heap[w.heap.size + 1]? = some (.cells zeroS 39 (0, 0)) from by
    have := heap_alloc_new (w.alloc (.cells #[.slice A a.nodes.length c, .int .i64 a.root] 39)) (.cells zeroS 39)
    simpa using this)
  have hu := Tryd.underlying39
  have hub := Tryd.underlying89
  have hmm := @run_makeMap Tryd.prog
  clear h hl hT hM ha ho
  go_enter Tryd.func29, Tryd.ntmps29
  go_wp2_with fail
  refine (typed_any A c a _ (Kd.C_below HR.out HB.out) (HT.out.below HB.out) (fun i hi => (HOk.out i hi).texts)).mono ?_
  rintro e w1 ⟨rfl, hB1⟩
  replace k0 := pw_cell_below hB1 k0
  replace k1 := pw_cell_below hB1 k1
  have HRes1 := Aside0.mk ((hB1.block _ (blk_lt HRes.out)).trans HRes.out)
  have HB1 := Aside0.mk (below_step HB.out hB1)
  clear hB1 HRes HB
  by_cases hty : ¬ (typedS newTab a.nodes).1 = 0
  · have HE := Aside0.mk (show applyR a l = (⟨[], 0⟩, (typedS newTab a.nodes).1, -1) from if_neg hty)
    have dz : ((typedS newTab a.nodes).1 != 0) = true := by simpa using hty
    obtain ⟨e0, e0f, e1, e1f⟩ := slots2 HRes1.out (.slice none 0 0)
    clear hty
    go_wp2
    have h2 := res2 HRes1.out (.slice none 0 0) (.int .i64 0)
    exact bodyPost_ret (v := .tuple #[.agg #[.slice none 0 0, .int .i64 0], .int .i64 (typedS newTab a.nodes).1, .int .i64 (-1)]) (by simp [results, Tryd.results29, go_sem, h2]) rfl (RebPost.no HE.out (below_set2 HB1.out (Nat.le_succ _)))
  replace hty := Classical.byContradiction hty
  have HTy := Aside0.mk hty
  rw [hty]
  clear hty
  go_wp2_with fail
  refine (is_any A c a _ (Kd.C_below HR.out HB1.out) HM.out).mono ?_
  rintro e w2 ⟨rfl, hB2⟩
  replace k0 := pw_cell_below hB2 k0
  replace k1 := pw_cell_below hB2 k1
  have HRes2 := Aside0.mk ((hB2.block _ (blk_lt HRes1.out)).trans HRes1.out)
  have HB2 := Aside0.mk (below_step HB1.out hB2)
  clear hB2 HRes1 HB1
  by_cases hic : ¬ isC a = true
  · have HE := Aside0.mk (show applyR a l = (⟨[], 0⟩, 16, -1) from by unfold applyR; rw [if_pos HTy.out, if_neg hic])
    rw [Bool.eq_false_iff.2 hic]
    obtain ⟨e0, e0f, e1, e1f⟩ := slots2 HRes2.out (.slice none 0 0)
    clear hic
    go_wp2
    have h2 := res2 HRes2.out (.slice none 0 0) (.int .i64 0)
    exact bodyPost_ret (v := .tuple #[.agg #[.slice none 0 0, .int .i64 0], .int .i64 16, .int .i64 (-1)]) (by simp [results, Tryd.results29, go_sem, h2]) rfl (RebPost.no HE.out (below_set2 HB2.out (Nat.le_succ _)))
  replace hic := Classical.byContradiction hic
  have HIc := Aside0.mk hic
  have HPl := Aside0.mk (isC_right hic).pl
  have HE : Aside0 (applyR a l = resR (runO a.nodes l [] [] 0)) := ⟨by unfold applyR; rw [if_pos HTy.out, if_pos hic]⟩
  rw [hic]
  clear hic
  have hm0 := MapF.made Tryd.prog 3 w2
  have hAm := below_alloc (Below.refl w2.heap.size w2) (.map #[] 0)
  have hAb := below_alloc (Below.refl (w2.alloc (.map #[] 0)).heap.size (w2.alloc (.map #[] 0))) (.cells #[.slice A a.nodes.length c, .int .i64 a.root, .map (some w2.heap.size), .slice none 0 0] 89)
  have HBR := Aside0.mk (show BRel a A c (w2.heap.size + 1) w2.heap.size 0 (imgF []) (.slice none 0 0) [] w ((w2.alloc (.map #[] 0)).alloc (.cells #[.slice A a.nodes.length c, .int .i64 a.root, .map (some w2.heap.size), .slice none 0 0] 89)) from
    ⟨below_step (below_step HB2.out hAm) hAb, by
      have := heap_alloc_new (w2.alloc (.map #[] 0)) (.cells #[.slice A a.nodes.length c, .int .i64 a.root, .map (some w2.heap.size), .slice none 0 0] 89)
      simpa using this, by rw [imgF_nil]; exact hm0.below hAb, Kd.R_nil _ _ _ _ _, Nat.le_succ_of_le HB2.out.size, HB2.out.size⟩)
  have HResB := Aside0.mk ((hAb.block _ (Nat.lt_of_lt_of_le (blk_lt HRes2.out) hAm.size)).trans ((hAm.block _ (blk_lt HRes2.out)).trans HRes2.out))
  clear hm0 hAm hAb
  go_wp2
  clear k0 k1 hmm
  generalize (w2.alloc (.map #[] 0)).alloc (.cells #[.slice A a.nodes.length c, .int .i64 a.root, .map (some w2.heap.size), .slice none 0 0] 89) = W3 at HBR HResB ⊢
  generalize w2.heap.size + 1 = b at HBR ⊢
  generalize w2.heap.size = mb at HBR ⊢
  go_loopw [37] (fun v37 W => ∃ k : Nat, k ≤ l.length ∧ v37 = .int .i64 k ∧ ∃ base v out cnt, cnt ≤ k ∧ Aside0 (out.length = base.length ∧ out.length = k ∧ runO a.nodes (l.drop k) base out k = runO a.nodes l [] [] 0 ∧ ∀ i : Nat, i < out.length → OkN 5000 (nd out i)) ∧ Aside0 (BRel a A c b mb cnt (imgF base) v out w W) ∧ Aside0 (W.heap[w.heap.size + 1]? = some (.cells zeroS 39 (0, 0)))) (fun v37 _ => l.length - (intOf v37).toNat)
  case atStart => exact ⟨0, by omega, rfl, [], _, [], 0, by omega, ⟨rfl, rfl, rfl, fun i hi => by simp at hi⟩, HBR, HResB⟩
  case round =>
    clear HBR HResB
    obtain ⟨k, hk, rfl, base, v, out, cnt, hcnt, HI, HBR, HRes⟩ := hrel
    by_cases hlt : k < l.length
    · obtain ⟨ad, B1, d1, B2, d2, A1, c1, A2, c2, A3, c3, rfl, x0, x1, x2, x3, x4, x5, x6, x7, hO⟩ := at_op HOps.out k hlt
      replace x0 := pw_cell_below HBR.out.below x0
      replace x1 := pw_cell_below HBR.out.below x1
      replace x2 := pw_cell_below HBR.out.below x2
      replace x3 := pw_cell_below HBR.out.below x3
      replace x4 := pw_cell_below HBR.out.below x4
      replace x5 := pw_cell_below HBR.out.below x5
      replace x6 := pw_cell_below HBR.out.below x6
      replace x7 := pw_cell_below HBR.out.below x7
      have HO := Aside0.mk hO
      have hop := HOp.out k hlt
      have HOk1 := Aside0.mk hop
      have HStep := Aside0.mk (fun hz => (runO_step (a := a.nodes) (base := base) (out := out) hlt hz))
      have HBad := Aside0.mk (fun hz => (runO_bad (a := a.nodes) (base := base) (out := out) hlt hz))
      generalize op l k = o at x0 x1 x2 x3 x4 x5 x6 x7 HO HOk1 HStep HBad
      have hAo := below_alloc (Below.refl wr.heap.size wr) (.cells (opV o B1 d1 B2 d2 A1 c1 A2 c2 A3 c3) 61)
      have HBo := Aside0.mk (HBR.out.later hAo)
      have HReso := Aside0.mk ((hAo.block _ (blk_lt HRes.out)).trans HRes.out)
      clear hO hop hAo
      go_wp2_with fail
      refine (do_any (base := base) (cnt := cnt) _ HBo.out HI.out.1 HR.out (fun i hi => (HOk.out i hi).small (by omega)) (fun i hi => Nat.le_trans (HOk.out i hi).2.2.1 (by omega)) HPl.out hn (by omega) (by have := HI.out.2.1; omega) o B1 d1 B2 d2 A1 c1 A2 c2 A3 c3 HO.out (HOk1.out.node.small (by omega)) HOk1.out.sets (Nat.le_trans HOk1.out.script (by omega)) HOk1.out.b0 HOk1.out.b1 HOk1.out.k0 HOk1.out.k1).mono ?_
      rintro e w4 ⟨rfl, hR, hK, hB⟩
      have HRes4 := Aside0.mk (hK _ _ HReso.out)
      have HB4 := Aside0.mk hB
      have HR4 := Aside0.mk hR
      clear hR hK hB x0 x1 x2 x3 x4 x5 x6 x7
      by_cases hz : doErr a.nodes base out.length o = 0
      · obtain ⟨cnt', v', hc', hBR⟩ := HR4.out hz
        have HBR' := Aside0.mk hBR
        have h0 : (oneN a.nodes base o).2 = 0 := by
          refine Classical.byContradiction fun hn0 => ?_
          unfold doErr at hz
          rw [if_neg hn0] at hz
          exact hn0 hz
        have HI' := Aside0.mk (show (out ++ [(oneN a.nodes base o).1]).length = (base ++ [baseOf o]).length ∧ (out ++ [(oneN a.nodes base o).1]).length = k + 1 ∧ runO a.nodes (l.drop (k + 1)) (base ++ [baseOf o]) (out ++ [(oneN a.nodes base o).1]) (k + 1) = runO a.nodes l [] [] 0 ∧ ∀ i : Nat, i < (out ++ [(oneN a.nodes base o).1]).length → OkN 5000 (nd (out ++ [(oneN a.nodes base o).1]) i) from
          ⟨by rw [List.length_append, List.length_append, HI.out.1]; rfl, by rw [List.length_append, HI.out.2.1]; rfl, (HStep.out hz).symm.trans HI.out.2.2.1, nd_snoc HI.out.2.2.2 (oneN_ok HOk.out HOk1.out h0)⟩)
        rw [hz]
        clear hz hBR h0
        go_wp2
        go_roundw
        case rel => exact ⟨k + 1, by omega, by go_num, _, v', _, cnt', by omega, HI', HBR', HRes4⟩
        case measure => simp [intOf]; omega
      · have HE' := Aside0.mk (show applyR a l = (⟨[], 0⟩, doErr a.nodes base out.length o, (k : Int)) from by rw [HE.out, ← HI.out.2.2.1, HBad.out hz]; rfl)
        have dz : (doErr a.nodes base out.length o != 0) = true := by simpa using hz
        obtain ⟨e0, e0f, e1, e1f⟩ := slots2 HRes4.out (.slice none 0 0)
        clear hz
        generalize doErr a.nodes base out.length o = er at dz HE' ⊢
        go_wp2
        have h2 := res2 HRes4.out (.slice none 0 0) (.int .i64 0)
        exact bodyPost_ret (v := .tuple #[.agg #[.slice none 0 0, .int .i64 0], .int .i64 er, .int .i64 (k : Int)]) (by simp [results, Tryd.results29, go_sem, h2]) rfl (RebPost.no HE'.out (below_set2 HB4.out (Nat.le_succ _)))
    · have HRun := Aside0.mk (show runO a.nodes l [] [] 0 = .inl out from by rw [← HI.out.2.2.1]; exact runO_end (by omega))
      have HE' := Aside0.mk (show applyR a l = finR out from by rw [HE.out, HRun.out]; rfl)
      obtain ⟨Av, cv, hv⟩ := Kd.R_slice HBR.out.rows
      subst hv
      have hol : out.length ≤ 60 := by have := HI.out.2.1; omega
      have b3 : wr.cell? ⟨b, 3, none⟩ = some (.slice Av out.length cv) := blk_at HBR.out.blk 3 rfl
      have hbl := blk_lt HBR.out.blk
      have hwp : IntKind.i64.wrap ((out.length : Int) - 1) = (out.length : Int) - 1 := wrap_i (by omega) (by omega)
      go_wp2
      go_region
      have hA5 := below_alloc (Below.refl wr.heap.size wr) (.cells #[.slice Av out.length cv, .int .i64 ((out.length : Int) - 1)] 39)
      have hA5d : Below wr.heap.size wr (wr.alloc (.cells #[.slice Av out.length cv, .int .i64 ((out.length : Int) - 1)] 39)).drew := below_drew hA5
      have HBR5 := Aside0.mk (HBR.out.later hA5d)
      have HRes5 := Aside0.mk ((hA5d.block _ (blk_lt HRes.out)).trans HRes.out)
      have hX5 : (wr.alloc (.cells #[.slice Av out.length cv, .int .i64 ((out.length : Int) - 1)] 39)).drew.heap[wr.heap.size]? = some (.cells #[.slice Av out.length cv, .int .i64 ((out.length : Int) - 1)] 39 (0, 0)) := by
        show (wr.alloc _).heap[wr.heap.size]? = _
        simpa using heap_alloc_new wr _
      have HX5 := Aside0.mk hX5
      have hge : w.heap.size + 1 < wr.heap.size := blk_lt HRes.out
      have HGe := Aside0.mk hge
      clear hA5 hA5d hX5 b3 hbl hwp hge HBR HRes
      generalize (wr.alloc (.cells #[.slice Av out.length cv, .int .i64 ((out.length : Int) - 1)] 39)).drew = W5 at HBR5 HRes5 HX5 ⊢
      generalize wr.heap.size = g at HX5 HGe ⊢
      have s0 : W5.cell? ⟨g, 0, none⟩ = some (.slice Av out.length cv) := blk_at HX5.out 0 rfl
      have s1 : W5.cell? ⟨g, 1, none⟩ = some (.int .i64 ((out.length : Int) - 1)) := blk_at HX5.out 1 rfl
      have HC5 := Aside0.mk (Kd.R_reads' HBR5.out.rows).2.2
      go_wp2_with fail
      refine (typed_any Av cv (⟨out, (out.length : Int) - 1⟩ : Scene) W5 HC5.out (HT.out.below HBR5.out.below) (fun i hi => (HI.out.2.2.2 i hi).texts)).mono ?_
      rintro e w6 ⟨rfl, hB6⟩
      replace s0 := pw_cell_below hB6 s0
      replace s1 := pw_cell_below hB6 s1
      have HRes6 := Aside0.mk ((hB6.block _ (blk_lt HRes5.out)).trans HRes5.out)
      have HBR6 := Aside0.mk (HBR5.out.later hB6)
      clear hB6 HC5 HRes5 HBR5 HX5
      dsimp only
      by_cases hty2 : ¬ (typedS newTab out).1 = 0
      · have HX := Aside0.mk (show applyR a l = (⟨[], 0⟩, (typedS newTab out).1, -1) from by rw [HE'.out]; unfold finR; rw [if_neg hty2])
        have dz : ((typedS newTab out).1 != 0) = true := by simpa using hty2
        obtain ⟨e0, e0f, e1, e1f⟩ := slots2 HRes6.out (.slice none 0 0)
        have HB6 := Aside0.mk HBR6.out.below
        clear hty2
        generalize (typedS newTab out).1 = er at dz HX ⊢
        go_wp2
        have h2 := res2 HRes6.out (.slice none 0 0) (.int .i64 0)
        exact bodyPost_ret (v := .tuple #[.agg #[.slice none 0 0, .int .i64 0], .int .i64 er, .int .i64 (-1)]) (by simp [results, Tryd.results29, go_sem, h2]) rfl (RebPost.no HX.out (below_set2 HB6.out (Nat.le_succ _)))
      replace hty2 := Classical.byContradiction hty2
      have HTy2 := Aside0.mk hty2
      rw [hty2]
      clear hty2
      have HC6 := Aside0.mk (Kd.R_reads' HBR6.out.rows).2.2
      have HRw := Aside0.mk (rows_ok HI.out.2.2.2 hol)
      go_wp2_with fail
      refine (gcheck_any Av cv (⟨out, (out.length : Int) - 1⟩ : Scene) w6 HC6.out HRw.out).mono ?_
      rintro e w7 ⟨rfl, hB7⟩
      replace s0 := pw_cell_below hB7 s0
      replace s1 := pw_cell_below hB7 s1
      have HRes7 := Aside0.mk ((hB7.block _ (blk_lt HRes6.out)).trans HRes6.out)
      have HBR7 := Aside0.mk (HBR6.out.later hB7)
      clear hB7 HC6 HRes6 HBR6
      by_cases hgc : ¬ (gcheck (⟨out, (out.length : Int) - 1⟩ : Scene)).1 = 0
      · have HX := Aside0.mk (show applyR a l = (⟨[], 0⟩, (gcheck (⟨out, (out.length : Int) - 1⟩ : Scene)).1, -1) from by rw [HE'.out]; unfold finR; rw [if_pos HTy2.out]; exact if_neg hgc)
        have dz : ((gcheck (⟨out, (out.length : Int) - 1⟩ : Scene)).1 != 0) = true := by simpa using hgc
        obtain ⟨e0, e0f, e1, e1f⟩ := slots2 HRes7.out (.slice none 0 0)
        have HB6 := Aside0.mk HBR7.out.below
        clear hgc
        generalize (gcheck (⟨out, (out.length : Int) - 1⟩ : Scene)).1 = er at dz HX ⊢
        go_wp2
        have h2 := res2 HRes7.out (.slice none 0 0) (.int .i64 0)
        exact bodyPost_ret (v := .tuple #[.agg #[.slice none 0 0, .int .i64 0], .int .i64 er, .int .i64 (-1)]) (by simp [results, Tryd.results29, go_sem, h2]) rfl (RebPost.no HX.out (below_set2 HB6.out (Nat.le_succ _)))
      replace hgc := Classical.byContradiction hgc
      have HGc := Aside0.mk hgc
      rw [hgc]
      clear hgc
      have HC7 := Aside0.mk (Kd.R_reads' HBR7.out.rows).2.2
      go_wp2_with fail
      refine (is_any Av cv (⟨out, (out.length : Int) - 1⟩ : Scene) w7 HC7.out HRw.out).mono ?_
      rintro e w8 ⟨rfl, hB8⟩
      replace s0 := pw_cell_below hB8 s0
      replace s1 := pw_cell_below hB8 s1
      have HRes8 := Aside0.mk ((hB8.block _ (blk_lt HRes7.out)).trans HRes7.out)
      have HBR8 := Aside0.mk (HBR7.out.later hB8)
      clear hB8 HC7 HRes7 HBR7
      by_cases hcc : ¬ isC (⟨out, (out.length : Int) - 1⟩ : Scene) = true
      · have HX := Aside0.mk (show applyR a l = (⟨[], 0⟩, 16, -1) from by rw [HE'.out]; unfold finR; rw [if_pos HTy2.out]; exact (if_pos HGc.out).trans (if_neg hcc))
        rw [Bool.eq_false_iff.2 hcc]
        obtain ⟨e0, e0f, e1, e1f⟩ := slots2 HRes8.out (.slice none 0 0)
        have HB6 := Aside0.mk HBR8.out.below
        clear hcc
        go_wp2
        have h2 := res2 HRes8.out (.slice none 0 0) (.int .i64 0)
        exact bodyPost_ret (v := .tuple #[.agg #[.slice none 0 0, .int .i64 0], .int .i64 16, .int .i64 (-1)]) (by simp [results, Tryd.results29, go_sem, h2]) rfl (RebPost.no HX.out (below_set2 HB6.out (Nat.le_succ _)))
      replace hcc := Classical.byContradiction hcc
      have HX := Aside0.mk (show applyR a l = ((⟨out, (out.length : Int) - 1⟩ : Scene), 0, 0) from by rw [HE'.out]; unfold finR; rw [if_pos HTy2.out]; exact (if_pos HGc.out).trans (if_pos hcc))
      rw [hcc]
      clear hcc
      obtain ⟨e0, e0f, e1, e1f⟩ := slots2 HRes8.out (.slice Av out.length cv)
      have hne : g ≠ w.heap.size + 1 := by have := HGe.out; omega
      go_wp2
      have h2 := res2 HRes8.out (.slice Av out.length cv) (.int .i64 ((out.length : Int) - 1))
      refine bodyPost_ret (v := .tuple #[.agg #[.slice Av out.length cv, .int .i64 ((out.length : Int) - 1)], .int .i64 0, .int .i64 0]) (by simp [results, Tryd.results29, go_sem, h2]) rfl
        ⟨Av, cv, by rw [HX.out], ?_, below_set2 HBR8.out.below (Nat.le_succ _)⟩
      rw [HX.out]
      exact R_type (R_type HBR8.out.rows HRes8.out (by decide) _ _) (blk_set HRes8.out 0 _) (by decide) _ _
end Go.Proofs.YtglfebpgdghlfaaDoor.L
end
section
namespace Go.Proofs.YtglfebpgdghlfaaDoor.L
open Go.RowKit Go.ChangeShapes Go.WideShapes Go.Proofs.YtglfebpgdghlfaaDoorW.PrintWords Go.Proofs.YtglfebpgdghlfaaDoorW.PrintLast Go.Proofs.YtglfebpgdghlfaaDoorW.PrintMore
attribute [local go_sem] max2_int min2_int max_two min_two max_three min_three max_four min_four
structure ABx (w : World) (A : Option Addr) (c : Nat) (a : Scene) (W : World) : Prop where
  below : Below w.heap.size w W
  sb : W.heap[w.heap.size]? = some (.cells #[.slice A a.nodes.length c, .int .i64 a.root] 39 (0, 0))
  res : W.heap[w.heap.size + 1]? = some (.cells zeroS 39 (0, 0))
  non : W.heap[w.heap.size + 2]? = some (.cells zeroS 39 (0, 0))
theorem ABx.later {w : World} {A : Option Addr} {c : Nat} {a : Scene} {W W1 : World} (h : ABx w A c a W) (hb : Below W.heap.size W W1) : ABx w A c a W1 :=
  ⟨below_step h.below hb, (hb.block _ (blk_lt h.sb)).trans h.sb, (hb.block _ (blk_lt h.res)).trans h.res, (hb.block _ (blk_lt h.non)).trans h.non⟩
structure AppRel (w : World) (g : Nat) (root : Int) (base : List Int) (bv : Value) (out : List Node) (ov : Value) (W : World) : Prop where
  box : W.heap[g]? = some (.cells #[ov, .int .i64 root] 39 (0, 0))
  ge : w.heap.size + 2 < g
  rows : kNode.R 26 W w.heap.size (fun k => some k ≠ bv.ownBlock) ov out
  br : (Kd.int .i64).R 3 W w.heap.size (fun _ => True) bv base
theorem AppRel.later {w : World} {g : Nat} {root : Int} {base : List Int} {bv : Value} {out : List Node} {ov : Value} {W W1 : World} (h : AppRel w g root base bv out ov W) (hb : Below W.heap.size W W1) : AppRel w g root base bv out ov W1 :=
  ⟨(hb.block _ (blk_lt h.box)).trans h.box, h.ge, Kd.R_below h.rows hb, Kd.R_below h.br hb⟩
theorem RebPost.bad {r : Scene × Int × Int} {w w' : World} {er p : Int} (hr : r = (⟨[], 0⟩, er, p)) (hB : Below w.heap.size w w') : RebPost r w (.returned (.tuple #[.agg #[.slice none 0 0, .int .i64 0], .int .i64 er, .int .i64 p])) w' := RebPost.no hr hB
theorem M_new {W : World} {B B' : Nat} {m : Node} {cs : List Value} {u : Value} (h : kNode.M W B (fun _ => True) m cs) (hB : B' ≤ B) (hu : ∀ k, u.ownBlock = some k → k < B) : kNode.M W B' (fun k => some k ≠ u.ownBlock) m cs := by
  obtain ⟨x1, x2, x3, rfl, h1, h2, h3⟩ := kNode_openM h
  have f : ∀ k, B ≤ k → some k ≠ u.ownBlock := fun k hk he => by have := hu k he.symm; omega
  exact kNode_mkM (Kd.R_lower (Kd.R_mono (Kd.R_bound h1) (fun k hk => f k hk.2.1)) hB) (Kd.R_lower (Kd.R_mono (Kd.R_bound h2) (fun k hk => f k hk.2.1)) hB) (Kd.R_lower (Kd.R_mono (Kd.R_bound h3) (fun k hk => f k hk.2.1)) hB)
theorem M_set4 {W : World} {B b i0 i1 i2 i3 : Nat} {m : Node} {cs : List Value} (h : kNode.M W B (fun _ => True) m cs) (hb : b < B) (u0 u1 u2 u3 : Value) : kNode.M ((((W.setCell ⟨b, i0, none⟩ u0).setCell ⟨b, i1, none⟩ u1).setCell ⟨b, i2, none⟩ u2).setCell ⟨b, i3, none⟩ u3) B (fun _ => True) m cs := by
  obtain ⟨x1, x2, x3, rfl, h1, h2, h3⟩ := kNode_openM h
  exact kNode_mkM (R_old4 h1 hb _ _ _ _) (R_old4 h2 hb _ _ _ _) (R_old4 h3 hb _ _ _ _)
theorem Lives.box4 {b : Nat} {W : World} (h : Lives 4 b W) (u0 u1 u2 u3 : Value) : ∃ T, ((((W.setCell ⟨b, 0, none⟩ u0).setCell ⟨b, 1, none⟩ u1).setCell ⟨b, 2, none⟩ u2).setCell ⟨b, 3, none⟩ u3).heap[b]? = some (.cells #[u0, u1, u2, u3] T (0, 0)) := by
  obtain ⟨cs, hk, T, h⟩ := h
  have h2 := blk_set (blk_set (blk_set (blk_set h 0 u0) 1 u1) 2 u2) 3 u3
  refine ⟨T, h2.trans ?_⟩
  obtain ⟨l⟩ := cs
  match l, hk with
  | [_, _, _, _], _ => rfl
structure NF (w : World) (A : Option Addr) (c : Nat) (a : Scene) (g : Nat) (root : Int) (base : List Int) (bv : Value) (out : List Node) (ov : Value) (nb : Nat) (m : Node) (v1 v2 v3 : Value) (W : World) : Prop where
  bx : ABx w A c a W
  ap : AppRel w g root base bv out ov W
  box : ∃ T, W.heap[nb]? = some (.cells #[.int .i64 m.kind, v1, v2, v3] T (0, 0))
  nd : kNode.M W w.heap.size (fun k => some k ≠ bv.ownBlock) m [.int .i64 m.kind, v1, v2, v3]
theorem tailN {K : Act → World → Prop} {Q : Exit → Act → World → Prop} {a : Act} {W : World} (F : World → Prop) (hF : F W) (h : ∀ W', F W' → Exit.then K Q .normal a W') : Exit.then K Q .normal a W := h W hF
theorem M_kids {W : World} {B : Nat} {ok : Nat → Prop} {m : Node} {v1 v2 : Value} {A : Option Addr} {c : Nat} (h : kNode.M W B ok m [.int .i64 m.kind, v1, v2, .slice A m.kids.length c]) : (Kd.int .i64).C W A m.kids.length m.kids := by
  obtain ⟨x1, x2, x3, e, h1, h2, h3⟩ := kNode_openM h
  injection e with _ e
  injection e with e1 e
  injection e with e2 e
  injection e with e3 _
  subst e3
  exact (Kd.R_reads' h3).2.2
theorem M_off2 {W : World} {base : Nat} {ok ok' : Nat → Prop} {m : Node} {cs : List Value} {v4 : Value} {xs : List Node} (h : kNode.M W base ok m cs) (hr : kNode.R 26 W base ok' v4 xs) : kNode.M W base (fun k => ok k ∧ some k ≠ v4.ownBlock) m cs := by
  obtain ⟨x1, x2, x3, rfl, h1, h2, h3⟩ := kNode_openM h
  have ht : ∀ k, v4.ownBlock = some k → ∃ cells, W.heap[k]? = some (.cells cells 26 (0, 0)) := fun k hk => by
    obtain ⟨inner, ho⟩ := Kd.R_own hr
    exact own_typed ho k hk
  have f : ∀ k q (cells : Array Value), W.heap[k]? = some (.cells cells q (0, 0)) → q ≠ 26 → some k ≠ v4.ownBlock := fun k q cells hc hq he => by
    obtain ⟨cells', hc'⟩ := ht k he.symm
    rw [hc] at hc'
    injection hc' with e
    injection e with _ e
    exact hq e
  exact kNode_mkM (Kd.R_mono (Kd.R_bound h1) (fun k hk => ⟨hk.1, by obtain ⟨_, _, _, q, hq, cells, hc⟩ := hk; exact f k q cells hc (fun e => by subst e; revert hq; decide)⟩)) (Kd.R_mono (Kd.R_bound h2) (fun k hk => ⟨hk.1, by obtain ⟨_, _, _, q, hq, cells, hc⟩ := hk; exact f k q cells hc (fun e => by subst e; revert hq; decide)⟩)) (Kd.R_mono (Kd.R_bound h3) (fun k hk => ⟨hk.1, by obtain ⟨_, _, _, q, hq, cells, hc⟩ := hk; exact f k q cells hc (fun e => by subst e; revert hq; decide)⟩))
theorem ABx.grown {w : World} {A : Option Addr} {c : Nat} {a : Scene} {W W1 : World} {v : Value} (h : ABx w A c a W) (hne : ∀ (q : Nat) (cs : Array Value), W.heap[q]? = some (.cells cs 39 (0, 0)) → some q ≠ v.ownBlock) (hg : W.grownBy W1 v.ownBlock) (hB : Below w.heap.size w W1) : ABx w A c a W1 :=
  ⟨hB, blk_grown h.sb hg (hne _ _ h.sb), blk_grown h.res hg (hne _ _ h.res), blk_grown h.non hg (hne _ _ h.non)⟩
theorem ABx.far {w : World} {A : Option Addr} {c : Nat} {a : Scene} {W : World} {g i : Nat} (h : ABx w A c a W) (hg : w.heap.size + 2 < g) (u : Value) : ABx w A c a (W.setCell ⟨g, i, none⟩ u) :=
  ⟨below_set h.below (by omega), (Below.heap_setCell W ⟨g, i, none⟩ u _ (by show w.heap.size ≠ g; omega)).trans h.sb, (Below.heap_setCell W ⟨g, i, none⟩ u _ (by show w.heap.size + 1 ≠ g; omega)).trans h.res, (Below.heap_setCell W ⟨g, i, none⟩ u _ (by show w.heap.size + 2 ≠ g; omega)).trans h.non⟩
section
variable {w : World} {g : Nat} {root : Int} {base : List Int} {bv : Value} {out : List Node} {ov : Value} {W W1 : World}
theorem AppRel.push {v1 : Value} {m : Node} (h : AppRel w g root base bv out ov W) (hR : kNode.R 26 W1 w.heap.size (fun k => some k ≠ bv.ownBlock) v1 (out ++ [m])) (hg : W.grownBy W1 ov.ownBlock) :
    W1.heap[g]? = some (.cells #[ov, .int .i64 root] 39 (0, 0)) ∧ AppRel w g root base bv (out ++ [m]) v1 (W1.setCell ⟨g, 0, none⟩ v1) := by
  have hblk := blk_grown h.box hg (Kd.R_ne h.rows h.box (by decide))
  refine ⟨hblk, ?_, h.ge, R_type hR hblk (by decide) _ _, R_type (Kd.R_over h.br (Kd.R_mono h.rows (fun _ _ => trivial) : kNode.R 26 W w.heap.size (fun _ => True) ov out) (by decide) hg) hblk (by decide) _ _⟩
  have := blk_set hblk 0 v1
  simpa using this
theorem AppRel.more {bv1 : Value} {x : Int} (h : AppRel w g root base bv out ov W) (hR : (Kd.int .i64).R 3 W1 w.heap.size (fun _ => True) bv1 (base ++ [x])) (hg : W.grownBy W1 bv.ownBlock) (hat : bv1.ownBlock = bv.ownBlock ∨ ∃ b, bv1.ownBlock = some b ∧ W.heap.size ≤ b) : AppRel w g root (base ++ [x]) bv1 out ov W1 :=
  ⟨blk_grown h.box hg (Kd.R_ne h.br h.box (by decide)), h.ge, Kd.R_mono (Kd.R_grown (Kd.R_bound h.rows) hg (fun k hk => hk.1)) (fun k hk he => by
    rcases hat with e | ⟨b, e, hb⟩
    · exact hk.1 (he.trans e)
    · rw [e] at he
      injection he with he
      have := hk.2.2.1
      omega), hR⟩
end
theorem lives_set4 {b : Nat} {W : World} (h : Lives 4 b W) (g i : Nat) (u : Value) : Lives 4 b (W.setCell ⟨g, i, none⟩ u) := by
  by_cases e : g = b
  · subst e; exact h.set i u
  · obtain ⟨cs, hk, t, h⟩ := h
    exact ⟨cs, hk, t, (Below.heap_setCell W ⟨g, i, none⟩ u b (fun e' => e e'.symm)).trans h⟩
set_option maxRecDepth 100000 in
set_option maxHeartbeats 8000000 in
theorem rrapp_any (A : Option Addr) (c : Nat) (a : Scene) (Al : Option Addr) (cl : Nat) (l : List Opn) (w : World) (h : kNode.C w A a.nodes.length a.nodes) (hca : a.nodes.length ≤ c) (hl : kOpn.C w Al l.length l) (hM : rows a.nodes ≤ 400000) (ha : ∀ i : Nat, i < a.nodes.length → OkN 4000 (nd a.nodes i)) (ho : ∀ k : Nat, k < l.length → OpOk (op l k)) (hn60 : l.length ≤ 60) :
    Calls Tryd.prog 30 #[.agg #[.slice A a.nodes.length c, .int .i64 a.root], .slice Al l.length cl] w (RebPost (applyR a l) w) := by
  have HR := Aside0.mk h
  have HCa := Aside0.mk hca
  have HOps := Aside0.mk hl
  have HM := Aside0.mk hM
  have HOk := Aside0.mk ha
  have HOp := Aside0.mk ho
  have hu := Tryd.underlying39
  have hun := Tryd.underlying26
  have huo := Tryd.underlying61
  have HBx := Aside0.mk (show ABx w A c a (((w.alloc (.cells #[.slice A a.nodes.length c, .int .i64 a.root] 39)).alloc (.cells zeroS 39)).alloc (.cells zeroS 39)) from by
    have b1 := below_alloc (Below.refl w.heap.size w) (.cells #[.slice A a.nodes.length c, .int .i64 a.root] 39)
    have n1 := heap_alloc_new w (.cells #[.slice A a.nodes.length c, .int .i64 a.root] 39)
    generalize hw1 : w.alloc (.cells #[.slice A a.nodes.length c, .int .i64 a.root] 39) = W1 at b1 n1 ⊢
    have s1 : W1.heap.size = w.heap.size + 1 := by rw [← hw1]; simp
    have b2 := below_alloc (Below.refl W1.heap.size W1) (.cells zeroS 39)
    have n2 := heap_alloc_new W1 (.cells zeroS 39)
    generalize hw2 : W1.alloc (.cells zeroS 39) = W2 at b2 n2 ⊢
    have s2 : W2.heap.size = w.heap.size + 2 := by rw [← hw2]; simp; omega
    have b3 := below_alloc (Below.refl W2.heap.size W2) (.cells zeroS 39)
    have n3 := heap_alloc_new W2 (.cells zeroS 39)
    rw [s1] at n2
    rw [s2] at n3
    exact ⟨below_step (below_step b1 b2) b3, (b3.block _ (by omega)).trans ((b2.block _ (by omega)).trans n1), (b3.block _ (by omega)).trans n2, n3⟩)
  clear h hca hl hM ha ho
  go_enter Tryd.func30, Tryd.ntmps30
  go_wp2_with fail
  refine (rtyped_2 A c a _ (Kd.C_below HR.out HBx.out.below) (fun i hi => (HOk.out i hi).small (by omega)) (fun i hi => (HOk.out i hi).texts)).mono ?_
  rintro e w1 ⟨rfl, hB1⟩
  have HBx1 := Aside0.mk (HBx.out.later hB1)
  clear hB1 HBx
  dsimp only
  by_cases hty : ¬ (typedS newTab a.nodes).1 = 0
  · have HE := Aside0.mk (show applyR a l = (⟨[], 0⟩, (typedS newTab a.nodes).1, -1) from if_neg hty)
    have dz : ((typedS newTab a.nodes).1 != 0) = true := by simpa using hty
    obtain ⟨e0, e0f, e1, e1f⟩ := slots2 HBx1.out.res (.slice none 0 0)
    have n0 : w1.cell? ⟨w.heap.size + 2, 0, none⟩ = some (.slice none 0 0) := blk_at HBx1.out.non 0 rfl
    have n1 : w1.cell? ⟨w.heap.size + 2, 1, none⟩ = some (.int .i64 0) := blk_at HBx1.out.non 1 rfl
    clear hty
    generalize (typedS newTab a.nodes).1 = er at dz HE ⊢
    go_wp2
    have h2 := res2 HBx1.out.res (.slice none 0 0) (.int .i64 0)
    exact bodyPost_ret (v := .tuple #[.agg #[.slice none 0 0, .int .i64 0], .int .i64 er, .int .i64 (-1)]) (by simp [results, Tryd.results30, go_sem, h2]) rfl (RebPost.no HE.out (below_set2 HBx1.out.below (Nat.le_succ _)))
  replace hty := Classical.byContradiction hty
  have HTy := Aside0.mk hty
  rw [hty]
  clear hty
  have k0 : w1.cell? ⟨w.heap.size, 0, none⟩ = some (.slice A a.nodes.length c) := blk_at HBx1.out.sb 0 rfl
  have k1 : w1.cell? ⟨w.heap.size, 1, none⟩ = some (.int .i64 a.root) := blk_at HBx1.out.sb 1 rfl
  go_wp2_with fail
  refine (ris_any A c a _ (Kd.C_below HR.out HBx1.out.below) HCa.out HM.out (fun i hi => (HOk.out i hi).small (by omega))).mono ?_
  rintro e w2 ⟨rfl, hB2⟩
  have HBx2 := Aside0.mk (HBx1.out.later hB2)
  clear hB2 HBx1 k0 k1
  by_cases hic : ¬ isC a = true
  · have HE := Aside0.mk (show applyR a l = (⟨[], 0⟩, 16, -1) from by unfold applyR; rw [if_pos HTy.out, if_neg hic])
    rw [Bool.eq_false_iff.2 hic]
    obtain ⟨e0, e0f, e1, e1f⟩ := slots2 HBx2.out.res (.slice none 0 0)
    have n0 : w2.cell? ⟨w.heap.size + 2, 0, none⟩ = some (.slice none 0 0) := blk_at HBx2.out.non 0 rfl
    have n1 : w2.cell? ⟨w.heap.size + 2, 1, none⟩ = some (.int .i64 0) := blk_at HBx2.out.non 1 rfl
    clear hic
    go_wp2
    have h2 := res2 HBx2.out.res (.slice none 0 0) (.int .i64 0)
    exact bodyPost_ret (v := .tuple #[.agg #[.slice none 0 0, .int .i64 0], .int .i64 16, .int .i64 (-1)]) (by simp [results, Tryd.results30, go_sem, h2]) rfl (RebPost.no HE.out (below_set2 HBx2.out.below (Nat.le_succ _)))
  replace hic := Classical.byContradiction hic
  have HE : Aside0 (applyR a l = resR (runO a.nodes l [] [] 0)) := ⟨by unfold applyR; rw [if_pos HTy.out, if_pos hic]⟩
  rw [hic]
  clear hic
  have hwp : IntKind.i64.wrap ((l.length : Int) - 1) = (l.length : Int) - 1 := wrap_i (by omega) (by omega)
  go_wp2
  have hA1 := below_alloc (Below.refl w2.heap.size w2) (.cells #[.slice none 0 0, .int .i64 ((l.length : Int) - 1)] 39)
  have hX1 : (w2.alloc (.cells #[.slice none 0 0, .int .i64 ((l.length : Int) - 1)] 39)).heap[w2.heap.size]? = some (.cells #[.slice none 0 0, .int .i64 ((l.length : Int) - 1)] 39 (0, 0)) := by simpa using heap_alloc_new w2 _
  generalize hW1 : w2.alloc (.cells #[.slice none 0 0, .int .i64 ((l.length : Int) - 1)] 39) = W1 at hA1 hX1 ⊢
  have hs1 : W1.heap.size = w2.heap.size + 1 := by rw [← hW1]; simp
  have hE := R_empty (Kd.int .i64) 3 W1 w.heap.size (by rw [hs1]; have := HBx2.out.below.size; omega)
  have hA2 := below_alloc (Below.refl W1.heap.size W1) (.cells #[] 3)
  rw [hs1] at hE
  have HBx3 := Aside0.mk ((HBx2.out.later hA1).later hA2)
  have HAp := Aside0.mk (show AppRel w w2.heap.size ((l.length : Int) - 1) [] (.slice (some ⟨w2.heap.size + 1, 0, none⟩) 0 0) [] (.slice none 0 0) (W1.alloc (.cells #[] 3)) from
    ⟨(hA2.block _ (blk_lt hX1)).trans hX1, blk_lt HBx2.out.non, Kd.R_nil _ _ _ _ _, hE⟩)
  clear hA1 hX1 hs1 hE hA2 hW1 HBx2 hwp
  generalize W1.alloc (.cells #[] 3) = W3 at HBx3 HAp ⊢
  generalize w2.heap.size + 1 = gb at HAp ⊢
  generalize w2.heap.size = g at HAp ⊢
  go_loopw [11, 12] (fun v11 v12 W => ∃ k : Nat, k ≤ l.length ∧ v12 = .int .i64 k ∧ ∃ base Bb db out ov, base.length = k ∧ v11 = .slice Bb k db ∧ Aside0 (out.length = k ∧ runO a.nodes (l.drop k) base out k = runO a.nodes l [] [] 0 ∧ ∀ i : Nat, i < out.length → OkN 5000 (nd out i)) ∧ Aside0 (ABx w A c a W) ∧ Aside0 (AppRel w g ((l.length : Int) - 1) base (.slice Bb k db) out ov W)) (fun _ v12 _ => l.length - (intOf v12).toNat)
  case atStart => exact ⟨0, by omega, rfl, [], _, _, [], _, rfl, rfl, ⟨rfl, rfl, fun i hi => by simp at hi⟩, HBx3, HAp⟩
  case round =>
    clear HBx3 HAp
    obtain ⟨k, hk, rfl, base, Bb, db, out, ov, hbk, rfl, HI, HBx, HAp⟩ := hrel
    subst hbk
    by_cases hlt : base.length < l.length
    · obtain ⟨ad, B1, d1, B2, d2, A1, c1, A2, c2, A3, c3, rfl, x0, x1, x2, x3, x4, x5, x6, x7, hO⟩ := at_op HOps.out base.length hlt
      have HX01 := Aside0.mk (And.intro x0 x1)
      replace x0 := pw_cell_below HBx.out.below x0
      replace x1 := pw_cell_below HBx.out.below x1
      replace x2 := pw_cell_below HBx.out.below x2
      replace x3 := pw_cell_below HBx.out.below x3
      replace x4 := pw_cell_below HBx.out.below x4
      replace x5 := pw_cell_below HBx.out.below x5
      replace x6 := pw_cell_below HBx.out.below x6
      replace x7 := pw_cell_below HBx.out.below x7
      have hop := HOp.out base.length hlt
      have HOk1 := Aside0.mk hop
      have HStep := Aside0.mk (fun hz => (runO_step (a := a.nodes) (base := base) (out := out) hlt hz))
      have HBad := Aside0.mk (fun hz => (runO_bad (a := a.nodes) (base := base) (out := out) hlt hz))
      generalize op l base.length = o at x0 x1 x2 x3 x4 x5 x6 x7 hO hop HOk1 HStep HBad HX01
      have k0 : wr.cell? ⟨w.heap.size, 0, none⟩ = some (.slice A a.nodes.length c) := blk_at HBx.out.sb 0 rfl
      have k1 : wr.cell? ⟨w.heap.size, 1, none⟩ = some (.int .i64 a.root) := blk_at HBx.out.sb 1 rfl
      have hcall : ∀ W, Below wr.heap.size wr W → Calls Tryd.prog 57 #[.agg #[.slice A a.nodes.length c, .int .i64 a.root], .agg (opV o B1 d1 B2 d2 A1 c1 A2 c2 A3 c3), .slice Bb base.length db, .int .i64 (base.length : Int)] W (NodePost (oneN a.nodes base o) W) := fun W hb =>
        rone_any A c a o B1 d1 B2 d2 A1 c1 A2 c2 A3 c3 Bb db base W (Kd.C_below HR.out (below_step HBx.out.below hb)) (hO.below (below_step HBx.out.below hb)) (Kd.C_below (Kd.R_reads' HAp.out.br).2.2 hb) (Kd.R_reads' HAp.out.br).2.1 (by omega) HOk.out hop
      obtain ⟨r, hr⟩ : ∃ r, oneN a.nodes base o = r := ⟨_, rfl⟩
      have HE1 := Aside0.mk hr
      rw [hr] at hcall
      clear hr hO hop
      obtain ⟨m, er⟩ := r
      have HCall := Aside0.mk hcall
      clear hcall
      have K0 : ∀ W, Below wr.heap.size wr W → W.cell? ⟨w.heap.size, 0, none⟩ = some (.slice A a.nodes.length c) := fun W h => pw_cell_below h k0
      have K1 : ∀ W, Below wr.heap.size wr W → W.cell? ⟨w.heap.size, 1, none⟩ = some (.int .i64 a.root) := fun W h => pw_cell_below h k1
      have X0 : ∀ W, Below wr.heap.size wr W → W.cell? _ = some _ := fun W h => pw_cell_below h x0
      have X1 : ∀ W, Below wr.heap.size wr W → W.cell? _ = some _ := fun W h => pw_cell_below h x1
      have X2 : ∀ W, Below wr.heap.size wr W → W.cell? _ = some _ := fun W h => pw_cell_below h x2
      have X3 : ∀ W, Below wr.heap.size wr W → W.cell? _ = some _ := fun W h => pw_cell_below h x3
      have X4 : ∀ W, Below wr.heap.size wr W → W.cell? _ = some _ := fun W h => pw_cell_below h x4
      have X5 : ∀ W, Below wr.heap.size wr W → W.cell? _ = some _ := fun W h => pw_cell_below h x5
      have X6 : ∀ W, Below wr.heap.size wr W → W.cell? _ = some _ := fun W h => pw_cell_below h x6
      have X7 : ∀ W, Below wr.heap.size wr W → W.cell? _ = some _ := fun W h => pw_cell_below h x7
      have L1 : ∀ (b : Nat) (W : World), Lives 4 b W → W.cell? ⟨b, 0, none⟩ = some (cellAt W b 0) := fun b W h => (h.at 0 (by omega)).1
      have L2 : ∀ (b : Nat) (W : World), Lives 4 b W → W.cell? ⟨b, 1, none⟩ = some (cellAt W b 1) := fun b W h => (h.at 1 (by omega)).1
      have L3 : ∀ (b : Nat) (W : World), Lives 4 b W → W.cell? ⟨b, 2, none⟩ = some (cellAt W b 2) := fun b W h => (h.at 2 (by omega)).1
      have L4 : ∀ (b : Nat) (W : World), Lives 4 b W → W.cell? ⟨b, 3, none⟩ = some (cellAt W b 3) := fun b W h => (h.at 3 (by omega)).1
      have M1 : ∀ (b : Nat) (W : World), Lives 4 b W → W.frozen? ⟨b, 0, none⟩ = false := fun b W h => (h.at 0 (by omega)).2
      have M2 : ∀ (b : Nat) (W : World), Lives 4 b W → W.frozen? ⟨b, 1, none⟩ = false := fun b W h => (h.at 1 (by omega)).2
      have M3 : ∀ (b : Nat) (W : World), Lives 4 b W → W.frozen? ⟨b, 2, none⟩ = false := fun b W h => (h.at 2 (by omega)).2
      have M4 : ∀ (b : Nat) (W : World), Lives 4 b W → W.frozen? ⟨b, 3, none⟩ = false := fun b W h => (h.at 3 (by omega)).2
      have N1 : ∀ (b : Nat) (W : World) (o : Obj), Lives 4 b W → Lives 4 b (W.alloc o) := fun b W o h => h.below (below_alloc (Below.refl _ _) o)
      have N2 : ∀ (b : Nat) (W : World) (g i : Nat) (u : Value), Lives 4 b W → Lives 4 b (W.setCell ⟨g, i, none⟩ u) := fun b W g i u h => lives_set4 h g i u
      have N3 : ∀ W : World, Lives 4 W.heap.size (W.alloc (.cells #[.int .i64 0, .slice none 0 0, .slice none 0 0, .slice none 0 0] 26)) := fun W => Lives.new W #[_, _, _, _] _
      have N5 : ∀ (b : Nat) (W : World), Lives 4 b W → Lives 4 b W.drew := fun b W h => h.drew
      clear k0 k1 x0 x1 x2 x3 x4 x5 x6 x7
      go_wp2_with fail
      go_region_held3 (fun W => Below wr.heap.size wr W)
        (repeat' (first
          | with_reducible assumption
          | with_reducible exact Below.refl _ _
          | with_reducible refine below_drew ?_
          | with_reducible apply below_alloc
          | (with_reducible refine below_set ?_ ?_)
          | omega
          | (simp; omega)))
        (first
          | (go_at_call 57; refine (HCall.out _ (by first | assumption | exact below_alloc (by assumption) _ | exact below_drew (below_alloc (by assumption) _))).mono ?_; rintro e w6 ⟨v1, v2, v3, rfl, hM, hB⟩; obtain ⟨A5, c5, A6, c6, A7, c7, rfl, rfl, rfl⟩ := M_slices hM; have hB6 := hB; have hz6 := hB.size; have hs6 := below_step (by first | assumption | exact below_alloc (by assumption) _ | exact below_alloc (below_alloc (by assumption) _) _) hB; (try have la6 : Lives 4 wr.heap.size w6 := (by first | exact Lives.below (N5 _ _ (N3 wr)) hB | exact Lives.below (N3 wr) hB)); (try have hx6 : wr.heap.size < w6.heap.size := (by have hz := hz6; simp at hz; omega))))
      (refine tailN (fun W => NF w A c a g ((l.length : Int) - 1) base (.slice Bb base.length db) out ov w6.heap.size m (.slice A5 m.ints.length c5) (.slice A6 m.texts.length c6) (.slice A7 m.kids.length c7) W) (show NF _ _ _ _ _ _ _ _ _ _ _ _ _ _ _ (w6.alloc (.cells #[.int .i64 m.kind, .slice A5 m.ints.length c5, .slice A6 m.texts.length c6, .slice A7 m.kids.length c7] 26)) from
               ⟨(HBx.out.later hs6).later (below_alloc (Below.refl _ _) _), (HAp.out.later hs6).later (below_alloc (Below.refl _ _) _), ⟨_, by simpa using heap_alloc_new w6 _⟩, M_new (M_below hM (below_alloc (Below.refl _ _) _)) (by first | exact HBx.out.below.size | (have := HBx.out.below.size; simp; omega)) (fun k hk => by have := Kd.R_lt HAp.out.br k hk; first | exact this | (simp; omega))⟩) ?_; intro w7 hN; generalize w6.heap.size = nb at hN ⊢; have HN := Aside0.mk hN)
      rotate_left
      (refine tailN (fun W => NF w A c a g ((l.length : Int) - 1) base (.slice Bb base.length db) out ov wr.heap.size m (.slice A5 m.ints.length c5) (.slice A6 m.texts.length c6) (.slice A7 m.kids.length c7) W) 
               ⟨HBx.out.later (below_set4 hs6 (Nat.le_refl _)), HAp.out.later (below_set4 hs6 (Nat.le_refl _)), la6.box4 _ _ _ _, M_new (M_set4 hM (by simp) _ _ _ _) (by first | exact HBx.out.below.size | (have := HBx.out.below.size; simp; omega)) (fun k hk => by have := Kd.R_lt HAp.out.br k hk; first | exact this | (simp; omega))⟩ ?_; intro w7 hN; generalize wr.heap.size = nb at hN ⊢; have HN := Aside0.mk hN)
      all_goals
        clear K0 K1 X0 X1 X2 X3 X4 X5 X6 X7 L1 L2 L3 L4 M1 M2 M3 M4 N1 N2 N3 N5
        clear hN hM hB hB6 hz6 hs6
        obtain ⟨T, hbox⟩ := HN.out.box
        have y0 : w7.cell? ⟨nb, 0, none⟩ = some (.int .i64 m.kind) := blk_at hbox 0 rfl
        have y1 : w7.cell? ⟨nb, 1, none⟩ = some (.slice A5 m.ints.length c5) := blk_at hbox 1 rfl
        have y2 : w7.cell? ⟨nb, 2, none⟩ = some (.slice A6 m.texts.length c6) := blk_at hbox 2 rfl
        have y3 : w7.cell? ⟨nb, 3, none⟩ = some (.slice A7 m.kids.length c7) := blk_at hbox 3 rfl
        have n0 : w7.cell? ⟨w.heap.size + 2, 0, none⟩ = some (.slice none 0 0) := blk_at HN.out.bx.non 0 rfl
        have n1 : w7.cell? ⟨w.heap.size + 2, 1, none⟩ = some (.int .i64 0) := blk_at HN.out.bx.non 1 rfl
        clear hbox
        by_cases hz : er = 0
        · subst hz
          have dz : ((0 : Int) != 0) = false := rfl
          have hkc := M_kids HN.out.nd
          have HOm : Aside0 (OkN 5000 m) := ⟨by have h := oneN_ok (base := base) HOk.out HOk1.out (by rw [HE1.out]); rw [HE1.out] at h; exact h⟩
          have hkl := HOm.out.2.2.1
          go_wp2
          go_loopw [15] (fun v15 W => ∃ j : Nat, j ≤ m.kids.length ∧ v15 = .int .i64 j ∧ Aside0 (∀ i : Nat, i < j → noPlace base.length (rd m.kids i) = false) ∧ W = w7) (fun v15 _ => m.kids.length - (intOf v15).toNat)
          case atStart => exact ⟨0, by omega, rfl, ⟨fun i hi => by omega⟩, rfl⟩
          case round =>
            obtain ⟨j, hj, rfl, HP, rfl⟩ := hrel
            by_cases hlj : j < m.kids.length
            · obtain ⟨adk, hadk, z0⟩ := at_nat hkc j hlj
              subst hadk
              by_cases h1 : rd m.kids j < 0
              · have d1 : decide (rd m.kids j < 0) = true := decide_eq_true h1
                have hBd : noPlace base.length (rd m.kids j) = true := by unfold noPlace; rw [d1]; rfl
                have HDe : Aside0 (doErr a.nodes base out.length o = 13) := ⟨by unfold doErr; rw [HE1.out]; exact (if_pos rfl).trans (if_pos (by rw [HI.out.1]; exact kidsBad_at hlj hBd))⟩
                have HE' := Aside0.mk (show applyR a l = (⟨[], 0⟩, 13, (base.length : Int)) from by rw [HE.out, ← HI.out.2.1, HBad.out (by rw [HDe.out]; decide), HDe.out]; rfl)
                obtain ⟨e0, e0f, e1, e1f⟩ := slots2 HN.out.bx.res (.slice none 0 0)
                clear hBd
                go_wp2
                have h2 := res2 HN.out.bx.res (.slice none 0 0) (.int .i64 0)
                exact bodyPost_ret (v := .tuple #[.agg #[.slice none 0 0, .int .i64 0], .int .i64 13, .int .i64 (base.length : Int)]) (by simp [results, Tryd.results30, go_sem, h2]) rfl (RebPost.no HE'.out (below_set2 HN.out.bx.below (Nat.le_succ _)))
              · have d1 : decide (rd m.kids j < 0) = false := decide_eq_false h1
                by_cases h2 : (base.length : Int) ≤ rd m.kids j
                · have d2 : decide ((base.length : Int) ≤ rd m.kids j) = true := decide_eq_true h2
                  have hBd : noPlace base.length (rd m.kids j) = true := by unfold noPlace; rw [d1, d2]; rfl
                  have HDe : Aside0 (doErr a.nodes base out.length o = 13) := ⟨by unfold doErr; rw [HE1.out]; exact (if_pos rfl).trans (if_pos (by rw [HI.out.1]; exact kidsBad_at hlj hBd))⟩
                  have HE' := Aside0.mk (show applyR a l = (⟨[], 0⟩, 13, (base.length : Int)) from by rw [HE.out, ← HI.out.2.1, HBad.out (by rw [HDe.out]; decide), HDe.out]; rfl)
                  obtain ⟨e0, e0f, e1, e1f⟩ := slots2 HN.out.bx.res (.slice none 0 0)
                  clear hBd
                  go_wp2
                  have h2 := res2 HN.out.bx.res (.slice none 0 0) (.int .i64 0)
                  exact bodyPost_ret (v := .tuple #[.agg #[.slice none 0 0, .int .i64 0], .int .i64 13, .int .i64 (base.length : Int)]) (by simp [results, Tryd.results30, go_sem, h2]) rfl (RebPost.no HE'.out (below_set2 HN.out.bx.below (Nat.le_succ _)))
                · have d2 : decide ((base.length : Int) ≤ rd m.kids j) = false := decide_eq_false h2
                  have HP' : Aside0 (∀ i : Nat, i < j + 1 → noPlace base.length (rd m.kids i) = false) := ⟨fun i hi => by
                    by_cases e : i = j
                    · subst e; unfold noPlace; rw [d1, d2]; rfl
                    · exact HP.out i (by omega)⟩
                  clear h1 h2
                  go_wp2
                  go_roundw
                  case rel => exact ⟨j + 1, by omega, by go_num, HP', by first | rfl | trivial⟩
                  case measure => simp [intOf]; omega
            · have HDe : Aside0 (doErr a.nodes base out.length o = 0) := ⟨by unfold doErr; rw [HE1.out]; exact (if_pos rfl).trans (if_neg (by rw [HI.out.1, kidsBad_no (Nat.le_of_not_lt hlj) HP.out]; exact Bool.false_ne_true))⟩
              have HRun := Aside0.mk (HStep.out HDe.out)
              obtain ⟨Av, cv, hvs⟩ := Kd.R_slice HN.out.ap.rows
              subst hvs
              have g0 : wr.cell? ⟨g, 0, none⟩ = some (.slice Av out.length cv) := blk_at HN.out.ap.box 0 rfl
              have hba := below_alloc (Below.refl wr.heap.size wr) (.cells #[.int .i64 m.kind, .slice A5 m.ints.length c5, .slice A6 m.texts.length c6, .slice A7 m.kids.length c7] 26)
              have g0a := pw_cell_below hba g0
              have HMk := Aside0.mk (M_off2 HN.out.nd HN.out.ap.rows)
              have hol : out.length ≤ 60 := by have := HI.out.1; omega
              clear hba
              by_cases hk3 : o.kind = 3
              · have e3 : (o.kind == 3) = true := by simpa using hk3
                have HBo : baseOf o = (-2) := by unfold baseOf; rw [if_pos hk3]
                have HI' : Aside0 ((out ++ [m]).length = base.length + 1 ∧ runO a.nodes (l.drop (base.length + 1)) (base ++ [(-2)]) (out ++ [m]) (base.length + 1) = runO a.nodes l [] [] 0 ∧ ∀ i : Nat, i < (out ++ [m]).length → OkN 5000 (nd (out ++ [m]) i)) := ⟨by simp; exact HI.out.1, by rw [← HI.out.2.1, HRun.out, HBo, HE1.out], nd_snoc HI.out.2.2 HOm.out⟩
                go_wp2_with (first
                  | (at_builtin; refine Kd.R_append kNode (w0 := w) w.heap.size rfl (.tmp 86) (.tmp 88) 30 26 (.agg #[.int .i64 0, .slice none 0 0, .slice none 0 0, .slice none 0 0]) 80 rfl Tryd.underlying30 info_nodez rfl (by decide) (by omega) (.slice Av out.length cv) out m [.int .i64 m.kind, .slice A5 m.ints.length c5, .slice A6 m.texts.length c6, .slice A7 m.kids.length c7] (fun k => some k ≠ (Value.slice Bb base.length db).ownBlock) _ rfl (by go_simp) HMk.out (fun _ hk => hk) (fun k hk he => by have := Kd.R_lt HN.out.ap.br k he.symm; omega) HN.out.ap.rows HN.out.bx.below HN.out.bx.below.size (by omega) ?_; intro v5 w8 hR8 hB8 hg8 hat8; obtain ⟨A8, c8, hv8⟩ := Kd.R_slice hR8; rw [show (out ++ [m]).length = out.length + 1 from by simp] at hv8; subst hv8; obtain ⟨hb8, hN8⟩ := HN.out.ap.push hR8 hg8; have f0 : w8.cell? ⟨g, 0, none⟩ = some (.slice Av out.length cv) := blk_at hb8 0 rfl; have f0f := blk_frozen hb8 0; have HBx8 := Aside0.mk ((HN.out.bx.grown (fun q cs hq => Kd.R_ne HN.out.ap.rows hq (by decide)) hg8 hB8).far HN.out.ap.ge (i := 0) (.slice A8 (out.length + 1) c8)); have HN8 := Aside0.mk hN8; have z0 := pw_cell_below HBx8.out.below HX01.out.1; have z1 := pw_cell_below HBx8.out.below HX01.out.2; clear hR8 hB8 hg8 hat8 hb8 hN8)
                  | (at_builtin; refine Kd.R_append (Kd.int .i64) (w0 := w) w.heap.size rfl (.tmp 97) (.tmp 98) 24 3 (.int .i64 0) 8 rfl Tryd.underlying24 info_int rfl (by decide) (by omega) (.slice Bb base.length db) base _ [_] (fun _ => True) (fun _ => False) rfl (by go_simp) rfl (fun _ h => h.elim) (fun _ _ => trivial) HN8.out.br HBx8.out.below HBx8.out.below.size (by omega) ?_; intro v9 w9 hR9 hB9 hg9 hat9; obtain ⟨B9, d9, hv9⟩ := Kd.R_slice hR9; replace hv9 := hv9.trans (show Value.slice B9 (base ++ [(-2)]).length d9 = Value.slice B9 (base.length + 1) d9 from by simp); subst hv9; have HN9 := Aside0.mk (HN8.out.more hR9 hg9 hat9); have HBx9 := Aside0.mk (HBx8.out.grown (fun q cs hq => Kd.R_ne HN8.out.br hq (by decide)) hg9 hB9); clear hR9 hB9 hg9 hat9 z0 z1 f0 f0f))
                go_roundw
                case rel => exact ⟨base.length + 1, by omega, by go_num, base ++ [(-2)], B9, d9, out ++ [m], _, by simp, rfl, HI', HBx9, HN9⟩
                case measure => simp [intOf]; omega
              · have e3 : (o.kind == 3) = false := by simpa using hk3
                have HBo : baseOf o = o.base := by unfold baseOf; rw [if_neg hk3]
                have HI' : Aside0 ((out ++ [m]).length = base.length + 1 ∧ runO a.nodes (l.drop (base.length + 1)) (base ++ [o.base]) (out ++ [m]) (base.length + 1) = runO a.nodes l [] [] 0 ∧ ∀ i : Nat, i < (out ++ [m]).length → OkN 5000 (nd (out ++ [m]) i)) := ⟨by simp; exact HI.out.1, by rw [← HI.out.2.1, HRun.out, HBo, HE1.out], nd_snoc HI.out.2.2 HOm.out⟩
                go_wp2_with (first
                  | (at_builtin; refine Kd.R_append kNode (w0 := w) w.heap.size rfl (.tmp 86) (.tmp 88) 30 26 (.agg #[.int .i64 0, .slice none 0 0, .slice none 0 0, .slice none 0 0]) 80 rfl Tryd.underlying30 info_nodez rfl (by decide) (by omega) (.slice Av out.length cv) out m [.int .i64 m.kind, .slice A5 m.ints.length c5, .slice A6 m.texts.length c6, .slice A7 m.kids.length c7] (fun k => some k ≠ (Value.slice Bb base.length db).ownBlock) _ rfl (by go_simp) HMk.out (fun _ hk => hk) (fun k hk he => by have := Kd.R_lt HN.out.ap.br k he.symm; omega) HN.out.ap.rows HN.out.bx.below HN.out.bx.below.size (by omega) ?_; intro v5 w8 hR8 hB8 hg8 hat8; obtain ⟨A8, c8, hv8⟩ := Kd.R_slice hR8; rw [show (out ++ [m]).length = out.length + 1 from by simp] at hv8; subst hv8; obtain ⟨hb8, hN8⟩ := HN.out.ap.push hR8 hg8; have f0 : w8.cell? ⟨g, 0, none⟩ = some (.slice Av out.length cv) := blk_at hb8 0 rfl; have f0f := blk_frozen hb8 0; have HBx8 := Aside0.mk ((HN.out.bx.grown (fun q cs hq => Kd.R_ne HN.out.ap.rows hq (by decide)) hg8 hB8).far HN.out.ap.ge (i := 0) (.slice A8 (out.length + 1) c8)); have HN8 := Aside0.mk hN8; have z0 := pw_cell_below HBx8.out.below HX01.out.1; have z1 := pw_cell_below HBx8.out.below HX01.out.2; clear hR8 hB8 hg8 hat8 hb8 hN8)
                  | (at_builtin; refine Kd.R_append (Kd.int .i64) (w0 := w) w.heap.size rfl (.tmp 100) (.tmp 106) 24 3 (.int .i64 0) 8 rfl Tryd.underlying24 info_int rfl (by decide) (by omega) (.slice Bb base.length db) base o.base [.int .i64 o.base] (fun _ => True) (fun _ => False) rfl (by go_simp) rfl (fun _ h => h.elim) (fun _ _ => trivial) HN8.out.br HBx8.out.below HBx8.out.below.size (by omega) ?_; intro v9 w9 hR9 hB9 hg9 hat9; obtain ⟨B9, d9, hv9⟩ := Kd.R_slice hR9; rw [show (base ++ [o.base]).length = base.length + 1 from by simp] at hv9; subst hv9; have HN9 := Aside0.mk (HN8.out.more hR9 hg9 hat9); have HBx9 := Aside0.mk (HBx8.out.grown (fun q cs hq => Kd.R_ne HN8.out.br hq (by decide)) hg9 hB9); clear hR9 hB9 hg9 hat9 z0 z1 f0 f0f))
                go_roundw
                case rel => exact ⟨base.length + 1, by omega, by go_num, base ++ [o.base], B9, d9, out ++ [m], _, by simp, rfl, HI', HBx9, HN9⟩
                case measure => simp [intOf]; omega
        · have HDe : Aside0 (doErr a.nodes base out.length o = er) := ⟨by unfold doErr; rw [HE1.out]; exact if_neg hz⟩
          have HE' := Aside0.mk (show applyR a l = (⟨[], 0⟩, er, (base.length : Int)) from by rw [HE.out, ← HI.out.2.1, HBad.out (by rw [HDe.out]; exact hz), HDe.out]; rfl)
          have dz : (er != 0) = true := by simpa using hz
          obtain ⟨e0, e0f, e1, e1f⟩ := slots2 HN.out.bx.res (.slice none 0 0)
          clear hz
          go_wp2
          have h2 := res2 HN.out.bx.res (.slice none 0 0) (.int .i64 0)
          exact bodyPost_ret (v := .tuple #[.agg #[.slice none 0 0, .int .i64 0], .int .i64 er, .int .i64 (base.length : Int)]) (by simp [results, Tryd.results30, go_sem, h2]) rfl (RebPost.no HE'.out (below_set2 HN.out.bx.below (Nat.le_succ _)))
    · have HRun := Aside0.mk (show runO a.nodes l [] [] 0 = .inl out from by rw [← HI.out.2.1]; exact runO_end (by omega))
      have HE' := Aside0.mk (show applyR a l = finR out from by rw [HE.out, HRun.out]; rfl)
      obtain ⟨Av, cv, hv⟩ := Kd.R_slice HAp.out.rows
      subst hv
      have hol : out.length ≤ 60 := by have := HI.out.1; omega
      have hrt : (l.length : Int) - 1 = (out.length : Int) - 1 := by have := HI.out.1; omega
      rw [hrt] at HAp
      clear hrt
      have s0 : wr.cell? ⟨g, 0, none⟩ = some (.slice Av out.length cv) := blk_at HAp.out.box 0 rfl
      have s1 : wr.cell? ⟨g, 1, none⟩ = some (.int .i64 ((out.length : Int) - 1)) := blk_at HAp.out.box 1 rfl
      have HCv := Aside0.mk (Kd.R_reads' HAp.out.rows).2
      have HRw := Aside0.mk (rows_ok HI.out.2.2 hol)
      go_wp2_with fail
      refine (rtyped_2 Av cv (⟨out, (out.length : Int) - 1⟩ : Scene) _ HCv.out.2 (fun i hi => (HI.out.2.2 i hi).small (by omega)) (fun i hi => (HI.out.2.2 i hi).texts)).mono ?_
      rintro e w6 ⟨rfl, hB6⟩
      replace s0 := pw_cell_below hB6 s0
      replace s1 := pw_cell_below hB6 s1
      have HBx6 := Aside0.mk (HBx.out.later hB6)
      have HAp6 := Aside0.mk (HAp.out.later hB6)
      clear hB6 HBx HAp
      dsimp only
      by_cases hty2 : ¬ (typedS newTab out).1 = 0
      · have HX := Aside0.mk (show applyR a l = (⟨[], 0⟩, (typedS newTab out).1, -1) from by rw [HE'.out]; unfold finR; rw [if_neg hty2])
        have dz : ((typedS newTab out).1 != 0) = true := by simpa using hty2
        clear hty2
        generalize (typedS newTab out).1 = er at dz HX ⊢
        obtain ⟨e0, e0f, e1, e1f⟩ := slots2 HBx6.out.res (.slice none 0 0)
        have n0 : w6.cell? ⟨w.heap.size + 2, 0, none⟩ = some (.slice none 0 0) := blk_at HBx6.out.non 0 rfl
        have n1 : w6.cell? ⟨w.heap.size + 2, 1, none⟩ = some (.int .i64 0) := blk_at HBx6.out.non 1 rfl
        go_wp2
        have h2 := res2 HBx6.out.res (.slice none 0 0) (.int .i64 0)
        exact bodyPost_ret (v := .tuple #[.agg #[.slice none 0 0, .int .i64 0], .int .i64 er, .int .i64 (-1)]) (by simp [results, Tryd.results30, go_sem, h2]) rfl (RebPost.no HX.out (below_set2 HBx6.out.below (Nat.le_succ _)))
      replace hty2 := Classical.byContradiction hty2
      have HTy2 := Aside0.mk hty2
      rw [hty2]
      clear hty2
      have HC6 := Aside0.mk (Kd.R_reads' HAp6.out.rows).2
      go_wp2_with fail
      refine (rchk_any Av cv (⟨out, (out.length : Int) - 1⟩ : Scene) w6 HC6.out.2 HC6.out.1 (Nat.le_trans HRw.out (by omega))).mono ?_
      rintro e w7 ⟨rfl, hB7⟩
      replace s0 := pw_cell_below hB7 s0
      replace s1 := pw_cell_below hB7 s1
      have HBx7 := Aside0.mk (HBx6.out.later hB7)
      have HAp7 := Aside0.mk (HAp6.out.later hB7)
      clear hB7 HBx6 HAp6
      by_cases hgc : ¬ (gcheck (⟨out, (out.length : Int) - 1⟩ : Scene)).1 = 0
      · have HX := Aside0.mk (show applyR a l = (⟨[], 0⟩, (gcheck (⟨out, (out.length : Int) - 1⟩ : Scene)).1, -1) from by rw [HE'.out]; unfold finR; rw [if_pos HTy2.out]; exact if_neg hgc)
        have dz : ((gcheck (⟨out, (out.length : Int) - 1⟩ : Scene)).1 != 0) = true := by simpa using hgc
        clear hgc
        generalize (gcheck (⟨out, (out.length : Int) - 1⟩ : Scene)).1 = er at dz HX ⊢
        obtain ⟨e0, e0f, e1, e1f⟩ := slots2 HBx7.out.res (.slice none 0 0)
        have n0 : w7.cell? ⟨w.heap.size + 2, 0, none⟩ = some (.slice none 0 0) := blk_at HBx7.out.non 0 rfl
        have n1 : w7.cell? ⟨w.heap.size + 2, 1, none⟩ = some (.int .i64 0) := blk_at HBx7.out.non 1 rfl
        go_wp2
        have h2 := res2 HBx7.out.res (.slice none 0 0) (.int .i64 0)
        exact bodyPost_ret (v := .tuple #[.agg #[.slice none 0 0, .int .i64 0], .int .i64 er, .int .i64 (-1)]) (by simp [results, Tryd.results30, go_sem, h2]) rfl (RebPost.no HX.out (below_set2 HBx7.out.below (Nat.le_succ _)))
      replace hgc := Classical.byContradiction hgc
      have HGc := Aside0.mk hgc
      rw [hgc]
      clear hgc
      have HC7 := Aside0.mk (Kd.R_reads' HAp7.out.rows).2
      go_wp2_with fail
      refine (ris_any Av cv (⟨out, (out.length : Int) - 1⟩ : Scene) w7 HC7.out.2 HC7.out.1 (Nat.le_trans HRw.out (by omega)) (fun i hi => (HI.out.2.2 i hi).small (by omega))).mono ?_
      rintro e w8 ⟨rfl, hB8⟩
      replace s0 := pw_cell_below hB8 s0
      replace s1 := pw_cell_below hB8 s1
      have HBx8 := Aside0.mk (HBx7.out.later hB8)
      have HAp8 := Aside0.mk (HAp7.out.later hB8)
      clear hB8 HBx7 HAp7
      by_cases hcc : ¬ isC (⟨out, (out.length : Int) - 1⟩ : Scene) = true
      · have HX := Aside0.mk (show applyR a l = (⟨[], 0⟩, 16, -1) from by rw [HE'.out]; unfold finR; rw [if_pos HTy2.out]; exact (if_pos HGc.out).trans (if_neg hcc))
        rw [Bool.eq_false_iff.2 hcc]
        clear hcc
        obtain ⟨e0, e0f, e1, e1f⟩ := slots2 HBx8.out.res (.slice none 0 0)
        have n0 : w8.cell? ⟨w.heap.size + 2, 0, none⟩ = some (.slice none 0 0) := blk_at HBx8.out.non 0 rfl
        have n1 : w8.cell? ⟨w.heap.size + 2, 1, none⟩ = some (.int .i64 0) := blk_at HBx8.out.non 1 rfl
        go_wp2
        have h2 := res2 HBx8.out.res (.slice none 0 0) (.int .i64 0)
        exact bodyPost_ret (v := .tuple #[.agg #[.slice none 0 0, .int .i64 0], .int .i64 16, .int .i64 (-1)]) (by simp [results, Tryd.results30, go_sem, h2]) rfl (RebPost.no HX.out (below_set2 HBx8.out.below (Nat.le_succ _)))
      replace hcc := Classical.byContradiction hcc
      have HX := Aside0.mk (show applyR a l = ((⟨out, (out.length : Int) - 1⟩ : Scene), 0, 0) from by rw [HE'.out]; unfold finR; rw [if_pos HTy2.out]; exact (if_pos HGc.out).trans (if_pos hcc))
      rw [hcc]
      clear hcc
      obtain ⟨e0, e0f, e1, e1f⟩ := slots2 HBx8.out.res (.slice Av out.length cv)
      have hne : g ≠ w.heap.size + 1 := by have := HAp8.out.ge; omega
      go_wp2
      have h2 := res2 HBx8.out.res (.slice Av out.length cv) (.int .i64 ((out.length : Int) - 1))
      refine bodyPost_ret (v := .tuple #[.agg #[.slice Av out.length cv, .int .i64 ((out.length : Int) - 1)], .int .i64 0, .int .i64 0]) (by simp [results, Tryd.results30, go_sem, h2]) rfl
        ⟨Av, cv, by rw [HX.out], ?_, below_set2 HBx8.out.below (Nat.le_succ _)⟩
      rw [HX.out]
      exact R_type (R_type (Kd.R_mono HAp8.out.rows (fun _ _ => trivial)) HBx8.out.res (by decide) _ _) (blk_set HBx8.out.res 0 _) (by decide) _ _
end Go.Proofs.YtglfebpgdghlfaaDoor.L
end
section
namespace Go.Proofs.YtglfebpgdghlfaaDoor.L
open Go.RowKit Go.ChangeShapes Go.WideShapes Go.Proofs.YtglfebpgdghlfaaDoorW.PrintWords Go.Proofs.YtglfebpgdghlfaaDoorW.PrintLast Go.Proofs.YtglfebpgdghlfaaDoorW.PrintMore
attribute [local go_sem] max2_int min2_int max_two min_two max_three min_three max_four min_four
def PO (ns : List Node) (m : List Int) : Prop := ∀ (a : List Int) (x : Int) (b : List Int), m = a ++ x :: b → ∀ k ∈ kids ns x, k ∈ a
theorem PO.nil (ns : List Node) : PO ns [] := fun a x b e => by
  have := congrArg List.length e
  simp at this
theorem PO.snoc {ns : List Node} {m : List Int} {x : Int} (h : PO ns m) (hk : ∀ k ∈ kids ns x, k ∈ m) : PO ns (m ++ [x]) := fun a y b e => by
  rcases snoc_cases b with rfl | ⟨b', z, rfl⟩
  · have e1 : m ++ [x] = a ++ [y] := e
    obtain ⟨rfl, e2⟩ := List.append_inj' e1 rfl
    injection e2 with e2
    subst e2
    exact hk
  · have e1 : m ++ [x] = (a ++ y :: b') ++ [z] := by rw [e]; simp
    obtain ⟨e2, _⟩ := List.append_inj' e1 rfl
    exact h a y b' e2
theorem isC_root {s : Scene} (h : Right s) (hc : isC s = true) : s.root = (s.nodes.length : Int) - 1 := by
  have e := isC_eq h hc
  have e2 : s.root = (⟨canonL s, (s.nodes.length : Int) - 1⟩ : Scene).root := congrArg Scene.root e
  exact e2
def keepO (i : Nat) : Opn := ⟨1, (i : Int), [], [], nodez⟩
theorem fin_same {s : Scene} (hty : (typedS newTab s.nodes).1 = 0) (h : Right s) (hc : isC s = true) : finR s.nodes = (s, 0, 0) := by
  have e : sceneOf s.nodes = s := by
    unfold sceneOf
    rw [← isC_root h hc]
  unfold finR
  rw [if_pos hty, e, if_pos (gcheck_right.2 h), if_pos hc]
end Go.Proofs.YtglfebpgdghlfaaDoor.L
end
section
namespace Go.Proofs.YtglfebpgdghlfaaDoor.L
open Go.RowKit Go.ChangeShapes Go.WideShapes Go.Proofs.YtglfebpgdghlfaaDoorW.PrintWords Go.Proofs.YtglfebpgdghlfaaDoorW.PrintLast Go.Proofs.YtglfebpgdghlfaaDoorW.PrintMore
attribute [local go_sem] max2_int min2_int max_two min_two max_three min_three max_four min_four
theorem one_right (n : Node) (hk : n.kids = []) : Right ⟨[n], 0⟩ := by
  have hk0 : ∀ p : Nat, p < 1 → kids [n] (p : Int) = [] := fun p hp => by
    obtain rfl : p = 0 := by omega
    exact hk
  refine ⟨by show (0 : Int) ≤ 0; omega, by show (0 : Int) < ([n].length : Int); simp, fun p hp k hk' => ?_, fun p hp hc => ?_, fun p hp => ?_⟩
  · have h1 : p < 1 := by simpa using hp
    have h2 : k ∈ kids [n] (p : Int) := by rw [kids_nat]; exact hk'
    rw [hk0 p h1] at h2
    simp at h2
  · have h1 : p < 1 := by simpa using hp
    have hc' : Rch [n] (kids [n] (p : Int)) (p : Int) := hc
    rw [hk0 p h1] at hc'
    have : ∀ x, ¬ Rch [n] [] x := fun x hr => by
      induction hr with
      | base hb => simp at hb
      | step _ _ ih => exact ih
    exact this _ hc'
  · obtain rfl : p = 0 := by simpa using hp
    exact .base (by simp)
theorem one_isC (n : Node) (hk : n.kids = []) : isC ⟨[n], 0⟩ = true := by
  refine (isC_iff (one_right n hk)).2 ?_
  have ho : ord ⟨[n], 0⟩ = [0] := by
    have hl := ord_len (one_right n hk)
    have hp := ord_pl (one_right n hk)
    match h : ord ⟨[n], 0⟩, hl with
    | [x], _ =>
      have := hp x (by rw [h]; simp)
      have h1 := this.1
      have h2 := this.2
      have h3 : (([n] : List Node).length : Int) = 1 := rfl
      have : x = 0 := by
        have h4 : x < (([n] : List Node).length : Int) := h2
        omega
      rw [this]
  have hc : canonL ⟨[n], 0⟩ = [n] := by
    unfold canonL
    rw [ho]
    show [relab _ (nd [n] 0)] = [n]
    unfold relab
    have e : (nd [n] 0) = n := rfl
    rw [e, hk]
    cases n
    simp only at hk
    subst hk
    rfl
  rw [hc]
  rfl
def bA : Node := ⟨4, [1], [⟨#[97]⟩], []⟩
def bB : Node := ⟨4, [2], [⟨#[97]⟩], []⟩
def sA : Scene := ⟨[bA], 0⟩
def sB : Scene := ⟨[bB], 0⟩
def eO : Opn := ⟨2, 0, [⟨false, 0, 2, ByteArray.empty⟩], [], nodez⟩
theorem sA_typed : (typedS newTab sA.nodes).1 = 0 := by kernel_rfl
theorem sB_typed : (typedS newTab sB.nodes).1 = 0 := by kernel_rfl
theorem sA_c : isC sA = true := one_isC bA rfl
theorem sB_c : isC sB = true := one_isC bB rfl
theorem sA_edit : applyR sA [eO] = (sB, 0, 0) := by
  unfold applyR
  rw [if_pos sA_typed, if_pos sA_c]
  have h1 : oneN sA.nodes [] eO = (bB, 0) := by kernel_rfl
  have h2 : doErr sA.nodes [] 0 eO = 0 := by
    unfold doErr
    rw [h1]
    kernel_rfl
  have h3 : runO sA.nodes [eO] [] [] 0 = .inl [bB] := by
    show (if doErr sA.nodes [] 0 eO = 0 then Sum.inl ([] ++ [(oneN sA.nodes [] eO).1]) else _) = _
    rw [if_pos h2, h1]
    rfl
  rw [h3]
  exact fin_same sB_typed (isC_right sB_c) sB_c
theorem sA_twice : applyR sA [keepO 0, keepO 0] = (⟨[], 0⟩, 21, 1) := by
  unfold applyR
  rw [if_pos sA_typed, if_pos sA_c]
  have h1 : oneN sA.nodes [] (keepO 0) = (bA, 0) := by kernel_rfl
  have h2 : doErr sA.nodes [] 0 (keepO 0) = 0 := by
    unfold doErr
    rw [h1]
    kernel_rfl
  have h3 : doErr sA.nodes [0] 1 (keepO 0) = 21 := by kernel_rfl
  have h4 : runO sA.nodes [keepO 0, keepO 0] [] [] 0 = .inr (21, 1) := by
    show (if doErr sA.nodes [] 0 (keepO 0) = 0 then (if doErr sA.nodes [0] 1 (keepO 0) = 0 then _ else Sum.inr (doErr sA.nodes [0] 1 (keepO 0), 1)) else _) = _
    rw [if_pos h2, h3]
    rfl
  rw [h4]
  rfl
theorem sA_none : applyR sA [] = (⟨[], 0⟩, 13, -1) := by
  unfold applyR
  rw [if_pos sA_typed, if_pos sA_c]
  show finR [] = _
  unfold finR
  have h1 : (typedS newTab ([] : List Node)).1 = 0 := rfl
  have h2 : gcheck (sceneOf []) = (13, -1) := by
    unfold gcheck
    rw [if_pos (.inl (by decide))]
  rw [if_pos h1, h2]
  rfl
theorem sA_ok : ∀ i : Nat, i < sA.nodes.length → OkN 4000 (nd sA.nodes i) := fun i hi => by
  match i, hi with
  | 0, _ => exact ⟨by decide, by decide, by decide, fun x hx => by
      have : x = ⟨#[97]⟩ := by simpa [sA, bA, nd] using hx
      subst this
      decide⟩
  | i + 1, h => exact absurd h (by show ¬ i + 1 < 1; omega)
theorem sB_small : ∀ i : Nat, i < sB.nodes.length → Small (nd sB.nodes i) := fun i hi => by
  match i, hi with
  | 0, _ => exact ⟨by decide, by decide, by decide⟩
  | i + 1, h => exact absurd h (by show ¬ i + 1 < 1; omega)
theorem eO_ok : ∀ k : Nat, k < [eO].length → OpOk (op [eO] k) := fun k hk => by
  match k, hk with
  | 0, _ => exact ⟨⟨by decide, by decide, by decide, fun x hx => by simp [op, eO, nodez] at hx⟩, by decide, by decide, fun x hx => by
      have : x = ⟨false, 0, 2, ByteArray.empty⟩ := by simpa [op, eO] using hx
      subst this
      decide, by decide, by decide, by decide, by decide⟩
  | k + 1, h => exact absurd h (by show ¬ k + 1 < 1; omega)
theorem keepO_ok (i : Nat) (hi : i ≤ 1000000) : OpOk (keepO i) :=
  ⟨⟨by simp [keepO, nodez], by simp [keepO, nodez], by simp [keepO, nodez], fun x hx => by simp [keepO, nodez] at hx⟩, by simp [keepO], by simp [keepO], fun x hx => by simp [keepO] at hx, by simp [keepO], by simp [keepO], by show -9223372036854775808 ≤ (i : Int); omega, by show (i : Int) ≤ 9223372036854775807; omega⟩
theorem kk_ok : ∀ k : Nat, k < [keepO 0, keepO 0].length → OpOk (op [keepO 0, keepO 0] k) := fun k hk => by
  match k, hk with
  | 0, _ => exact keepO_ok 0 (by omega)
  | 1, _ => exact keepO_ok 0 (by omega)
  | k + 2, h => exact absurd h (by show ¬ k + 2 < 2; omega)
end Go.Proofs.YtglfebpgdghlfaaDoor.L
end
section
namespace Go.Proofs.YtglfebpgdghlfaaDoor.L
open Go.RowKit Go.ChangeShapes Go.WideShapes Go.Proofs.YtglfebpgdghlfaaDoorW.PrintWords Go.Proofs.YtglfebpgdghlfaaDoorW.PrintLast Go.Proofs.YtglfebpgdghlfaaDoorW.PrintMore
attribute [local go_sem] max2_int min2_int max_two min_two max_three min_three max_four min_four
def elder {α : Type} (d : Kd α) (W0 : World) : Kd α where
  sz := d.sz
  E := []
  K := fun _ x cs => d.K W0 x cs
  M := fun _ _ _ x cs => d.K W0 x cs
  K_len := d.K_len
  K_one := d.K_one
  K_below := fun _ h => h
  K_of_M := fun h => h
  M_mono := fun _ h => h
  M_bound := fun h => h
  M_move := fun _ h => h
  M_lower := fun _ h => h
theorem elder_C {α : Type} {d : Kd α} {W0 w : World} {A : Option Addr} {n : Nat} {xs : List α} (hb : Below W0.heap.size W0 w) (h : (elder d W0).C w A n xs) : d.C w A n xs :=
  ReadsRow.imp_ h (Below.refl _ _) (fun _ _ hp => d.K_below hb hp)
theorem rows_later {α : Type} {d : Kd α} {W0 w : World} {A : Option Addr} {n : Nat} {xs : List α} (h : d.C W0 A n xs) (hb : Below W0.heap.size W0 w) : ReadsRow (d.K W0) d.sz w A n xs :=
  ReadsRow.imp_ h hb (fun _ _ hp => hp)
theorem kOpn_mk {w : World} {o : Opn} {B1 : Option Addr} {d1 : Nat} {B2 : Option Addr} {d2 : Nat} {A1 : Option Addr} {c1 : Nat} {A2 : Option Addr} {c2 : Nat} {A3 : Option Addr} {c3 : Nat} (h : OpnC w o B1 d1 B2 d2 A1 c1 A2 c2 A3 c3) :
    kOpn.K w o [.int .i64 o.kind, .int .i64 o.base, .slice B1 o.sets.length d1, .slice B2 o.script.length d2, .int .i64 o.node.kind, .slice A1 o.node.ints.length c1, .slice A2 o.node.texts.length c2, .slice A3 o.node.kids.length c3] :=
  ⟨[_], _, rfl, rfl, [_], _, rfl, rfl, [_], _, rfl, ⟨B1, d1, rfl, h.ls, h.s⟩, [_], _, rfl, ⟨B2, d2, rfl, h.le, h.e⟩, kNode_mk h.n⟩
theorem info_op : (Tryd.prog.info? 61).map (fun i => (i.zero, i.size, i.bytes)) = some (some (.agg #[.int .i64 0, .int .i64 0, .slice none 0 0, .slice none 0 0, .int .i64 0, .slice none 0 0, .slice none 0 0, .slice none 0 0]), 8, 144) := by kernel_rfl
end Go.Proofs.YtglfebpgdghlfaaDoor.L
end
section
namespace Go.Proofs.YtglfebpgdghlfaaDoor.L
open Go.RowKit Go.ChangeShapes Go.WideShapes Go.Proofs.YtglfebpgdghlfaaDoorW.PrintWords Go.Proofs.YtglfebpgdghlfaaDoorW.PrintLast Go.Proofs.YtglfebpgdghlfaaDoorW.PrintMore
attribute [local go_sem] max2_int min2_int max_two min_two max_three min_three max_four min_four
abbrev nO1 (x : Int) : Obj := .cells #[.int .i64 x] 2
abbrev nO2 : Obj := .cells #[.string ⟨#[97]⟩] 9
abbrev nO3 (g : Nat) : Obj := .cells #[.int .i64 4, .slice (some ⟨g, 0, none⟩) 1 1, .slice (some ⟨g + 1, 0, none⟩) 1 1, .slice none 0 0] 26
theorem nB_C (w : World) (x : Int) (g : Nat) (hg : w.heap.size = g) : kNode.C (((w.alloc (nO1 x)).alloc nO2).alloc (nO3 g)) (some ⟨g + 1 + 1, 0, none⟩) 1 [⟨4, [x], [⟨#[97]⟩], []⟩] := by
  subst hg
  refine C_lits kNode _ 26 _ (by simp) [⟨4, [x], [⟨#[97]⟩], []⟩] [.int .i64 4, .slice (some ⟨w.heap.size, 0, none⟩) 1 1, .slice (some ⟨w.heap.size + 1, 0, none⟩) 1 1, .slice none 0 0] ?_ (by simp) rfl
  refine ⟨_, _, (show _ = [_, _, _, _] ++ [] from rfl), ?_, rfl⟩
  exact kNode_mk (x := ⟨4, [x], [⟨#[97]⟩], []⟩) ⟨by simp, by simp, by simp, Kd.C_alloc (C_ints w _ _ rfl [x] (by simp) rfl) _, C_strs _ _ _ (by simp) [⟨#[97]⟩] (by simp) rfl, C_nil _ _⟩
theorem eO_C (w : World) (g : Nat) (hg : w.heap.size = g) : kOpn.C ((w.alloc (.cells #[.bool false, .int .i64 0, .int .i64 2, .string ByteArray.empty] 84)).alloc (.cells #[.int .i64 2, .int .i64 0, .slice (some ⟨g, 0, none⟩) 1 1, .slice none 0 0, .int .i64 0, .slice none 0 0, .slice none 0 0, .slice none 0 0] 61)) (some ⟨g + 1, 0, none⟩) 1 [eO] := by
  subst hg
  refine C_lits kOpn _ 61 _ (by simp) [eO] [.int .i64 2, .int .i64 0, .slice (some ⟨w.heap.size, 0, none⟩) 1 1, .slice none 0 0, .int .i64 0, .slice none 0 0, .slice none 0 0, .slice none 0 0] ?_ (by simp) rfl
  refine ⟨_, _, (show _ = [_, _, _, _, _, _, _, _] ++ [] from rfl), ?_, rfl⟩
  refine kOpn_mk (o := eO) ⟨by simp [eO], ?_, by simp [eO], C_nil _ _, by simp [eO, nodez], by simp [eO, nodez], by simp [eO, nodez], C_nil _ _, C_nil _ _, C_nil _ _⟩
  refine C_lits kSet w 84 _ rfl [⟨false, 0, 2, ByteArray.empty⟩] [.bool false, .int .i64 0, .int .i64 2, .string ByteArray.empty] ?_ (by simp) rfl
  exact ⟨_, _, (show _ = [_, _, _, _] ++ [] from rfl), kSet.K_of_M (kSet_mk w 0 (fun _ => True) ⟨false, 0, 2, ByteArray.empty⟩), rfl⟩
theorem kk_C (w : World) (g : Nat) (hg : w.heap.size = g) : kOpn.C (w.alloc (.cells #[.int .i64 1, .int .i64 0, .slice none 0 0, .slice none 0 0, .int .i64 0, .slice none 0 0, .slice none 0 0, .slice none 0 0, .int .i64 1, .int .i64 0, .slice none 0 0, .slice none 0 0, .int .i64 0, .slice none 0 0, .slice none 0 0, .slice none 0 0] 61)) (some ⟨g, 0, none⟩) 2 [keepO 0, keepO 0] := by
  subst hg
  have hk : kOpn.K w (keepO 0) [.int .i64 1, .int .i64 0, .slice none 0 0, .slice none 0 0, .int .i64 0, .slice none 0 0, .slice none 0 0, .slice none 0 0] :=
    kOpn_mk (o := keepO 0) ⟨by simp [keepO], C_nil _ _, by simp [keepO], C_nil _ _, by simp [keepO, nodez], by simp [keepO, nodez], by simp [keepO, nodez], C_nil _ _, C_nil _ _, C_nil _ _⟩
  refine C_lits kOpn _ 61 _ rfl [keepO 0, keepO 0] _ ⟨_, _, rfl, hk, _, _, (show _ = [_, _, _, _, _, _, _, _] ++ [] from rfl), hk, rfl⟩ (by simp) rfl
set_option maxRecDepth 100000 in
set_option maxHeartbeats 4000000 in
theorem rawake_any (w : World) (hT : Tabs w) : Calls Tryd.prog 27 #[] w fun e w' => e = .returned (.bool true) ∧ Below w.heap.size w w' := by
  have HT := Aside0.mk hT
  have hua := Tryd.underlying39
  have hun := Tryd.underlying26
  have huo := Tryd.underlying61
  have hus := Tryd.underlying84
  clear hT
  go_enter Tryd.func27, Tryd.ntmps27
  go_wp2_with fail
  refine (rapp_any _ _ sA _ _ [eO] _ ?_ ?_ ?_ (by decide) (by decide) sA_ok eO_ok (by decide)).mono ?_
  · exact Kd.C_alloc (Kd.C_alloc (Kd.C_alloc (Kd.C_alloc (Kd.C_alloc (Kd.C_alloc (Kd.C_alloc (nB_C w 1 _ rfl) _) _) _) _) _) _) _
  · exact eO_C _ _ (by simp)
  · exact HT.out.below (below_alloc (below_alloc (below_alloc (below_alloc (below_alloc (below_alloc (below_alloc (below_alloc (below_alloc (below_alloc (Below.refl _ _) _) _) _) _) _) _) _) _) _) _)
  rintro e w1 ⟨A1, c1, rfl, hR1, hB1⟩
  rw [sA_edit] at hR1 ⊢
  have HB1 : Aside0 (Below w.heap.size w w1) := ⟨below_step (below_alloc (below_alloc (below_alloc (below_alloc (below_alloc (below_alloc (below_alloc (below_alloc (below_alloc (below_alloc (Below.refl _ _) _) _) _) _) _) _) _) _) _) _) hB1⟩
  have k0 : w1.cell? ⟨w.heap.size + 1 + 1 + 1, 0, none⟩ = some (.slice (some ⟨w.heap.size + 1 + 1, 0, none⟩) 1 1) := pw_cell_below hB1 (pw_cell_below (below_alloc (below_alloc (below_alloc (below_alloc (below_alloc (below_alloc (Below.refl _ _) _) _) _) _) _) _) (box_cell _ _ (by simp) #[.slice (some ⟨w.heap.size + 1 + 1, 0, none⟩) 1 1, .int .i64 0] _ 0 _ rfl))
  have k1 : w1.cell? ⟨w.heap.size + 1 + 1 + 1, 1, none⟩ = some (.int .i64 0) := pw_cell_below hB1 (pw_cell_below (below_alloc (below_alloc (below_alloc (below_alloc (below_alloc (below_alloc (Below.refl _ _) _) _) _) _) _) _) (box_cell _ _ (by simp) #[.slice (some ⟨w.heap.size + 1 + 1, 0, none⟩) 1 1, .int .i64 0] _ 1 _ rfl))
  have k2 : w1.cell? ⟨w.heap.size + 1 + 1 + 1 + 1 + 1 + 1 + 1, 0, none⟩ = some (.slice (some ⟨w.heap.size + 1 + 1 + 1 + 1 + 1 + 1, 0, none⟩) 1 1) := pw_cell_below hB1 (pw_cell_below (below_alloc (below_alloc (Below.refl _ _) _) _) (box_cell _ _ (by simp) #[.slice (some ⟨w.heap.size + 1 + 1 + 1 + 1 + 1 + 1, 0, none⟩) 1 1, .int .i64 0] _ 0 _ rfl))
  have k3 : w1.cell? ⟨w.heap.size + 1 + 1 + 1 + 1 + 1 + 1 + 1, 1, none⟩ = some (.int .i64 0) := pw_cell_below hB1 (pw_cell_below (below_alloc (below_alloc (Below.refl _ _) _) _) (box_cell _ _ (by simp) #[.slice (some ⟨w.heap.size + 1 + 1 + 1 + 1 + 1 + 1, 0, none⟩) 1 1, .int .i64 0] _ 1 _ rfl))
  have HA : Aside0 (kNode.C w1 (some ⟨w.heap.size + 1 + 1, 0, none⟩) 1 sA.nodes) := ⟨Kd.C_below (Kd.C_alloc (Kd.C_alloc (Kd.C_alloc (Kd.C_alloc (Kd.C_alloc (Kd.C_alloc (Kd.C_alloc (nB_C w 1 _ rfl) _) _) _) _) _) _) _) hB1⟩
  have HBn : Aside0 (kNode.C w1 (some ⟨w.heap.size + 1 + 1 + 1 + 1 + 1 + 1, 0, none⟩) 1 sB.nodes) := ⟨Kd.C_below (Kd.C_alloc (Kd.C_alloc (Kd.C_alloc (nB_C _ 2 _ (by simp)) _) _) _) hB1⟩
  have HC1 := Aside0.mk (Kd.R_reads' hR1).2.2
  have q0 := box_cell w1 _ rfl #[.slice A1 sB.nodes.length c1, .int .i64 sB.root] 39 0 (.slice A1 sB.nodes.length c1) rfl
  have q1 := box_cell w1 _ rfl #[.slice A1 sB.nodes.length c1, .int .i64 sB.root] 39 1 (.int .i64 sB.root) rfl
  have hA1 := below_alloc (Below.refl w1.heap.size w1) (.cells #[.slice A1 sB.nodes.length c1, .int .i64 sB.root] 39)
  replace k0 := pw_cell_below hA1 k0
  replace k1 := pw_cell_below hA1 k1
  replace k2 := pw_cell_below hA1 k2
  replace k3 := pw_cell_below hA1 k3
  have HB2 := Aside0.mk (below_step HB1.out hA1)
  have HA2 := Aside0.mk (Kd.C_below HA.out hA1)
  have HBn2 := Aside0.mk (Kd.C_below HBn.out hA1)
  have HC2 := Aside0.mk (Kd.C_below HC1.out hA1)
  clear hR1 hB1 HA HBn HC1 hA1 HB1
  go_wp2_with fail
  refine (rapp_any _ _ sA _ _ [keepO 0, keepO 0] _ ?_ ?_ ?_ (by decide) (by decide) sA_ok kk_ok (by decide)).mono ?_
  · exact Kd.C_alloc HA2.out _
  · exact kk_C _ _ (by simp)
  · exact HT.out.below (below_alloc HB2.out _)
  rintro e w2 ⟨A2, c2, rfl, hR2, hB2⟩
  rw [sA_twice] at hR2 ⊢
  have HB3 := Aside0.mk (below_step (below_alloc HB2.out _) hB2)
  have HA3 := Aside0.mk (Kd.C_below (Kd.C_alloc HA2.out _) hB2)
  have HBn3 := Aside0.mk (Kd.C_below (Kd.C_alloc HBn2.out _) hB2)
  have HC3 := Aside0.mk (Kd.C_below (Kd.C_alloc HC2.out _) hB2)
  replace k0 := pw_cell_below hB2 (pw_cell_below (below_alloc (Below.refl _ _) _) k0)
  replace k1 := pw_cell_below hB2 (pw_cell_below (below_alloc (Below.refl _ _) _) k1)
  replace k2 := pw_cell_below hB2 (pw_cell_below (below_alloc (Below.refl _ _) _) k2)
  replace k3 := pw_cell_below hB2 (pw_cell_below (below_alloc (Below.refl _ _) _) k3)
  replace q0 := pw_cell_below hB2 (pw_cell_below (below_alloc (Below.refl _ _) _) q0)
  replace q1 := pw_cell_below hB2 (pw_cell_below (below_alloc (Below.refl _ _) _) q1)
  have hA3 := below_alloc (Below.refl w2.heap.size w2) (.cells #[.slice A2 0 c2, .int .i64 0] 39)
  replace k0 := pw_cell_below hA3 k0
  replace k1 := pw_cell_below hA3 k1
  replace k2 := pw_cell_below hA3 k2
  replace k3 := pw_cell_below hA3 k3
  replace q0 := pw_cell_below hA3 q0
  replace q1 := pw_cell_below hA3 q1
  have HB4 := Aside0.mk (below_step HB3.out hA3)
  have HA4 := Aside0.mk (Kd.C_below HA3.out hA3)
  have HBn4 := Aside0.mk (Kd.C_below HBn3.out hA3)
  have HC4 := Aside0.mk (Kd.C_below HC3.out hA3)
  clear hR2 hB2 HB2 HA2 HBn2 HC2 HB3 HA3 HBn3 HC3 hA3
  go_wp2_with fail
  refine (rapp_any _ _ sA _ _ [] _ ?_ ?_ ?_ (by decide) (by decide) sA_ok (fun k hk => absurd hk (Nat.not_lt_zero k)) (by decide)).mono ?_
  · exact HA4.out
  · exact C_nil _ _
  · exact HT.out.below HB4.out
  rintro e w3 ⟨A3, c3, rfl, hR3, hB3⟩
  rw [sA_none] at hR3 ⊢
  have hA5 := below_alloc (Below.refl w3.heap.size w3) (.cells #[.slice A3 0 c3, .int .i64 0] 39)
  replace k2 := pw_cell_below hA5 (pw_cell_below hB3 k2)
  replace k3 := pw_cell_below hA5 (pw_cell_below hB3 k3)
  replace q0 := pw_cell_below hA5 (pw_cell_below hB3 q0)
  replace q1 := pw_cell_below hA5 (pw_cell_below hB3 q1)
  have HB5 := Aside0.mk (below_step (below_step HB4.out hB3) hA5)
  have HBn5 := Aside0.mk (Kd.C_below (Kd.C_below HBn4.out hB3) hA5)
  have HC5 := Aside0.mk (Kd.C_below (Kd.C_below HC4.out hB3) hA5)
  clear hR3 hB3 HB4 HA4 HBn4 HC4 hA5 k0 k1
  go_wp2_with fail
  refine (sameS_any _ _ sB _ _ sB _ HC5.out HBn5.out sB_small).mono ?_
  rintro e w4 ⟨rfl, hB4⟩
  rw [sameS_yes rfl]
  have HB6 := Aside0.mk (below_step HB5.out hB4)
  clear hB4 k2 k3 q0 q1
  go_wp2
  go_ret
  exact ⟨rfl, HB6.out⟩
end Go.Proofs.YtglfebpgdghlfaaDoor.L
end
section
namespace Go.Proofs.YtglfebpgdghlfaaDoor.L
open Go.RowKit Go.ChangeShapes Go.WideShapes Go.Proofs.YtglfebpgdghlfaaDoorW.PrintWords Go.Proofs.YtglfebpgdghlfaaDoorW.PrintLast Go.Proofs.YtglfebpgdghlfaaDoorW.PrintMore
attribute [local go_sem] max2_int min2_int max_two min_two max_three min_three max_four min_four
def setsBad (l : List SetV) : Prop := ∃ i, i < l.length ∧ 500 < (st l i).s.size
def greatOp (o : Opn) : Prop := greatN o.node = true ∨ 50 < o.sets.length ∨ 100 < o.script.length ∨ setsBad o.sets
instance (l : List SetV) : Decidable (setsBad l) := by unfold setsBad; infer_instance
instance (o : Opn) : Decidable (greatOp o) := by unfold greatOp; infer_instance
def greatO (l : List Opn) : Bool := decide (60 < l.length ∨ ∃ j, j < l.length ∧ greatOp (op l j))
theorem greatO_long {l : List Opn} (h : 60 < l.length) : greatO l = true := decide_eq_true (.inl h)
theorem greatO_at {l : List Opn} {j : Nat} (hj : j < l.length) (h : greatOp (op l j)) : greatO l = true := decide_eq_true (.inr ⟨j, hj, h⟩)
theorem greatO_no {l : List Opn} (h1 : ¬ 60 < l.length) (h : ∀ j : Nat, j < l.length → ¬ greatOp (op l j)) : greatO l = false := decide_eq_false (fun hh => by
  rcases hh with hh | ⟨j, hj, hh⟩
  · exact h1 hh
  · exact h j hj hh)
set_option maxRecDepth 100000 in
set_option maxHeartbeats 4000000 in
theorem greatO_any (Al : Option Addr) (cl : Nat) (l : List Opn) (w : World) (h : kOpn.C w Al l.length l) :
    Calls Tryd.prog 53 #[.slice Al l.length cl] w fun e w' => e = .returned (.bool (greatO l)) ∧ Below w.heap.size w w' := by
  have HR := Aside0.mk h
  have b0 := h.2.1
  have HB := Aside0.mk (Below.refl w.heap.size w)
  have huo := Tryd.underlying61
  have hus := Tryd.underlying84
  have hun := Tryd.underlying26
  clear h
  by_cases h1 : 60 < l.length
  · have HE := Aside0.mk (greatO_long h1)
    have d1 : decide (60 < (l.length : Int)) = true := decide_eq_true (by omega)
    clear h1
    go_enter Tryd.func53, Tryd.ntmps53
    go_wp2
    go_ret
    exact ⟨ret_bool HE.out.symm, HB.out⟩
  have H1 := Aside0.mk h1
  have d1 : decide (60 < (l.length : Int)) = false := decide_eq_false (by omega)
  clear h1
  go_enter Tryd.func53, Tryd.ntmps53
  go_wp2
  clear d1
  go_loopw [3, 4] (fun v3 _ W => ∃ i : Nat, i ≤ l.length ∧ v3 = .int .i64 i ∧ Aside0 (∀ j : Nat, j < i → ¬ greatOp (op l j)) ∧ Aside0 (Below w.heap.size w W)) (fun v3 _ _ => l.length - (intOf v3).toNat)
  case atStart => exact ⟨0, by omega, rfl, ⟨fun j h => by omega⟩, HB⟩
  case round =>
    clear HB
    obtain ⟨i, hi, rfl, HJ, HW⟩ := hrel
    by_cases hlt : i < l.length
    · obtain ⟨ad, B1, d1, B2, d2, A1, c1, A2, c2, A3, c3, rfl, x0, x1, x2, x3, x4, x5, x6, x7, hO⟩ := at_op HR.out i hlt
      replace x2 := pw_cell_below HW.out x2
      replace x3 := pw_cell_below HW.out x3
      replace x4 := pw_cell_below HW.out x4
      replace x5 := pw_cell_below HW.out x5
      replace x6 := pw_cell_below HW.out x6
      replace x7 := pw_cell_below HW.out x7
      have HO := Aside0.mk (hO.below HW.out)
      have HAt := Aside0.mk (fun hh => greatO_at (l := l) hlt hh)
      have HNx := Aside0.mk (fun (hh : ¬ greatOp (op l i)) => ext_lt (P := fun j => ¬ greatOp (op l j)) HJ.out hh)
      clear hO x0 x1
      generalize op l i = o at x2 x3 x4 x5 x6 x7 HO HAt HNx
      go_wp2_with fail
      refine (great_any o.node A1 c1 A2 c2 A3 c3 _ HO.out.n).mono ?_
      rintro e w2 ⟨rfl, hB2⟩
      replace x2 := pw_cell_below hB2 x2
      replace x3 := pw_cell_below hB2 x3
      have HO2 := Aside0.mk (HO.out.below hB2)
      have HW2 := Aside0.mk (below_step HW.out hB2)
      clear hB2 x4 x5 x6 x7 HO HW
      cases hg : greatN o.node with
      | true =>
        have HE := Aside0.mk (HAt.out (.inl hg))
        clear hg
        go_wp2
        go_ret
        exact ⟨ret_bool HE.out.symm, HW2.out⟩
      | false =>
        have HG := Aside0.mk (show ¬ greatN o.node = true from by rw [hg]; simp)
        clear hg
        have hls := HO2.out.s.2.1
        have hle := HO2.out.e.2.1
        by_cases h2 : 50 < o.sets.length
        · have HE := Aside0.mk (HAt.out (.inr (.inl h2)))
          have d2 : decide (50 < (o.sets.length : Int)) = true := decide_eq_true (by omega)
          clear h2
          go_wp2
          go_ret
          exact ⟨ret_bool HE.out.symm, HW2.out⟩
        have H2 := Aside0.mk h2
        have d2 : decide (50 < (o.sets.length : Int)) = false := decide_eq_false (by omega)
        clear h2
        by_cases h3 : 100 < o.script.length
        · have HE := Aside0.mk (HAt.out (.inr (.inr (.inl h3))))
          have d3 : decide (100 < (o.script.length : Int)) = true := decide_eq_true (by omega)
          clear h3
          go_wp2
          go_ret
          exact ⟨ret_bool HE.out.symm, HW2.out⟩
        have H3 := Aside0.mk h3
        have d3 : decide (100 < (o.script.length : Int)) = false := decide_eq_false (by omega)
        clear h3
        go_wp2
        clear d2 d3
        go_loopw [4] (fun v4 W => ∃ k : Nat, k ≤ o.sets.length ∧ v4 = .int .i64 k ∧ Aside0 (∀ j : Nat, j < k → ¬ 500 < (st o.sets j).s.size) ∧ Aside0 (Below w.heap.size w W ∧ W.cell? ⟨(ad.add (i * 8)).block, (ad.add (i * 8)).off + 2, none⟩ = some (.slice B1 o.sets.length d1) ∧ kSet.C W B1 o.sets.length o.sets)) (fun v4 _ => o.sets.length - (intOf v4).toNat)
        case atStart => exact ⟨0, by omega, rfl, ⟨fun j h => by omega⟩, ⟨HW2.out, x2, HO2.out.s⟩⟩
        case round =>
          clear x2 x3 HO2 HW2
          obtain ⟨k, hk, rfl, HK, HV⟩ := hrel
          have x2 := HV.out.2.1
          by_cases hk2 : k < o.sets.length
          · obtain ⟨ad2, rfl, y0, y1, y2, y3⟩ := at_set HV.out.2.2 k hk2
            by_cases h5 : 500 < (st o.sets k).s.size
            · have HE := Aside0.mk (HAt.out (.inr (.inr (.inr ⟨k, hk2, h5⟩))))
              have d5 : decide (500 < ((st o.sets k).s.size : Int)) = true := decide_eq_true (by omega)
              clear h5
              go_wp2
              go_ret
              exact ⟨ret_bool HE.out.symm, HV.out.1⟩
            · have HK2 := Aside0.mk (ext_lt HK.out h5)
              have d5 : decide (500 < ((st o.sets k).s.size : Int)) = false := decide_eq_false (by omega)
              clear h5
              go_wp2
              go_roundw
              case rel => exact ⟨k + 1, by omega, by go_num, HK2, HV⟩
              case measure => simp [intOf]; omega
          · have HN := Aside0.mk (HNx.out (fun hh => by
              rcases hh with hh | hh | hh | ⟨j, hj, hh⟩
              · exact HG.out hh
              · exact H2.out hh
              · exact H3.out hh
              · exact HK.out j (by omega) hh))
            have HV1 := Aside0.mk HV.out.1
            go_wp2
            go_roundw
            case rel => exact ⟨i + 1, by omega, by go_num, HN, HV1⟩
            case measure => simp [intOf]; omega
    · obtain rfl : i = l.length := by omega
      have HE := Aside0.mk (greatO_no H1.out HJ.out)
      go_wp2
      go_ret
      exact ⟨ret_bool HE.out.symm, HW.out⟩
end Go.Proofs.YtglfebpgdghlfaaDoor.L
end
section
namespace Go.Proofs.YtglfebpgdghlfaaDoor.L
open Go.RowKit Go.ChangeShapes Go.WideShapes Go.Proofs.YtglfebpgdghlfaaDoorW.PrintWords Go.Proofs.YtglfebpgdghlfaaDoorW.PrintLast Go.Proofs.YtglfebpgdghlfaaDoorW.PrintMore
attribute [local go_sem] max2_int min2_int max_two min_two max_three min_three max_four min_four
theorem runO_ok {a : List Node} (ha : ∀ i : Nat, i < a.length → OkN 4000 (nd a i)) : ∀ (l : List Opn) (base : List Int) (out : List Node) (i : Nat), (∀ o ∈ l, OpOk o) → (∀ k : Nat, k < out.length → OkN 5000 (nd out k)) →
    ∀ out', runO a l base out i = .inl out' → (∀ k : Nat, k < out'.length → OkN 5000 (nd out' k)) ∧ out'.length = out.length + l.length
  | [], base, out, i, _, ho, out', h => by
    have h' : (Sum.inl out : List Node ⊕ (Int × Nat)) = .inl out' := h
    injection h' with h'
    subst h'
    exact ⟨ho, rfl⟩
  | o :: l, base, out, i, hl, ho, out', h => by
    have h' : (if doErr a base out.length o = 0 then runO a l (base ++ [baseOf o]) (out ++ [(oneN a base o).1]) (i + 1) else .inr (doErr a base out.length o, i)) = .inl out' := h
    by_cases hz : doErr a base out.length o = 0
    · rw [if_pos hz] at h'
      have h0 : (oneN a base o).2 = 0 := by
        refine Classical.byContradiction fun hn0 => ?_
        unfold doErr at hz
        rw [if_neg hn0] at hz
        exact hn0 hz
      obtain ⟨h1, h2⟩ := runO_ok ha l (base ++ [baseOf o]) (out ++ [(oneN a base o).1]) (i + 1) (fun x hx => hl x (by simp [hx])) (nd_snoc ho (oneN_ok ha (hl o (by simp)) h0)) out' h'
      refine ⟨h1, ?_⟩
      rw [h2]
      simp only [List.length_append, List.length_cons, List.length_nil]
      omega
    · rw [if_neg hz] at h'
      cases h'
theorem applyR_yes {a : Scene} {l : List Opn} (ha : ∀ i : Nat, i < a.nodes.length → OkN 4000 (nd a.nodes i)) (hl : ∀ o ∈ l, OpOk o) (h : (applyR a l).2.1 = 0) :
    (∀ k : Nat, k < (applyR a l).1.nodes.length → OkN 5000 (nd (applyR a l).1.nodes k)) ∧ (applyR a l).1.nodes.length = l.length ∧ (typedS newTab (applyR a l).1.nodes).1 = 0 ∧ Right (applyR a l).1 ∧ isC (applyR a l).1 = true := by
  unfold applyR at h ⊢
  by_cases h1 : (typedS newTab a.nodes).1 = 0
  · rw [if_pos h1] at h ⊢
    by_cases h2 : isC a = true
    · rw [if_pos h2] at h ⊢
      cases hr : runO a.nodes l [] [] 0 with
      | inr q =>
        rw [hr] at h
        have h' : q.1 = 0 := h
        exfalso
        -- an error is not 0
        have key : ∀ (l : List Opn) (base : List Int) (out : List Node) (i : Nat) (q : Int × Nat), runO a.nodes l base out i = .inr q → ¬ q.1 = 0 := fun l => by
          induction l with
          | nil => intro base out i q h; cases h
          | cons o l ih =>
            intro base out i q h
            have h3 : (if doErr a.nodes base out.length o = 0 then runO a.nodes l (base ++ [baseOf o]) (out ++ [(oneN a.nodes base o).1]) (i + 1) else .inr (doErr a.nodes base out.length o, i)) = .inr q := h
            by_cases hz : doErr a.nodes base out.length o = 0
            · rw [if_pos hz] at h3; exact ih _ _ _ _ h3
            · rw [if_neg hz] at h3
              injection h3 with h3
              subst h3
              exact hz
        exact key _ _ _ _ _ hr h'
      | inl out =>
        rw [hr] at h
        have h' : (finR out).2.1 = 0 := h
        obtain ⟨k1, k2⟩ := runO_ok ha l [] [] 0 hl (fun k hk => by simp at hk) out hr
        show (∀ k : Nat, k < (finR out).1.nodes.length → OkN 5000 (nd (finR out).1.nodes k)) ∧ (finR out).1.nodes.length = l.length ∧ (typedS newTab (finR out).1.nodes).1 = 0 ∧ Right (finR out).1 ∧ isC (finR out).1 = true
        unfold finR at h' ⊢
        by_cases g1 : (typedS newTab out).1 = 0
        · rw [if_pos g1] at h' ⊢
          by_cases g2 : (gcheck (sceneOf out)).1 = 0
          · rw [if_pos g2] at h' ⊢
            by_cases g3 : isC (sceneOf out) = true
            · rw [if_pos g3]
              exact ⟨k1, by rw [List.length_nil] at k2; show out.length = _; omega, g1, gcheck_right.1 g2, g3⟩
            · rw [if_neg g3] at h'
              have h3 : (16 : Int) = 0 := h'
              omega
          · rw [if_neg g2] at h'
            exact absurd h' g2
        · rw [if_neg g1] at h'
          exact absurd h' g1
    · rw [if_neg h2] at h
      have h3 : (16 : Int) = 0 := h
      omega
  · rw [if_neg h1] at h
    exact absurd h h1
theorem applyR_no {a : Scene} {l : List Opn} (h : ¬ (applyR a l).2.1 = 0) : (applyR a l).1.nodes = [] := by
  unfold applyR at h ⊢
  by_cases h1 : (typedS newTab a.nodes).1 = 0
  · rw [if_pos h1] at h ⊢
    by_cases h2 : isC a = true
    · rw [if_pos h2] at h ⊢
      cases hr : runO a.nodes l [] [] 0 with
      | inr q => rfl
      | inl out =>
        rw [hr] at h
        have h' : ¬ (finR out).2.1 = 0 := h
        show (finR out).1.nodes = []
        unfold finR at h' ⊢
        by_cases g1 : (typedS newTab out).1 = 0
        · rw [if_pos g1] at h' ⊢
          by_cases g2 : (gcheck (sceneOf out)).1 = 0
          · rw [if_pos g2] at h' ⊢
            by_cases g3 : isC (sceneOf out) = true
            · rw [if_pos g3] at h'
              exact absurd rfl h'
            · rw [if_neg g3]
          · rw [if_neg g2]
        · rw [if_neg g1]
    · rw [if_neg h2]
  · rw [if_neg h1]
theorem applyR_small {a : Scene} {l : List Opn} (ha : ∀ i : Nat, i < a.nodes.length → OkN 4000 (nd a.nodes i)) (hl : ∀ o ∈ l, OpOk o) : ∀ k : Nat, k < (applyR a l).1.nodes.length → OkN 5000 (nd (applyR a l).1.nodes k) := by
  by_cases h : (applyR a l).2.1 = 0
  · exact (applyR_yes ha hl h).1
  · rw [applyR_no h]
    intro k hk
    simp at hk
theorem op_all {l : List Opn} {P : Opn → Prop} (h : ∀ k : Nat, k < l.length → P (op l k)) : ∀ o ∈ l, P o := fun o ho => by
  obtain ⟨k, hk, rfl⟩ := List.getElem_of_mem ho
  have := h k hk
  rwa [op_eq hk] at this
end Go.Proofs.YtglfebpgdghlfaaDoor.L
end
section
namespace Go.Proofs.YtglfebpgdghlfaaDoor.L
open Go.RowKit Go.ChangeShapes Go.WideShapes Go.Proofs.YtglfebpgdghlfaaDoorW.PrintWords Go.Proofs.YtglfebpgdghlfaaDoorW.PrintLast Go.Proofs.YtglfebpgdghlfaaDoorW.PrintMore
attribute [local go_sem] max2_int min2_int max_two min_two max_three min_three max_four min_four
theorem RowsPost.drew {l : List Node} {w W : World} {e : Ending} (h : RowsPost l w e W) : RowsPost l w e W.drew := by
  obtain ⟨g, c, he, hS, hB⟩ := h
  exact ⟨g, c, he, Kd.S_drew hS, below_drew hB⟩
end Go.Proofs.YtglfebpgdghlfaaDoor.L
end
section
namespace Go.Proofs.YtglfebpgdghlfaaDoor.L
open Go.RowKit Go.ChangeShapes Go.WideShapes Go.Proofs.YtglfebpgdghlfaaDoorW.PrintWords Go.Proofs.YtglfebpgdghlfaaDoorW.PrintLast Go.Proofs.YtglfebpgdghlfaaDoorW.PrintMore
attribute [local go_sem] max2_int min2_int max_two min_two max_three min_three max_four min_four
open Go.Proofs.YtglfebpgdghlfaaDoor.PUpgradeUps
theorem CnRel.kid {w1 : World} {root : Int} {xs : List Node} {g m c : Nat} {W : World} (h : CnRel w1 root xs (.slice (some ⟨g, 0, none⟩) m c) W) (i : Nat) (hi : i < m) {v : Value} {q : List Int} (hv : (Kd.int .i64).R 3 W w1.heap.size (fun _ => True) v q) :
    (∃ x, W.cell? ⟨g, i * 4 + 3, none⟩ = some x) ∧ W.frozen? ⟨g, i * 4 + 3, none⟩ = false ∧ CnRel w1 root (xs.set i (withKids (nd xs i) q)) (.slice (some ⟨g, 0, none⟩) m c) (W.setCell ⟨g, i * 4 + 3, none⟩ v) := by
  obtain ⟨cs, hcl, hM, hcc, hfr⟩ := R_elemN h.row nodez i hi
  obtain ⟨v1, v2, v3, rfl, h1, h2, h3⟩ := kNode_openM hM
  have hM' : kNode.M W w1.heap.size (fun k => True ∧ k ≠ g) (withKids (nd xs i) q) [.int .i64 (nd xs i).kind, v1, v2, v] :=
    kNode_mkM h1 h2 (Kd.R_mono (Kd.R_tight rfl hv) (fun k hk => ⟨trivial, fun e => R_apart hv h.row (by decide) k hk (by rw [e]; rfl)⟩))
  obtain ⟨hs, hg⟩ := R_segN h.row i hi (seg := [v]) (j := 3) hcl hcc (Nat.le_refl 4) (x' := withKids (nd xs i) q) (okp := fun k => True ∧ k ≠ g) hM' (fun k hk => hk)
  have e : W.setCells g (i * kNode.sz + 3) [v] = W.setCell ⟨g, i * 4 + 3, none⟩ v := rfl
  rw [e] at hs hg
  have hgw := Kd.R_base h.row g rfl
  refine ⟨⟨_, hcc 3 _ rfl⟩, hfr 3, below_set h.below hgw, blk_grown h.out hg (fun e => ?_), hs⟩
  exact (Kd.R_ne h.row h.out (by decide)) e
theorem S_elem {w : World} {base m c : Nat} {A : Option Addr} {xs : List Node} (h : Kd.S kNode 26 w base (fun _ => True) (.slice A m c) xs) (j : Nat) (hj : j < xs.length) :
    ∃ g A1 c1 A2 c2 A3 c3, A = some ⟨g, 0, none⟩ ∧ m = xs.length ∧ w.cell? ⟨g, j * 4, none⟩ = some (.int .i64 (nd xs j).kind) ∧ w.cell? ⟨g, j * 4 + 1, none⟩ = some (.slice A1 (nd xs j).ints.length c1) ∧ w.cell? ⟨g, j * 4 + 2, none⟩ = some (.slice A2 (nd xs j).texts.length c2) ∧ w.cell? ⟨g, j * 4 + 3, none⟩ = some (.slice A3 (nd xs j).kids.length c3) ∧
      (Kd.int .i64).R 2 w base (fun _ => True) (.slice A1 (nd xs j).ints.length c1) (nd xs j).ints ∧ Kd.string.R 9 w base (fun _ => True) (.slice A2 (nd xs j).texts.length c2) (nd xs j).texts ∧ (Kd.int .i64).R 3 w base (fun _ => True) (.slice A3 (nd xs j).kids.length c3) (nd xs j).kids := by
  have hR := Kd.S_R h
  have hm := (Kd.R_reads' hR).1
  obtain ⟨g, c', hv, -⟩ := Kd.R_form hR (by omega)
  injection hv with hA _ hc
  subst hA hc
  obtain ⟨cs, hcl, hM, hcc, hfr⟩ := R_elemN hR nodez j (by omega)
  obtain ⟨v1, v2, v3, rfl, h1, h2, h3⟩ := kNode_openM hM
  obtain ⟨A1, c1, rfl⟩ := Kd.R_slice h1
  obtain ⟨A2, c2, rfl⟩ := Kd.R_slice h2
  obtain ⟨A3, c3, rfl⟩ := Kd.R_slice h3
  exact ⟨g, A1, c1, A2, c2, A3, c3, rfl, hm, hcc 0 _ rfl, hcc 1 _ rfl, hcc 2 _ rfl, hcc 3 _ rfl, Kd.R_mono h1 (fun _ _ => trivial), Kd.R_mono h2 (fun _ _ => trivial), Kd.R_mono h3 (fun _ _ => trivial)⟩
end Go.Proofs.YtglfebpgdghlfaaDoor.L
end
section
namespace Go.Proofs.YtglfebpgdghlfaaDoor.L
open Go.RowKit Go.ChangeShapes Go.WideShapes Go.Proofs.YtglfebpgdghlfaaDoorW.PrintWords Go.Proofs.YtglfebpgdghlfaaDoorW.PrintLast Go.Proofs.YtglfebpgdghlfaaDoorW.PrintMore
attribute [local go_sem] max2_int min2_int max_two min_two max_three min_three max_four min_four
def aS : Scene := ⟨[⟨2, [1, 2, 3, 4], [], [1]⟩, ⟨6, [9], [], []⟩], 0⟩
end Go.Proofs.YtglfebpgdghlfaaDoor.L
end
section
namespace Go.Proofs.YtglfebpgdghlfaaDoor.L
open Go.RowKit Go.ChangeShapes Go.WideShapes Go.Proofs.YtglfebpgdghlfaaDoorW.PrintWords Go.Proofs.YtglfebpgdghlfaaDoorW.PrintLast Go.Proofs.YtglfebpgdghlfaaDoorW.PrintMore
attribute [local go_sem] max2_int min2_int max_two min_two max_three min_three max_four min_four
theorem great_small {n : Node} (h : greatN n = false) : Small n ∧ TextsSmall n := by
  have h' := of_decide_eq_false h
  have h1 : ¬ 100 < n.ints.length := fun e => h' (.inl e)
  have h2 : ¬ 100 < n.texts.length := fun e => h' (.inr (.inl e))
  have h3 : ¬ 300 < n.kids.length := fun e => h' (.inr (.inr (.inl e)))
  refine ⟨⟨by omega, by omega, by omega⟩, fun j hj => ?_⟩
  have h4 : ¬ 500 < (str n.texts j).size := fun e => h' (.inr (.inr (.inr ⟨j, hj, e⟩)))
  omega
end Go.Proofs.YtglfebpgdghlfaaDoor.L
end
section
namespace Go.Proofs.YtglfebpgdghlfaaDoor.L
open Go.RowKit Go.ChangeShapes Go.WideShapes Go.Proofs.YtglfebpgdghlfaaDoorW.PrintWords Go.Proofs.YtglfebpgdghlfaaDoorW.PrintLast Go.Proofs.YtglfebpgdghlfaaDoorW.PrintMore
attribute [local go_sem] max2_int min2_int max_two min_two max_three min_three max_four min_four
open Go.Proofs.YtglfebpgdghlfaaDoor.PUpgradeUps
theorem greatS_small {s : Scene} (h : greatS s = false) : s.nodes.length ≤ 60 ∧ (∀ i : Nat, i < s.nodes.length → Small (nd s.nodes i)) ∧ (∀ i : Nat, i < s.nodes.length → TextsSmall (nd s.nodes i)) ∧ (∀ i : Nat, i < s.nodes.length → (nd s.nodes i).kids.length ≤ 300) := by
  have h' := of_decide_eq_false h
  have h1 : ¬ 60 < s.nodes.length := fun e => h' (.inl e)
  have hg : ∀ i : Nat, i < s.nodes.length → greatN (nd s.nodes i) = false := fun i hi => Bool.eq_false_iff.2 (fun e => h' (.inr (.inr ⟨i, hi, e⟩)))
  refine ⟨by omega, fun i hi => (great_small (hg i hi)).1, fun i hi => (great_small (hg i hi)).2, fun i hi => ?_⟩
  have h2 := of_decide_eq_false (hg i hi)
  have h3 : ¬ 300 < (nd s.nodes i).kids.length := fun e => h2 (.inr (.inr (.inl e)))
  omega
theorem sum_le_of {f : Nat → Nat} {b : Nat} : ∀ l : List Nat, (∀ x ∈ l, f x ≤ b) → (l.map f).sum ≤ l.length * b
  | [], _ => by simp
  | x :: l, h => by
    have := sum_le_of (f := f) (b := b) l (fun y hy => h y (by simp [hy]))
    have := h x (by simp)
    rw [List.map_cons, List.sum_cons, List.length_cons, Nat.succ_mul]
    omega
theorem rows_le {ns : List Node} {b : Nat} (h : ∀ i : Nat, i < ns.length → (nd ns i).kids.length ≤ b) : rows ns ≤ ns.length * (b + 1) := by
  unfold rows
  have := sum_le_of (f := wt ns) (b := b + 1) (List.range ns.length) (fun x hx => by
    have := h x (List.mem_range.1 hx)
    unfold wt
    omega)
  rwa [List.length_range] at this
end Go.Proofs.YtglfebpgdghlfaaDoor.L
end
section
namespace Go.Proofs.YtglfebpgdghlfaaDoor.L
open Go.RowKit Go.ChangeShapes Go.WideShapes Go.Proofs.YtglfebpgdghlfaaDoorW.PrintWords Go.Proofs.YtglfebpgdghlfaaDoorW.PrintLast Go.Proofs.YtglfebpgdghlfaaDoorW.PrintMore
attribute [local go_sem] max2_int min2_int max_two min_two max_three min_three max_four min_four
structure OpBd (o : Opn) : Prop where
  k0 : -9223372036854775808 ≤ o.kind
  k1 : o.kind ≤ 9223372036854775807
  b0 : -9223372036854775808 ≤ o.base
  b1 : o.base ≤ 9223372036854775807
theorem great_okN {n : Node} {b : Nat} (h : greatN n = false) (hb : 300 ≤ b) : OkN b n := by
  obtain ⟨h1, h2⟩ := great_small h
  have h3 := of_decide_eq_false h
  have h4 : ¬ 300 < n.kids.length := fun e => h3 (.inr (.inr (.inl e)))
  refine ⟨h1.1, h1.2.1, by omega, fun x hx => ?_⟩
  obtain ⟨j, hj, rfl⟩ := List.getElem_of_mem hx
  have := h2 j hj
  unfold str at this
  rwa [List.getD_eq_getElem?_getD, List.getElem?_eq_getElem hj] at this
theorem greatS_okN {s : Scene} (h : greatS s = false) : ∀ i : Nat, i < s.nodes.length → OkN 4000 (nd s.nodes i) := fun i hi => by
  have h' := of_decide_eq_false h
  exact great_okN (Bool.eq_false_iff.2 (fun e => h' (.inr (.inr ⟨i, hi, e⟩)))) (by omega)
theorem greatO_ok {l : List Opn} (h : greatO l = false) (hb : ∀ k : Nat, k < l.length → OpBd (op l k)) : l.length ≤ 60 ∧ ∀ k : Nat, k < l.length → OpOk (op l k) := by
  have h' := of_decide_eq_false h
  have h1 : ¬ 60 < l.length := fun e => h' (.inl e)
  refine ⟨by omega, fun k hk => ?_⟩
  have h2 : ¬ greatOp (op l k) := fun e => h' (.inr ⟨k, hk, e⟩)
  have hb := hb k hk
  have g1 : greatN (op l k).node = false := Bool.eq_false_iff.2 (fun e => h2 (.inl e))
  have g2 : ¬ 50 < (op l k).sets.length := fun e => h2 (.inr (.inl e))
  have g3 : ¬ 100 < (op l k).script.length := fun e => h2 (.inr (.inr (.inl e)))
  have g4 : ¬ setsBad (op l k).sets := fun e => h2 (.inr (.inr (.inr e)))
  refine ⟨great_okN g1 (by omega), by omega, by omega, fun x hx => ?_, hb.k0, hb.k1, hb.b0, hb.b1⟩
  obtain ⟨j, hj, rfl⟩ := List.getElem_of_mem hx
  refine Classical.byContradiction fun hn => g4 ⟨j, hj, ?_⟩
  rw [st_eq hj]
  omega
set_option maxRecDepth 100000 in
set_option maxHeartbeats 4000000 in
theorem great23_any (A : Option Addr) (c : Nat) (a : Scene) (Al : Option Addr) (cl : Nat) (l : List Opn) (w : World) (h : kNode.C w A a.nodes.length a.nodes) (hl : kOpn.C w Al l.length l) :
    Calls Tryd.prog 28 #[.agg #[.slice A a.nodes.length c, .int .i64 a.root], .slice Al l.length cl] w fun e w' => e = .returned (.bool (greatS a || greatO l)) ∧ Below w.heap.size w w' := by
  have HR := Aside0.mk h
  have HL := Aside0.mk hl
  have HB := Aside0.mk (below_alloc (Below.refl w.heap.size w) (.cells #[.slice A a.nodes.length c, .int .i64 a.root] 39))
  have k0 := box_cell w _ rfl #[.slice A a.nodes.length c, .int .i64 a.root] 39 0 (.slice A a.nodes.length c) rfl
  have k1 := box_cell w _ rfl #[.slice A a.nodes.length c, .int .i64 a.root] 39 1 (.int .i64 a.root) rfl
  have hu := Tryd.underlying39
  clear h hl
  go_enter Tryd.func28, Tryd.ntmps28
  go_wp2_with fail
  refine (greatS_any A c a _ (Kd.C_below HR.out HB.out)).mono ?_
  rintro e w1 ⟨rfl, hB1⟩
  have HB1 := Aside0.mk (below_step HB.out hB1)
  clear hB1 k0 k1
  cases hg : greatS a with
  | true =>
    have HE := Aside0.mk (show (greatS a || greatO l) = true from by rw [hg]; rfl)
    clear hg
    go_wp2
    go_ret
    exact ⟨ret_bool HE.out.symm, HB1.out⟩
  | false =>
    have HE := Aside0.mk (show (greatS a || greatO l) = greatO l from by rw [hg]; rfl)
    clear hg
    go_wp2_with fail
    refine (greatO_any Al cl l _ (Kd.C_below HL.out HB1.out)).mono ?_
    rintro e w2 ⟨rfl, hB2⟩
    have HB2 := Aside0.mk (below_step HB1.out hB2)
    clear hB2
    go_wp2
    go_ret
    exact ⟨ret_bool HE.out.symm, HB2.out⟩
end Go.Proofs.YtglfebpgdghlfaaDoor.L
end
section
namespace Go.Proofs.YtglfebpgdghlfaaDoor.L
open Go.RowKit Go.ChangeShapes Go.WideShapes Go.Proofs.YtglfebpgdghlfaaDoorW.PrintWords Go.Proofs.YtglfebpgdghlfaaDoorW.PrintLast Go.Proofs.YtglfebpgdghlfaaDoorW.PrintMore
attribute [local go_sem] max2_int min2_int max_two min_two max_three min_three max_four min_four
set_option maxRecDepth 100000 in
set_option maxHeartbeats 8000000 in
theorem rebuildApplies_any (A : Option Addr) (c : Nat) (a : Scene) (Al : Option Addr) (cl : Nat) (l : List Opn) (w : World) (h : kNode.C w A a.nodes.length a.nodes) (hc : a.nodes.length ≤ c) (hl : kOpn.C w Al l.length l) (hlc : l.length ≤ cl) (hb : ∀ k : Nat, k < l.length → OpBd (op l k)) (hT : Tabs w) :
    Calls Tryd.prog 6 #[.agg #[.slice A a.nodes.length c, .int .i64 a.root], .slice Al l.length cl] w fun e w' => e = .returned (.bool true) ∧ Below w.heap.size w w' := by
  have HR := Aside0.mk h
  have HL := Aside0.mk hl
  have HT := Aside0.mk hT
  have HBd := Aside0.mk hb
  have HB := Aside0.mk (below_alloc (Below.refl w.heap.size w) (.cells #[.slice A a.nodes.length c, .int .i64 a.root] 39))
  have k0 := box_cell w _ rfl #[.slice A a.nodes.length c, .int .i64 a.root] 39 0 (.slice A a.nodes.length c) rfl
  have k1 := box_cell w _ rfl #[.slice A a.nodes.length c, .int .i64 a.root] 39 1 (.int .i64 a.root) rfl
  have hu := Tryd.underlying39
  clear h hl hT hb
  go_enter Tryd.func6, Tryd.ntmps6
  go_wp2_with fail
  refine (rawake_any _ (HT.out.below HB.out)).mono ?_
  rintro e w1 ⟨rfl, hB1⟩
  replace k0 := pw_cell_below hB1 k0
  replace k1 := pw_cell_below hB1 k1
  have HB1 := Aside0.mk (below_step HB.out hB1)
  clear hB1
  go_wp2_with fail
  refine (great23_any A c a Al cl l _ (Kd.C_below HR.out HB1.out) (Kd.C_below HL.out HB1.out)).mono ?_
  rintro e w2 ⟨rfl, hB2⟩
  replace k0 := pw_cell_below hB2 k0
  replace k1 := pw_cell_below hB2 k1
  have HB2 := Aside0.mk (below_step HB1.out hB2)
  clear hB2
  cases hg : (greatS a || greatO l) with
  | true =>
    clear hg
    go_wp2_with fail
    refine (rawake_any _ (HT.out.below HB2.out)).mono ?_
    rintro e w3 ⟨rfl, hB3⟩
    have HB3 := Aside0.mk (below_step HB2.out hB3)
    clear hB3 k0 k1
    go_wp2
    go_ret
    exact ⟨rfl, HB3.out⟩
  | false =>
    have hg' := Bool.or_eq_false_iff.1 hg
    have HG := Aside0.mk (greatS_small hg'.1)
    have HOk := Aside0.mk (greatS_okN hg'.1)
    have HOp := Aside0.mk (greatO_ok hg'.2 HBd.out).2
    have hn60 : l.length ≤ 60 := (greatO_ok hg'.2 HBd.out).1
    have ha60 : a.nodes.length ≤ 60 := HG.out.1
    have HMr := Aside0.mk (show rows a.nodes ≤ 130000 from by
      have h1 := rows_le HG.out.2.2.2
      have h2 : a.nodes.length * (300 + 1) ≤ 60 * 301 := Nat.mul_le_mul HG.out.1 (by omega)
      omega)
    have HRs := Aside0.mk (applyR_small HOk.out (op_all HOp.out))
    clear hg hg'
    go_wp2_with fail
    refine (scopy_any A c a _ (Kd.C_below HR.out HB2.out) hc (by omega) HG.out.2.1).mono ?_
    rintro e w3 ⟨A2, c2, rfl, -, hC3, hB3⟩
    replace k0 := pw_cell_below hB3 k0
    replace k1 := pw_cell_below hB3 k1
    have HC3 := Aside0.mk hC3
    have HB3 := Aside0.mk (below_step HB2.out hB3)
    clear hB3 hC3
    go_wp2_with (at_builtin; refine Kd.R_append_rows (elder kOpn w) (Rr := kOpn.K w) (w0 := w3) w3.heap.size rfl (.tmp 22) (.tmp 23) 52 61 (.agg #[.int .i64 0, .int .i64 0, .slice none 0 0, .slice none 0 0, .int .i64 0, .slice none 0 0, .slice none 0 0, .slice none 0 0]) 144 rfl Tryd.underlying52 info_op rfl (show 0 < 8 from by decide) (by omega) (.slice (some ⟨w3.heap.size, 0, none⟩) 0 0) [] l _ _ _ (fun _ => True) (fun _ => False) rfl rfl (R_empty _ _ _ _ (Nat.le_refl _)) (rows_later HL.out (below_alloc HB3.out _)) (fun _ _ h => h) (fun _ h => h.elim) (fun _ _ => trivial) (below_alloc (Below.refl _ _) _) (by simp) (by simp; omega) ?_; intro v4 w4 hR4 hB4 _ _; have HR4 := Aside0.mk hR4; have HB4 := Aside0.mk hB4; clear hR4 hB4)
    have hR4' : Kd.R (elder kOpn w) 61 w4 w3.heap.size (fun _ => True) v4 l := HR4.out
    obtain ⟨A4, c4, rfl⟩ := Kd.R_slice hR4'
    have HB5 := Aside0.mk (below_step HB3.out HB4.out)
    have HL5 := Aside0.mk (elder_C HB5.out (Kd.R_reads' hR4').2.2)
    have HC5 := Aside0.mk (Kd.C_below HC3.out HB4.out)
    replace k0 := pw_cell_below HB4.out k0
    replace k1 := pw_cell_below HB4.out k1
    clear hR4' HR4 HB4 HC3
    refine (rapp_any A2 c2 a A4 c4 l _ HC5.out HL5.out (HT.out.below HB5.out) (by omega) (by have := HMr.out; omega) HOk.out HOp.out hn60).mono ?_
    rintro e w6 ⟨A6, c6, rfl, hR6, hB6⟩
    have hA6 := below_alloc (Below.refl w6.heap.size w6) (.cells #[.slice A6 (applyR a l).1.nodes.length c6, .int .i64 (applyR a l).1.root] 39)
    replace k0 := pw_cell_below hA6 (pw_cell_below hB6 k0)
    replace k1 := pw_cell_below hA6 (pw_cell_below hB6 k1)
    have q0 := box_cell w6 _ rfl #[.slice A6 (applyR a l).1.nodes.length c6, .int .i64 (applyR a l).1.root] 39 0 (.slice A6 (applyR a l).1.nodes.length c6) rfl
    have q1 := box_cell w6 _ rfl #[.slice A6 (applyR a l).1.nodes.length c6, .int .i64 (applyR a l).1.root] 39 1 (.int .i64 (applyR a l).1.root) rfl
    have HB7 := Aside0.mk (below_step (below_step HB5.out hB6) hA6)
    have HC7 := Aside0.mk (Kd.C_below (Kd.R_reads' hR6).2.2 hA6)
    clear hR6 hB6 hA6 HB5 HL5 HC5
    go_wp2_with fail
    refine (rrapp_any A c a Al cl l _ (Kd.C_below HR.out HB7.out) hc (Kd.C_below HL.out HB7.out) (by have := HMr.out; omega) HOk.out HOp.out hn60).mono ?_
    rintro e w8 ⟨A8, c8, rfl, hR8, hB8⟩
    have hA8 := below_alloc (Below.refl w8.heap.size w8) (.cells #[.slice A8 (applyR a l).1.nodes.length c8, .int .i64 (applyR a l).1.root] 39)
    replace q0 := pw_cell_below hA8 (pw_cell_below hB8 q0)
    replace q1 := pw_cell_below hA8 (pw_cell_below hB8 q1)
    have p0 := box_cell w8 _ rfl #[.slice A8 (applyR a l).1.nodes.length c8, .int .i64 (applyR a l).1.root] 39 0 (.slice A8 (applyR a l).1.nodes.length c8) rfl
    have p1 := box_cell w8 _ rfl #[.slice A8 (applyR a l).1.nodes.length c8, .int .i64 (applyR a l).1.root] 39 1 (.int .i64 (applyR a l).1.root) rfl
    have HB9 := Aside0.mk (below_step (below_step HB7.out hB8) hA8)
    have HC9 := Aside0.mk (Kd.C_below (Kd.C_below HC7.out hB8) hA8)
    have HD9 := Aside0.mk (Kd.C_below (Kd.R_reads' hR8).2.2 hA8)
    clear hR8 hB8 hA8 HB7 HC7 k0 k1
    generalize applyR a l = r at HRs HB9 HC9 HD9 p0 p1 q0 q1 ⊢
    obtain ⟨t, er, at_⟩ := r
    go_wp2_with fail
    refine (sameS_any A6 c6 t A8 c8 t _ HC9.out HD9.out (fun i hi => (HRs.out i hi).small (by omega))).mono ?_
    rintro e w10 ⟨rfl, hB10⟩
    rw [sameS_yes rfl]
    have HB11 := Aside0.mk (below_step HB9.out hB10)
    clear hB10 p0 p1 q0 q1
    go_wp2
    go_ret
    exact ⟨ret_bool (by simp), HB11.out⟩
end Go.Proofs.YtglfebpgdghlfaaDoor.L
end
section
namespace Go.Proofs.YtglfebpgdghlfaaDoor.L
open Go.RowKit Go.ChangeShapes Go.WideShapes Go.Proofs.YtglfebpgdghlfaaDoorW.PrintWords Go.Proofs.YtglfebpgdghlfaaDoorW.PrintLast Go.Proofs.YtglfebpgdghlfaaDoorW.PrintMore
attribute [local go_sem] max2_int min2_int max_two min_two max_three min_three max_four min_four
section
variable {P : Program} {α β : Type}
def Opens (P : Program) (k : Kd α) (t : TypeId) (good : α → Prop) : Prop :=
  ∀ (H : Type) (enc : TypeId × Value → H) (w : World) (base : Nat) (spare : Nat → Bool) (held : Bool) (fuel : Nat) (cs : List Value) (x : DataW H × List MemPlace), DataW.trod enc P w base spare held fuel t cs = some x → ∃ v, k.K w v cs ∧ good v
theorem opens_int {t : TypeId} {k : IntKind} (ht : P.underlying t = some (.int k)) : Opens P (Kd.int k) t (fun n => (Lit.int k n).wf = true) := by
  intro H enc w base spare held fuel cs x h
  obtain ⟨n, rfl, _, hw⟩ := DataW.trod_int ht h
  exact ⟨n, rfl, hw⟩
theorem opens_bool {t : TypeId} (ht : P.underlying t = some .bool) : Opens P Kd.bool t (fun _ => True) := by
  intro H enc w base spare held fuel cs x h
  obtain ⟨b, rfl, _⟩ := DataW.trod_bool ht h
  exact ⟨b, rfl, trivial⟩
theorem opens_string {t : TypeId} (ht : P.underlying t = some .string) : Opens P Kd.string t (fun s => s.size ≤ maxLen) := by
  intro H enc w base spare held fuel cs x h
  obtain ⟨s, rfl, _, hs⟩ := DataW.trod_string ht h
  exact ⟨s, rfl, hs⟩
theorem list_of {R : Nat → α → Prop} : ∀ n, (∀ i, i < n → ∃ p, R i p) → ∃ xs : List α, xs.length = n ∧ ∀ j p, xs[j]? = some p → R j p := by
  intro n
  induction n with
  | zero => intro _; exact ⟨[], rfl, fun j p h => by simp at h⟩
  | succ n ih =>
    intro h
    obtain ⟨xs, hl, hx⟩ := ih (fun i hi => h i (by omega))
    obtain ⟨p, hp⟩ := h n (by omega)
    refine ⟨xs ++ [p], by simp [hl], fun j q hq => ?_⟩
    rw [List.getElem?_append] at hq
    split at hq
    · exact hx j q hq
    · have hj : j = n := by
        have := (List.getElem?_eq_some_iff.1 hq).1
        simp at this
        omega
      subst hj
      rw [hl, Nat.sub_self] at hq
      simp at hq
      subst hq
      exact hp
theorem opens_slice {d : Kd α} {t e e' : TypeId} {good : α → Prop} (ht : P.underlying t = some (.slice e)) (hc : P.cellsOf e = d.sz) (hd : Opens P d e good) : Opens P (Kd.slice e' d) t (fun xs => xs.length ≤ maxLen ∧ ∀ x ∈ xs, good x) := by
  intro H enc w base spare held fuel cs x h
  rcases Deep.open_slice ht h with ⟨rfl, _⟩ | ⟨a, len, cap, m, n, D, Pl, rfl, _, hl, hm, hmm, _, hx⟩
  · exact ⟨[], ⟨none, 0, rfl, Nat.le_refl _, rfl, by simp, fun h => by simp at h⟩, by simp, by simp⟩
  · have hlm : len ≤ m := by rw [hmm]; split <;> omega
    rw [hc] at hx
    obtain ⟨xs, hxl, hxs⟩ := list_of (R := fun i p => (∃ c, c.length = d.sz ∧ d.K w p c ∧ ∀ j u, c[j]? = some u → w.cell? (a.add (i * d.sz + j)) = some u) ∧ good p) len (fun i hi => by
      obtain ⟨cs', h1, h2⟩ := hx i (by omega)
      obtain ⟨_, hcl, hat⟩ := World.cells?_some h1
      obtain ⟨p, hK, hg⟩ := hd H enc w base spare held n cs' _ h2
      refine ⟨p, ⟨cs', hcl, hK, fun j u hu => ?_⟩, hg⟩
      have hj : j < d.sz := by rw [← hcl]; exact (List.getElem?_eq_some_iff.1 hu).1
      rw [← Deep.add_add, hat j hj, hu])
    subst hxl
    refine ⟨xs, ⟨some a, cap, rfl, hl, rfl, by unfold maxLen at hm; omega, fun _ => ⟨a, rfl, fun j p hp => (hxs j p hp).1⟩⟩, by omega, fun x hx => ?_⟩
    obtain ⟨j, hj⟩ := List.getElem?_of_mem hx
    exact (hxs j x hj).2
def OpensL (P : Program) (k : Kd α) (fs : List Field) (off : Nat) (good : α → Prop) : Prop :=
  ∀ (H : Type) (enc : TypeId × Value → H) (w : World) (base : Nat) (spare : Nat → Bool) (held : Bool) (n : Nat) (cs : List Value), cs.length = k.sz → (∀ f ∈ fs, ∃ x, DataW.trod enc P w base spare held n f.type ((cs.drop (f.offset - off)).take (P.cellsOf f.type)) = some x) → ∃ v, k.K w v cs ∧ good v
theorem opensL_one {k : Kd α} {f : Field} {off : Nat} {good : α → Prop} (ho : f.offset = off) (hc : P.cellsOf f.type = k.sz) (h : Opens P k f.type good) : OpensL P k [f] off good := by
  intro H enc w base spare held n cs hl hf
  obtain ⟨x, hx⟩ := hf f (by simp)
  rw [ho, Nat.sub_self, List.drop_zero, hc, ← hl, List.take_length] at hx
  exact h H enc w base spare held n cs x hx
theorem opensL_cons {a : Kd α} {b : Kd β} {f : Field} {fs : List Field} {off : Nat} {ga : α → Prop} {gb : β → Prop} (ho : f.offset = off) (hc : P.cellsOf f.type = a.sz) (h : Opens P a f.type ga) (hoff : ∀ g ∈ fs, off + a.sz ≤ g.offset) (hs : OpensL P b fs (off + a.sz) gb) :
    OpensL P (Kd.pair a b) (f :: fs) off (fun x => ga x.1 ∧ gb x.2) := by
  intro H enc w base spare held n cs hl hf
  have hl' : cs.length = a.sz + b.sz := hl
  obtain ⟨x, hx⟩ := hf f (by simp)
  rw [ho, Nat.sub_self, List.drop_zero, hc] at hx
  obtain ⟨v, hv, hg⟩ := h H enc w base spare held n _ x hx
  obtain ⟨u, hu, hg'⟩ := hs H enc w base spare held n (cs.drop a.sz) (by rw [List.length_drop]; omega) (fun g hg => by
    obtain ⟨y, hy⟩ := hf g (by simp [hg])
    have := hoff g hg
    refine ⟨y, ?_⟩
    rw [List.drop_drop, show a.sz + (g.offset - (off + a.sz)) = g.offset - off from by omega]
    exact hy)
  exact ⟨(v, u), ⟨_, _, (List.take_append_drop a.sz cs).symm, hv, hu⟩, hg, hg'⟩
theorem opens_struct {k : Kd α} {t : TypeId} {fs : Array Field} {good : α → Prop} (ht : P.underlying t = some (.struct fs)) (hc : P.cellsOf t = k.sz) (h : OpensL P k fs.toList 0 good) : Opens P k t good := by
  intro H enc w base spare held fuel cs x hx
  obtain ⟨xs, n, _, _, hl, hxl, hf⟩ := DataW.trod_struct ht hx
  refine h H enc w base spare held n cs (hl.trans hc) (fun f hfm => ?_)
  obtain ⟨i, hi⟩ := List.getElem?_of_mem hfm
  have hi' : fs[i]? = some f := by simpa using hi
  have hil : i < xs.length := by rw [hxl]; exact (Array.getElem?_eq_some_iff.1 hi').1
  exact ⟨xs[i]'hil, by rw [Nat.sub_zero, hf i f hi', List.getElem?_eq_getElem hil]⟩
theorem opens_iso {d : Kd α} {f : β → α} {t : TypeId} {good : α → Prop} (hf : ∀ v, ∃ x, f x = v) (h : Opens P d t good) : Opens P (Kd.iso d f) t (fun x => good (f x)) := by
  intro H enc w base spare held fuel cs x hx
  obtain ⟨v, hv, hg⟩ := h H enc w base spare held fuel cs x hx
  obtain ⟨y, rfl⟩ := hf v
  exact ⟨y, hv, hg⟩
theorem Opens.arg_slice {d : Kd α} {H : Type} {enc : TypeId × Value → H} {W : World} {b0 base : Nat} {r : Reach} {spare : Nat → Bool} {held : Bool} {t e e' : TypeId} {good : List α → Prop} {v : Value} {q : DataW H} {p : List MemPlace} (hs : P.underlying t = some (.slice e)) (ho : Opens P (Kd.slice e' d) t good)
    (hv : Value.okWide P W r b0 t v) (h : DataW.Trod enc P W base spare held t v q p) : ∃ A l c, v = .slice A (l : List α).length c ∧ l.length ≤ c ∧ d.C W A l.length l ∧ good l := by
  obtain ⟨a0, len0, cap0, rfl⟩ := okWide_slice hs hv
  obtain ⟨fuel, hf⟩ := h
  obtain ⟨l, ⟨A, c, e, hl, hC⟩, hg⟩ := ho H enc W base spare held fuel _ _ hf
  have e : Value.slice a0 len0 cap0 = .slice A l.length c := by simpa [Value.cells] using e
  exact ⟨A, l, c, e, hl, hC, hg⟩
theorem Opens.arg_struct {k : Kd α} {H : Type} {enc : TypeId × Value → H} {W : World} {b0 base : Nat} {r : Reach} {spare : Nat → Bool} {held : Bool} {t : TypeId} {fs : Array Field} {good : α → Prop} {v : Value} {q : DataW H} {p : List MemPlace} (hs : P.underlying t = some (.struct fs)) (ho : Opens P k t good)
    (hv : Value.okWide P W r b0 t v) (h : DataW.Trod enc P W base spare held t v q p) : ∃ x cs, v = .agg cs ∧ k.K W x cs.toList ∧ good x := by
  obtain ⟨cs, rfl, _⟩ := okWide_struct hs hv
  obtain ⟨fuel, hf⟩ := h
  obtain ⟨x, hK, hg⟩ := ho H enc W base spare held fuel _ _ hf
  exact ⟨x, cs, rfl, by simpa [Value.cells] using hK, hg⟩
end
end Go.Proofs.YtglfebpgdghlfaaDoor.L
end
section
namespace Go.Proofs.YtglfebpgdghlfaaDoor.L
open Go.RowKit Go.ChangeShapes Go.WideShapes Go.Proofs.YtglfebpgdghlfaaDoorW.PrintWords Go.Proofs.YtglfebpgdghlfaaDoorW.PrintLast Go.Proofs.YtglfebpgdghlfaaDoorW.PrintMore
attribute [local go_sem] max2_int min2_int max_two min_two max_three min_three max_four min_four
open Go.ChangeShapes Go.WideShapes Go.ChangeAt Go.RowKit
theorem own : ownKnob Tryd.prog.godebug = none := by kernel_rfl
theorem laidOut : laidOutB Tryd.prog = true := by kernel_rfl
def rowLaid : List (String × DataW Unit) := [("unicode/utf8.acceptRanges", Rows.laid_unicode_utf8_acceptRanges), ("unicode/utf8.first", Rows.laid_unicode_utf8_first)]
theorem firstD : Go.Pinned.utf8First = Lib.firstData := by kernel_rfl
theorem acceptD : (Rows.laid_unicode_utf8_acceptRanges : DataW Unit) = Lib.acceptData := by kernel_rfl
theorem tabs_of_laid {W : World} (h : laidMetH Tryd.prog rowLaid W) : Tabs W := by
  rw [MakeChecks.laidMetH_plain _ _ _ (by kernel_rfl)] at h
  exact utf8Tabs_of_reads Tryd.lays260 ⟨by kernel_rfl, by kernel_rfl, by kernel_rfl, by kernel_rfl, by kernel_rfl, by kernel_rfl, by kernel_rfl⟩
    (firstD ▸ Lib.laidMet.reads h (show ("unicode/utf8.first", Go.Pinned.utf8First) ∈ rowLaid from .tail _ (.head _)))
    (acceptD ▸ Lib.laidMet.reads h (show ("unicode/utf8.acceptRanges", Rows.laid_unicode_utf8_acceptRanges) ∈ rowLaid from .head _))
theorem laid_met (os : Os) (args : Array Value) : laidMetH Tryd.prog rowLaid ((World.laidAll Tryd.prog os rowLaid).forCall (fun _ _ => 0) ⟨#[], args, []⟩).memory := by
  rw [MakeChecks.laidMetH_plain _ _ _ (by kernel_rfl)]
  exact laidMet_laidAll _ (by kernel_rfl) (by kernel_rfl)
theorem opensL_any {P : Program} {α : Type} {k : Kd α} {fs : List Field} {off : Nat} {good : α → Prop} (h : OpensL P k fs off good) : OpensL P k fs off (fun _ => True) := by
  intro H enc w base spare held n cs hl hf
  obtain ⟨v, hv, _⟩ := h H enc w base spare held n cs hl hf
  exact ⟨v, hv, trivial⟩
theorem opens_node : Opens Tryd.prog kNode 26 (fun _ => True) := by
  unfold kNode
  refine opens_iso (good := fun _ => True) (fun v => ⟨⟨v.1, v.2.1, v.2.2.1, v.2.2.2⟩, rfl⟩) (opens_struct (good := fun _ => True) Tryd.underlying26 (by kernel_rfl) ?_)
  exact opensL_any (opensL_cons rfl (by kernel_rfl) (opens_int Tryd.underlying3) (by decide)
    (opensL_cons rfl (by kernel_rfl) (opens_slice Tryd.underlying22 (by kernel_rfl) (opens_int Tryd.underlying2)) (by decide)
    (opensL_cons rfl (by kernel_rfl) (opens_slice Tryd.underlying23 (by kernel_rfl) (opens_string Tryd.underlying9)) (by decide)
    (opensL_one rfl (by kernel_rfl) (opens_slice Tryd.underlying24 (by kernel_rfl) (opens_int Tryd.underlying3))))))
def kScene : Kd Scene := Kd.iso (Kd.pair (Kd.slice 26 kNode) (Kd.int .i64)) (fun x : Scene => (x.nodes, x.root))
theorem opens_scene : Opens Tryd.prog kScene 39 (fun _ => True) := by
  unfold kScene
  refine opens_iso (good := fun _ => True) (fun v => ⟨⟨v.1, v.2⟩, rfl⟩) (opens_struct (good := fun _ => True) Tryd.underlying39 (by kernel_rfl) ?_)
  exact opensL_any (opensL_cons rfl (by kernel_rfl) (opens_slice Tryd.underlying30 (by kernel_rfl) opens_node) (by decide)
    (opensL_one rfl (by kernel_rfl) (opens_int Tryd.underlying3)))
theorem kScene_open {w : World} {x : Scene} {cs : List Value} (h : kScene.K w x cs) : ∃ A c, cs = [.slice A x.nodes.length c, .int .i64 x.root] ∧ x.nodes.length ≤ c ∧ kNode.C w A x.nodes.length x.nodes := by
  obtain ⟨_, _, rfl, ⟨A, c, rfl, l, h⟩, rfl⟩ := h
  exact ⟨A, c, rfl, l, h⟩
end Go.Proofs.YtglfebpgdghlfaaDoor.L
end
section
namespace Go.Proofs.YtglfebpgdghlfaaDoor.L
open Go.RowKit Go.ChangeShapes Go.WideShapes Go.Proofs.YtglfebpgdghlfaaDoorW.PrintWords Go.Proofs.YtglfebpgdghlfaaDoorW.PrintLast Go.Proofs.YtglfebpgdghlfaaDoorW.PrintMore
attribute [local go_sem] max2_int min2_int max_two min_two max_three min_three max_four min_four
theorem opensL_imp {P : Program} {α : Type} {k : Kd α} {fs : List Field} {off : Nat} {good good' : α → Prop} (h : OpensL P k fs off good) (hi : ∀ v, good v → good' v) : OpensL P k fs off good' := by
  intro H enc w base spare held n cs hl hf
  obtain ⟨v, hv, hg⟩ := h H enc w base spare held n cs hl hf
  exact ⟨v, hv, hi v hg⟩
theorem opens_set : Opens Tryd.prog kSet 84 (fun _ => True) := by
  unfold kSet
  refine opens_iso (good := fun _ => True) (fun v => ⟨⟨v.1, v.2.1, v.2.2.1, v.2.2.2⟩, rfl⟩) (opens_struct (good := fun _ => True) Tryd.underlying84 (by kernel_rfl) ?_)
  exact opensL_any (opensL_cons rfl (by kernel_rfl) (opens_bool Tryd.underlying4) (by decide)
    (opensL_cons rfl (by kernel_rfl) (opens_int Tryd.underlying3) (by decide)
    (opensL_cons rfl (by kernel_rfl) (opens_int Tryd.underlying2) (by decide)
    (opensL_one rfl (by kernel_rfl) (opens_string Tryd.underlying9)))))
theorem opens_ed : Opens Tryd.prog kEd 128 (fun _ => True) := by
  unfold kEd
  refine opens_iso (good := fun _ => True) (fun v => ⟨⟨v.1, v.2⟩, rfl⟩) (opens_struct (good := fun _ => True) Tryd.underlying128 (by kernel_rfl) ?_)
  exact opensL_any (opensL_cons rfl (by kernel_rfl) (opens_int Tryd.underlying3) (by decide)
    (opensL_one rfl (by kernel_rfl) (opens_int Tryd.underlying3)))
theorem opens_op : Opens Tryd.prog kOpn 61 OpBd := by
  unfold kOpn
  refine opens_iso (good := fun x : Int × Int × List SetV × List Ed × Node => OpBd ⟨x.1, x.2.1, x.2.2.1, x.2.2.2.1, x.2.2.2.2⟩) (fun v => ⟨⟨v.1, v.2.1, v.2.2.1, v.2.2.2.1, v.2.2.2.2⟩, rfl⟩) (opens_struct Tryd.underlying61 (by kernel_rfl) ?_)
  refine opensL_imp (opensL_cons rfl (by kernel_rfl) (opens_int Tryd.underlying3) (by decide)
    (opensL_cons rfl (by kernel_rfl) (opens_int Tryd.underlying3) (by decide)
    (opensL_cons rfl (by kernel_rfl) (opens_slice Tryd.underlying58 (by kernel_rfl) opens_set) (by decide)
    (opensL_cons rfl (by kernel_rfl) (opens_slice Tryd.underlying59 (by kernel_rfl) opens_ed) (by decide)
    (opensL_one rfl (by kernel_rfl) opens_node))))) ?_
  rintro ⟨k, b, s, e, n⟩ ⟨h1, h2, _⟩
  have g1 := wf_i64 h1
  have g2 := wf_i64 h2
  exact ⟨g1.1, g1.2, g2.1, g2.2⟩
end Go.Proofs.YtglfebpgdghlfaaDoor.L
end
section
namespace Go.Proofs.YtglfebpgdghlfaaDoor.L
open Go.RowKit Go.ChangeShapes Go.WideShapes Go.Proofs.YtglfebpgdghlfaaDoorW.PrintWords Go.Proofs.YtglfebpgdghlfaaDoorW.PrintLast Go.Proofs.YtglfebpgdghlfaaDoorW.PrintMore
attribute [local go_sem] max2_int min2_int max_two min_two max_three min_three max_four min_four
namespace rebuildApplies
open Go.ChangeShapes Go.WideShapes Go.ChangeAt Go.RowKit
set_option maxRecDepth 100000 in
theorem lifted (os : Os) (started : os.Started) (H : Type) (enc : TypeId × Value → H) :
    ReturnsInHanded {} Tryd.checked os 6 .any (fun w args => (Rows.rebuildAppliesSpec.pre enc Tryd.prog Tryd.f6 [] false w args ∧ laidMetH Tryd.prog rowLaid w) ∧ sizedMet enc Tryd.prog Tryd.f6 (OpenSpec.ofChange Rows.rebuildAppliesSpec) false w args)
      (Rows.rebuildAppliesSpec.post enc Tryd.prog Tryd.f6 false true false false) := by
  refine returnsInHanded_of_change_and (C := Tryd.checked) (X := fun w _ => laidMetH Tryd.prog rowLaid w) (fun _ _ _ hh h => h.of_heap hh) own started (by kernel_rfl) Tryd.func6
    (ChangeSpec.witness_shaped (enc := enc) (C := Tryd.checked) (os := os) (X := fun w _ => laidMetH Tryd.prog rowLaid w) false (World.laidAll Tryd.prog os rowLaid) #[.agg #[.slice none 0 0, .int .i64 0], .slice none 0 0] 8 (World.laidAll_os _ _ _)
      (World.shaped_of_ZipB (by kernel_rfl) (by kernel_rfl)) (by kernel_rfl) (by kernel_rfl) (by kernel_rfl) (laid_met os _)) ?_
  intro W base args ds gs before hval0 hW hc _ hL _
  have hval : ∀ (j : Nat) t v, (Tryd.f6).params[j]? = some t → args[j]? = some v → Value.okWide Tryd.prog W .any base t v := hval0
  have hW' := hW
  obtain ⟨p, q, hA0, hV, rfl, hfz, hnd⟩ := hW
  have hA : DataW.TrodAll enc Tryd.prog W 0 (fun _ => true) true (Tryd.f6).params.toList args.toList ds p := hA0
  rw [Tryd.params6] at hA hval
  obtain ⟨v0, vs0, d0, ds0, p0, q0, hargs, rfl, rfl, h0, r0⟩ := trodAll_cons hA
  obtain ⟨v1, vs1, d1, ds1, p1, q1, rfl, rfl, rfl, h1, r1⟩ := trodAll_cons r0
  obtain ⟨rfl, rfl, rfl⟩ := trodAll_nil r1
  obtain rfl : args = #[v0, v1] := by cases args; simp_all
  obtain ⟨rfl, rfl⟩ := trodVars_none hV
  have lt0 : ∀ x ∈ p0, x.block < W.heap.size := by obtain ⟨m, hm⟩ := h0; exact DataW.trod_lt m _ _ _ hm
  have lt1 : ∀ x ∈ p1, x.block < W.heap.size := by obtain ⟨m, hm⟩ := h1; exact DataW.trod_lt m _ _ _ hm
  obtain ⟨s0, cs0, rfl, hK0, _⟩ := Opens.arg_struct Tryd.underlying39 opens_scene (hval 0 39 v0 rfl rfl) h0
  obtain ⟨A0, c0, hcs0, hlc0, hC0⟩ := kScene_open hK0
  obtain rfl : cs0 = #[.slice A0 s0.nodes.length c0, .int .i64 s0.root] := by cases cs0; simp_all
  obtain ⟨A1, l1, c1, rfl, hlc1, hC1, hg1⟩ := Opens.arg_slice Tryd.underlying52 (opens_slice (e' := 61) Tryd.underlying52 (by kernel_rfl) opens_op) (hval 1 52 v1 rfl rfl) h1
  clear hA0 hval0
  refine (rebuildApplies_any A0 c0 s0 A1 c1 l1 W hC0 hlc0 hC1 hlc1 (fun k hk => hg1.2 _ (by rw [op_eq hk]; exact List.getElem_mem hk)) (tabs_of_laid hL)).mono fun e W' ⟨he, bel⟩ => ?_
  subst he
  exact ⟨_, rfl, _, _, _, [], _, [], hW', trodAll_mk1 (shut_bool Tryd.underlying4 _), (trodAll_cons_mk (Below.trod laidOut (by kernel_rfl) (of_decide_eq_true (by kernel_rfl)) h0 bel lt0) (trodAll_cons_mk (Below.trod laidOut (by kernel_rfl) (of_decide_eq_true (by kernel_rfl)) h1 bel lt1) trodAll_mk0)), rfl, bel.frame _, fun h => by cases h⟩
theorem over : Rows.RebuildAppliesSaid :=
  OpenClaim.holds_of_wide 6 Tryd.f6 rfl rfl rfl rfl rfl rfl rfl ⟨rfl, rfl, rfl, rfl, rfl⟩ rfl rfl rfl rfl rfl (by kernel_rfl) Tryd.func6 (by kernel_rfl)
    (of_decide_eq_true (by kernel_rfl)) (by unfold Func.isWrapper; first | (rw [if_pos (by decide +kernel)]; kernel_rfl) | (rw [if_neg (by decide +kernel)]; exact ⟨rfl, rfl⟩))
    (fun os started H enc _ => lifted os started H enc)
theorem card_holds : Rows.RebuildAppliesCardSaid :=
  Claim7.holds_tied_plain_at .later [] [.data, .pinned] true (true, "d9096c8d86ec02858f6829e4145980d481af2c3bac41f782ac1e7c2d8c679a29") false over (fun _ h => by cases h) (by kernel_rfl) (fun _ h => by cases h) rebuildApplies_row_tie rfl ⟨rfl, rfl⟩ (by kernel_rfl) rfl
    (fun f fn hf hfn => by
      obtain rfl : f = 6 := Option.some.inj ((show Tryd.prog.funcNamed "diorama/dioramalaw23.RebuildApplies" = some 6 by kernel_rfl).symm.trans hf) |>.symm
      obtain rfl : fn = Tryd.f6 := (Option.some.inj ((Tryd.func6).symm.trans hfn)).symm
      exact ⟨by kernel_rfl, fun j t ht => by
        rw [Tryd.params6] at ht
        have hm : t ∈ [39, 52] := by simpa using Array.mem_of_getElem? ht
        have hall : ([39, 52].all fun u => !Tryd.prog.wantsStandIn u) = true := by kernel_rfl
        exact (show Tryd.prog.wantsStandIn t = false by simpa using List.all_eq_true.1 hall t hm)⟩)
    (by kernel_rfl)
#print axioms card_holds
end rebuildApplies
end Go.Proofs.YtglfebpgdghlfaaDoor.L
end
