/- Part 3 of the texts that YtglfebpgdghlfaaDoorRowUK rests on, joined by a program: what its functions come to. Conditions: those that each theorem states. -/
import Derived.Test.YtglfebpgdghlfaaDoorQpb
import Derived.Deep.RegionHeld3
import Derived.Lib.OthersKept
import Derived.Laws.RangeAny
import Derived.Stop.FmtQuoteTie
set_option linter.unusedVariables false
set_option linter.unusedSimpArgs false
section
namespace Go.Proofs.YtglfebpgdghlfaaDoor.L
open Go.RowKit Go.ChangeShapes Go.WideShapes Go.Proofs.YtglfebpgdghlfaaDoorW.PrintWords Go.Proofs.YtglfebpgdghlfaaDoorW.PrintLast Go.Proofs.YtglfebpgdghlfaaDoorW.PrintMore
attribute [local go_sem] max2_int min2_int max_two min_two max_three min_three max_four min_four
theorem R_strs (W : World) (base g : Nat) (hg : W.heap.size = g) (ps : List ByteArray) (hb : base ≤ W.heap.size) (hm : ps.length ≤ 9223372036854775807) {cs : Array Value} (hcs : cs = (ps.flatMap fun x => [.string x]).toArray) : Kd.string.R 9 (W.alloc (.cells cs 9)) base (fun _ => True) (.slice (some ⟨g, 0, none⟩) ps.length ps.length) ps := by
  subst hg
  exact R_lits Kd.string 9 (fun x => [.string x]) W base ps (fun _ => rfl) (fun _ => rfl) hb hm hcs
theorem R_nums (T : TypeId) (W : World) (base g : Nat) (hg : W.heap.size = g) (ps : List Int) (hb : base ≤ W.heap.size) (hm : ps.length ≤ 9223372036854775807) {cs : Array Value} (hcs : cs = (ps.flatMap fun x => [.int .i64 x]).toArray) : (Kd.int .i64).R T (W.alloc (.cells cs T)) base (fun _ => True) (.slice (some ⟨g, 0, none⟩) ps.length ps.length) ps := by
  subst hg
  exact R_lits (Kd.int .i64) T (fun x => [.int .i64 x]) W base ps (fun _ => rfl) (fun _ => rfl) hb hm hcs
theorem RowsPost.one {w W : World} {n : Node} {v1 v2 v3 : Value} {g : Nat} (hM : kNode.M W w.heap.size (fun _ => True) n [.int .i64 n.kind, v1, v2, v3]) (hB : Below w.heap.size w W) (hg : W.heap.size = g) : RowsPost [n] w (.returned (.slice (some ⟨g, 0, none⟩) 1 1)) (W.alloc (.cells #[.int .i64 n.kind, v1, v2, v3] 26)) := by
  subst hg
  exact ⟨_, _, rfl, S_one W w.heap.size w.heap.size n v1 v2 v3 hM (Nat.le_refl _) hB.size rfl, below_step hB (below_alloc (Below.refl _ _) _)⟩
set_option maxRecDepth 100000 in
set_option maxHeartbeats 1000000 in
theorem up1_any (n : Node) (A1 : Option Addr) (c1 : Nat) (A2 : Option Addr) (c2 : Nat) (A3 : Option Addr) (c3 : Nat) (w : World) :
    Calls Tryd.prog 72 #[.agg #[.int .i64 n.kind, .slice A1 n.ints.length c1, .slice A2 n.texts.length c2, .slice A3 n.kids.length c3]] w (RowsPost [⟨1, [], [ByteArray.empty], []⟩] w) := by
  have hu := Tryd.underlying26
  go_enter Tryd.func72, Tryd.ntmps72
  go_wp2
  go_ret
  exact RowsPost.one (n := ⟨1, [], [ByteArray.empty], []⟩) (kNode_mkM (Kd.R_nil _ _ _ _ _) (R_strs _ _ _ (by simp) [ByteArray.empty] (by simp) (by simp) rfl) (Kd.R_nil _ _ _ _ _)) (below_alloc (below_alloc (Below.refl _ _) _) _) (by simp)
set_option maxRecDepth 100000 in
set_option maxHeartbeats 1000000 in
theorem up6_any (n : Node) (A1 : Option Addr) (c1 : Nat) (A2 : Option Addr) (c2 : Nat) (A3 : Option Addr) (c3 : Nat) (w : World) (h : NodeC w n A1 c1 A2 c2 A3 c3) (hl : 0 < n.ints.length) :
    Calls Tryd.prog 80 #[.agg #[.int .i64 n.kind, .slice A1 n.ints.length c1, .slice A2 n.texts.length c2, .slice A3 n.kids.length c3]] w (RowsPost [⟨7, [rd n.ints 0, rd n.ints 0, rd n.ints 0, 1], [], []⟩] w) := by
  have hu := Tryd.underlying26
  have hB := below_alloc (Below.refl w.heap.size w) (.cells #[.int .i64 n.kind, .slice A1 n.ints.length c1, .slice A2 n.texts.length c2, .slice A3 n.kids.length c3] 26)
  have HB := Aside0.mk hB
  obtain ⟨ad, rfl, x0⟩ := at_nat (Kd.C_below h.i hB) 0 hl
  have k1 := box_cell w _ rfl #[.int .i64 n.kind, .slice (some ad) n.ints.length c1, .slice A2 n.texts.length c2, .slice A3 n.kids.length c3] 26 1 _ rfl
  rw [show ad.add 0 = ad from rfl] at x0
  have hr : rd n.ints ((0 : Nat) : Int) = rd n.ints 0 := rfl
  rw [hr] at x0
  clear h hB
  go_enter Tryd.func80, Tryd.ntmps80
  go_wp2_with fail
  refine (like_any (rd n.ints 0) 3 _ (by omega) (by omega)).mono ?_
  rintro e w1 ⟨A4, c4, rfl, hR1, hB1⟩
  have HR1 := Aside0.mk (show (Kd.int .i64).R 2 w1 w.heap.size (fun _ => True) (.slice A4 3 c4) [rd n.ints 0, rd n.ints 0, rd n.ints 0] from Kd.R_lower hR1 HB.out.size)
  have HB1 := Aside0.mk (below_step HB.out hB1)
  clear hR1 hB1 x0 k1
  go_wp2_with (at_builtin; refine Kd.R_append (Kd.int .i64) (w0 := w) w.heap.size rfl (.tmp 7) (.tmp 8) 22 2 (.int .i64 0) 8 rfl Tryd.underlying22 info_i64 rfl (by decide) (by omega) (.slice A4 3 c4) [rd n.ints 0, rd n.ints 0, rd n.ints 0] 1 [.int .i64 1] (fun _ => True) (fun _ => False) rfl (by go_simp) rfl (fun _ h => h.elim) (fun _ _ => trivial) HR1.out HB1.out HB1.out.size (by simp) ?_; intro v2 w2 hR2 hB2 hg2 hat2; obtain ⟨A5, c5, hv2⟩ := Kd.R_slice hR2; replace hv2 : v2 = .slice A5 4 c5 := hv2; subst hv2; have HR2 := Aside0.mk (show (Kd.int .i64).R 2 w2 w.heap.size (fun _ => True) (.slice A5 4 c5) [rd n.ints 0, rd n.ints 0, rd n.ints 0, 1] from hR2); have HB2 := Aside0.mk hB2; clear hR2 hB2 hg2 hat2)
  go_ret
  exact RowsPost.one (n := ⟨7, [rd n.ints 0, rd n.ints 0, rd n.ints 0, 1], [], []⟩) (kNode_mkM HR2.out (Kd.R_nil _ _ _ _ _) (Kd.R_nil _ _ _ _ _)) HB2.out rfl
end Go.Proofs.YtglfebpgdghlfaaDoor.L
end
section
namespace Go.Proofs.YtglfebpgdghlfaaDoor.L
open Go.RowKit Go.ChangeShapes Go.WideShapes Go.Proofs.YtglfebpgdghlfaaDoorW.PrintWords Go.Proofs.YtglfebpgdghlfaaDoorW.PrintLast Go.Proofs.YtglfebpgdghlfaaDoorW.PrintMore
attribute [local go_sem] max2_int min2_int max_two min_two max_three min_three max_four min_four
set_option maxRecDepth 100000 in
set_option maxHeartbeats 1000000 in
theorem up4_any (n : Node) (A1 : Option Addr) (c1 : Nat) (A2 : Option Addr) (c2 : Nat) (A3 : Option Addr) (c3 : Nat) (w : World) (h : NodeC w n A1 c1 A2 c2 A3 c3) (hs : Small n) :
    Calls Tryd.prog 78 #[.agg #[.int .i64 n.kind, .slice A1 n.ints.length c1, .slice A2 n.texts.length c2, .slice A3 n.kids.length c3]] w (RowsPost [⟨4, n.ints, n.texts, []⟩] w) := by
  have HN := Aside0.mk h
  have HS := Aside0.mk hs
  have hu := Tryd.underlying26
  have HB := Aside0.mk (below_alloc (Below.refl w.heap.size w) (.cells #[.int .i64 n.kind, .slice A1 n.ints.length c1, .slice A2 n.texts.length c2, .slice A3 n.kids.length c3] 26))
  have k1 := box_cell w _ rfl #[.int .i64 n.kind, .slice A1 n.ints.length c1, .slice A2 n.texts.length c2, .slice A3 n.kids.length c3] 26 1 _ rfl
  have k2 := box_cell w _ rfl #[.int .i64 n.kind, .slice A1 n.ints.length c1, .slice A2 n.texts.length c2, .slice A3 n.kids.length c3] 26 2 _ rfl
  clear h hs
  go_enter Tryd.func78, Tryd.ntmps78
  go_wp2
  go_region_held3 (fun W => W.cell? ⟨w.heap.size, 1, none⟩ = some (.slice A1 n.ints.length c1) ∧ W.cell? ⟨w.heap.size, 2, none⟩ = some (.slice A2 n.texts.length c2))
    (first
      | (go_split_ands
         refine ⟨?_, ?_⟩
         all_goals first
           | with_reducible assumption
           | with_reducible exact pw_cell_below hB (by assumption)
           | with_reducible exact pw_cell_below (below_alloc (Below.refl _ _) _) (by assumption)
           | (simp [*]; done)))
    (first
      | (go_at_call 74; refine (clone_i64 A1 c1 n.ints _ (Kd.C_below HN.out.i (below_drew HB.out)) (Nat.le_trans HS.out.1 (by omega))).mono ?_; rintro e w1 ⟨B1, d1, rfl, hR1, hB1⟩; have HB1 := Aside0.mk (below_step (below_drew HB.out) hB1); have hB := hB1)
      | (go_at_call 77; refine (clone_str A2 c2 n.texts _ (Kd.C_below HN.out.t HB1.out) (Nat.le_trans HS.out.2.1 (by omega))).mono ?_; rintro e w2 ⟨B2, d2, rfl, hR2, hB2⟩; have HB2 := Aside0.mk (below_step HB1.out hB2); have hB := hB2))
  go_wp2
  go_ret
  exact RowsPost.one (n := ⟨4, n.ints, n.texts, []⟩) (kNode_mkM (Kd.R_lower (Kd.R_below hR1 hB2) (below_drew HB.out).size) (Kd.R_lower hR2 HB1.out.size) (Kd.R_nil _ _ _ _ _)) HB2.out rfl
set_option maxRecDepth 100000 in
set_option maxHeartbeats 1000000 in
theorem up3_any (n : Node) (A1 : Option Addr) (c1 : Nat) (A2 : Option Addr) (c2 : Nat) (A3 : Option Addr) (c3 : Nat) (w : World) (h : NodeC w n A1 c1 A2 c2 A3 c3) (hs : Small n) (hl : 0 < n.ints.length) :
    Calls Tryd.prog 76 #[.agg #[.int .i64 n.kind, .slice A1 n.ints.length c1, .slice A2 n.texts.length c2, .slice A3 n.kids.length c3]] w (RowsPost [⟨3, [rd n.ints 0, rd n.ints 0, rd n.ints 0], n.texts, []⟩] w) := by
  have HN := Aside0.mk h
  have HS := Aside0.mk hs
  have hu := Tryd.underlying26
  have HB := Aside0.mk (below_alloc (Below.refl w.heap.size w) (.cells #[.int .i64 n.kind, .slice A1 n.ints.length c1, .slice A2 n.texts.length c2, .slice A3 n.kids.length c3] 26))
  obtain ⟨ad, rfl, x0⟩ := at_nat (Kd.C_below h.i HB.out) 0 hl
  rw [show ad.add 0 = ad from rfl] at x0
  have hr : rd n.ints ((0 : Nat) : Int) = rd n.ints 0 := rfl
  rw [hr] at x0
  have k1 := box_cell w _ rfl #[.int .i64 n.kind, .slice (some ad) n.ints.length c1, .slice A2 n.texts.length c2, .slice A3 n.kids.length c3] 26 1 _ rfl
  have k2 := box_cell w _ rfl #[.int .i64 n.kind, .slice (some ad) n.ints.length c1, .slice A2 n.texts.length c2, .slice A3 n.kids.length c3] 26 2 _ rfl
  clear h hs hr
  go_enter Tryd.func76, Tryd.ntmps76
  go_wp2
  go_region_held3 (fun W => W.cell? ⟨w.heap.size, 1, none⟩ = some (.slice (some ad) n.ints.length c1) ∧ W.cell? ⟨w.heap.size, 2, none⟩ = some (.slice A2 n.texts.length c2) ∧ W.cell? ad = some (.int .i64 (rd n.ints 0)))
    (first
      | (go_split_ands
         refine ⟨?_, ?_, ?_⟩
         all_goals first
           | with_reducible assumption
           | with_reducible exact pw_cell_below hB (by assumption)
           | with_reducible exact pw_cell_below (below_alloc (Below.refl _ _) _) (by assumption)
           | (simp [*]; done)))
    (first
      | (go_at_call 75; refine (like_any (rd n.ints 0) 3 _ (by omega) (by omega)).mono ?_; rintro e w1 ⟨B1, d1, rfl, hR1, hB1⟩; have HB1 := Aside0.mk (below_step (below_drew HB.out) hB1); have hB := hB1)
      | (go_at_call 77; refine (clone_str A2 c2 n.texts _ (Kd.C_below HN.out.t HB1.out) (Nat.le_trans HS.out.2.1 (by omega))).mono ?_; rintro e w2 ⟨B2, d2, rfl, hR2, hB2⟩; have HB2 := Aside0.mk (below_step HB1.out hB2); have hB := hB2))
  go_wp2
  go_ret
  exact RowsPost.one (n := ⟨3, [rd n.ints 0, rd n.ints 0, rd n.ints 0], n.texts, []⟩) (kNode_mkM (Kd.R_lower (Kd.R_below hR1 hB2) (below_drew HB.out).size) (Kd.R_lower hR2 HB1.out.size) (Kd.R_nil _ _ _ _ _)) HB2.out rfl
set_option maxRecDepth 100000 in
set_option maxHeartbeats 1000000 in
theorem up5_any (n : Node) (A1 : Option Addr) (c1 : Nat) (A2 : Option Addr) (c2 : Nat) (A3 : Option Addr) (c3 : Nat) (w : World) (h : NodeC w n A1 c1 A2 c2 A3 c3) (hl : 0 < n.texts.length) :
    Calls Tryd.prog 79 #[.agg #[.int .i64 n.kind, .slice A1 n.ints.length c1, .slice A2 n.texts.length c2, .slice A3 n.kids.length c3]] w (RowsPost [⟨5, [65536], [str n.texts 0, ⟨#[115, 97, 110, 115]⟩], []⟩] w) := by
  have HN := Aside0.mk h
  have hu := Tryd.underlying26
  have HB := Aside0.mk (below_alloc (Below.refl w.heap.size w) (.cells #[.int .i64 n.kind, .slice A1 n.ints.length c1, .slice A2 n.texts.length c2, .slice A3 n.kids.length c3] 26))
  obtain ⟨ad, rfl, x0⟩ := at_str (Kd.C_below h.t HB.out) 0 hl
  rw [show ad.add 0 = ad from rfl] at x0
  have k2 := box_cell w _ rfl #[.int .i64 n.kind, .slice A1 n.ints.length c1, .slice (some ad) n.texts.length c2, .slice A3 n.kids.length c3] 26 2 _ rfl
  clear h
  go_enter Tryd.func79, Tryd.ntmps79
  go_wp2
  go_region_held3 (fun W => W.cell? ⟨w.heap.size, 2, none⟩ = some (.slice (some ad) n.texts.length c2) ∧ W.cell? ad = some (.string (str n.texts 0)))
    (first
      | (go_split_ands
         refine ⟨?_, ?_⟩
         all_goals first
           | with_reducible assumption
           | with_reducible exact pw_cell_below hB (by assumption)
           | with_reducible exact pw_cell_below (below_alloc (Below.refl _ _) _) (by assumption)
           | with_reducible exact pw_cell_below (below_drew (below_alloc (Below.refl _ _) _)) (by assumption)
           | (simp [*]; done)))
    (first
      | (go_at_call 75; refine (like_any 65536 1 _ (by omega) (by omega)).mono ?_; rintro e w1 ⟨B1, d1, rfl, hR1, hB1⟩; have hB := hB1))
  · have hBw := below_step (below_drew HB.out) hB1
    go_wp2
    go_ret
    exact RowsPost.one (n := ⟨5, [65536], [str n.texts 0, ⟨#[115, 97, 110, 115]⟩], []⟩) (kNode_mkM (Kd.R_below (Kd.R_lower hR1 (below_drew HB.out).size) (below_alloc (Below.refl _ _) _)) (R_strs w1 w.heap.size _ rfl [str n.texts 0, ⟨#[115, 97, 110, 115]⟩] hBw.size (by simp) rfl) (Kd.R_nil _ _ _ _ _)) (below_step hBw (below_alloc (Below.refl _ _) _)) (by simp)
  · have hB0 := below_step HB.out (below_alloc (Below.refl _ _) (.cells #[.string (str n.texts 0), .string ⟨#[115, 97, 110, 115]⟩] 9))
    have hBw := below_step (below_drew hB0) hB1
    have hR2 := Kd.R_below (Kd.R_drew (R_strs (w.alloc (.cells #[.int .i64 n.kind, .slice A1 n.ints.length c1, .slice (some ad) n.texts.length c2, .slice A3 n.kids.length c3] 26)) w.heap.size (w.heap.size + 1) (by simp) [str n.texts 0, ⟨#[115, 97, 110, 115]⟩] HB.out.size (by simp) rfl)) hB1
    go_wp2
    go_ret
    exact RowsPost.one (n := ⟨5, [65536], [str n.texts 0, ⟨#[115, 97, 110, 115]⟩], []⟩) (kNode_mkM (Kd.R_lower hR1 (below_drew hB0).size) hR2 (Kd.R_nil _ _ _ _ _)) hBw rfl
end Go.Proofs.YtglfebpgdghlfaaDoor.L
end
section
namespace Go.Proofs.YtglfebpgdghlfaaDoor.L
open Go.RowKit Go.ChangeShapes Go.WideShapes Go.Proofs.YtglfebpgdghlfaaDoorW.PrintWords Go.Proofs.YtglfebpgdghlfaaDoorW.PrintLast Go.Proofs.YtglfebpgdghlfaaDoorW.PrintMore
attribute [local go_sem] max2_int min2_int max_two min_two max_three min_three max_four min_four
theorem RowsPost.two {w W : World} {k0 k1 : Int} {l0 q0 l1 : List Int} {v6 v7 v13 : Value} {g : Nat} (h6 : (Kd.int .i64).R 2 W w.heap.size (fun _ => True) v6 l0) (h7 : (Kd.int .i64).R 3 W w.heap.size (fun _ => True) v7 q0) (h13 : (Kd.int .i64).R 2 W w.heap.size (fun _ => True) v13 l1)
    (hne : ∀ k, v6.ownBlock = some k → v13.ownBlock = some k → False) (hB : Below w.heap.size w W) (hg : W.heap.size = g) :
    RowsPost [⟨k0, l0, [], q0⟩, ⟨k1, l1, [], []⟩] w (.returned (.slice (some ⟨g, 0, none⟩) 2 2)) (W.alloc (.cells #[.int .i64 k0, v6, .slice none 0 0, v7, .int .i64 k1, v13, .slice none 0 0, .slice none 0 0] 26)) := by
  subst hg
  refine ⟨_, _, rfl, S_of_lits kNode W w.heap.size 26 [⟨k0, l0, [], q0⟩, ⟨k1, l1, [], []⟩] [.int .i64 k0, v6, .slice none 0 0, v7, .int .i64 k1, v13, .slice none 0 0, .slice none 0 0]
    (fun j k => (j = 0 ∧ (some k = v6.ownBlock ∨ some k = v7.ownBlock)) ∨ (j = 1 ∧ some k = v13.ownBlock)) (fun i j k h1 h2 => ?_) rfl (fun j x hj => ?_) hB.size (by simp), below_step hB (below_alloc (Below.refl _ _) _)⟩
  · have key : ∀ k, (some k = v6.ownBlock ∨ some k = v7.ownBlock) → some k = v13.ownBlock → False := fun k h1 h2 => by
      rcases h1 with h1 | h1
      · exact hne k h1.symm h2.symm
      · obtain ⟨c1, e1⟩ := Kd.R_typed h7 k h1.symm
        obtain ⟨c2, e2⟩ := Kd.R_typed h13 k h2.symm
        rw [e1] at e2
        injection e2 with e2
        injection e2 with _ e2
        exact absurd e2 (by decide)
    rcases h1 with ⟨rfl, h1⟩ | ⟨rfl, h1⟩
    · rcases h2 with ⟨rfl, h2⟩ | ⟨rfl, h2⟩
      · rfl
      · exact (key k h1 h2).elim
    · rcases h2 with ⟨rfl, h2⟩ | ⟨rfl, h2⟩
      · exact (key k h2 h1).elim
      · rfl
  · match j, hj with
    | 0, hj =>
      injection hj with hj
      subst hj
      exact kNode_mkM (Kd.R_mono (Kd.R_tight rfl h6) (fun k hk => .inl ⟨rfl, .inl hk⟩)) (Kd.R_nil _ _ _ _ _) (Kd.R_mono (Kd.R_tight rfl h7) (fun k hk => .inl ⟨rfl, .inr hk⟩))
    | 1, hj =>
      injection hj with hj
      subst hj
      exact kNode_mkM (Kd.R_mono (Kd.R_tight rfl h13) (fun k hk => .inr ⟨rfl, hk⟩)) (Kd.R_nil _ _ _ _ _) (Kd.R_nil _ _ _ _ _)
    | j + 2, hj => simp at hj
theorem clone_i64' (A : Option Addr) (c n : Nat) (l : List Int) (w : World) (h : (Kd.int .i64).C w A n l) (hl : n ≤ 8000000000000) : Calls Tryd.prog 74 #[.slice A n c] w (RowPost (Kd.int .i64) 2 l w) := by
  obtain rfl : l.length = n := h.1
  exact clone_i64 A c l w h hl
set_option maxRecDepth 100000 in
set_option maxHeartbeats 2000000 in
theorem up2_any (n : Node) (A1 : Option Addr) (c1 : Nat) (A2 : Option Addr) (c2 : Nat) (A3 : Option Addr) (c3 : Nat) (w : World) (h : NodeC w n A1 c1 A2 c2 A3 c3) (hl : n.ints.length = 4) :
    Calls Tryd.prog 73 #[.agg #[.int .i64 n.kind, .slice A1 n.ints.length c1, .slice A2 n.texts.length c2, .slice A3 n.kids.length c3]] w (RowsPost [⟨2, n.ints.take 3, [], [0]⟩, ⟨8, [rd n.ints 3, rd n.ints 3, rd n.ints 3], [], []⟩] w) := by
  have HN := Aside0.mk h
  have hu := Tryd.underlying26
  have HB := Aside0.mk (below_alloc (Below.refl w.heap.size w) (.cells #[.int .i64 n.kind, .slice A1 n.ints.length c1, .slice A2 n.texts.length c2, .slice A3 n.kids.length c3] 26))
  obtain ⟨ad, rfl, x3⟩ := at_nat (Kd.C_below h.i HB.out) 3 (by omega)
  have hr : rd n.ints ((3 : Nat) : Int) = rd n.ints 3 := rfl
  rw [hr] at x3
  have k1 := box_cell w _ rfl #[.int .i64 n.kind, .slice (some ad) n.ints.length c1, .slice A2 n.texts.length c2, .slice A3 n.kids.length c3] 26 1 _ rfl
  have HT := Aside0.mk (show (Kd.int .i64).C w (some ad) 3 (n.ints.take 3) from by have h0 := C_sub rfl h.i 0 3 (by omega); rw [List.drop_zero] at h0; exact h0)
  have E3 := Aside0.mk (show (n.ints.take 3).length = 3 from by simp [hl])
  have hcap : 4 ≤ c1 := by have := h.l1; omega
  have hcapI : (3 : Int) ≤ (c1 : Int) := by omega
  rw [hl] at k1 x3 HB ⊢
  replace x3 : (w.alloc (.cells #[.int .i64 n.kind, .slice (some ad) 4 c1, .slice A2 n.texts.length c2, .slice A3 n.kids.length c3] 26)).cell? ⟨ad.block, ad.off + 3, none⟩ = some (.int .i64 (rd n.ints 3)) := x3
  clear h hr
  go_enter Tryd.func73, Tryd.ntmps73
  go_wp2
  go_region_held3 (fun W => W.cell? ⟨w.heap.size, 1, none⟩ = some (.slice (some ad) 4 c1) ∧ W.cell? ⟨ad.block, ad.off + 3, none⟩ = some (.int .i64 (rd n.ints 3)))
    (first
      | (go_split_ands
         refine ⟨?_, ?_⟩
         all_goals first
           | with_reducible assumption
           | with_reducible exact pw_cell_below hB (by assumption)
           | with_reducible exact pw_cell_below (below_alloc (Below.refl _ _) _) (by assumption)
           | with_reducible exact pw_cell_below (below_drew (below_alloc (Below.refl _ _) _)) (by assumption)
           | (simp [*]; done)))
    (first
      | (go_at_call 74; first
          | (refine (clone_i64' (some ad) c1 3 (n.ints.take 3) _ (Kd.C_below HT.out (below_drew HB.out)) (by omega)).mono ?_; rintro e w1 ⟨B1, d1, rfl, hR1, hB1⟩; have hB := hB1)
          | (refine (clone_i64' (some ad) c1 3 (n.ints.take 3) _ (Kd.C_below HT.out (below_drew (below_step HB.out (below_alloc (Below.refl _ _) _)))) (by omega)).mono ?_; rintro e w1 ⟨B1, d1, rfl, hR1, hB1⟩; have hB := hB1))
      | (go_at_call 75; refine (like_any (rd n.ints 3) 3 _ (by omega) (by omega)).mono ?_; rintro e w2 ⟨B2, d2, rfl, hR2, hB2⟩; have hB := hB2))
  · rw [E3.out] at hR1
    have hBw1 := below_step (below_drew HB.out) hB1
    have hBY := below_step hBw1 (below_alloc (Below.refl _ _) (.cells #[.int .i64 0] 3))
    have hlt := fun k (h1 : (Value.slice B1 3 d1).ownBlock = some k) => Kd.R_lt hR1 k h1
    have hge := fun k (h1 : (Value.slice B2 3 d2).ownBlock = some k) => Kd.R_base hR2 k h1
    have hsz : (w1.alloc (.cells #[.int .i64 0] 3)).heap.size = w1.heap.size + 1 := by simp
    go_wp2
    go_ret
    exact RowsPost.two (Kd.R_below (Kd.R_alloc (Kd.R_lower hR1 (below_drew HB.out).size) _) hB2) (Kd.R_below (R_nums 3 w1 w.heap.size _ rfl [0] hBw1.size (by simp) rfl) hB2) (Kd.R_lower hR2 hBY.size) (fun k h1 h2 => by have := hlt k h1; have := hge k h2; omega) (below_step hBY hB2) rfl
  · rw [E3.out] at hR1
    have hBw1 := below_step (below_drew HB.out) hB1
    have hBw2 := below_step hBw1 hB2
    have hlt := fun k (h1 : (Value.slice B1 3 d1).ownBlock = some k) => Kd.R_lt hR1 k h1
    have hge := fun k (h1 : (Value.slice B2 3 d2).ownBlock = some k) => Kd.R_base hR2 k h1
    go_wp2
    go_ret
    exact RowsPost.two (Kd.R_alloc (Kd.R_below (Kd.R_lower hR1 (below_drew HB.out).size) hB2) _) (R_nums 3 w2 w.heap.size _ rfl [0] hBw2.size (by simp) rfl) (Kd.R_alloc (Kd.R_lower hR2 hBw1.size) _) (fun k h1 h2 => by have := hlt k h1; have := hge k h2; omega) (below_step hBw2 (below_alloc (Below.refl _ _) _)) (by simp)
  all_goals
    rw [E3.out] at hR1
    have hB0 := below_drew (below_step HB.out (below_alloc (Below.refl _ _) (.cells #[.int .i64 0] 3)))
    have hBw1 := below_step hB0 hB1
    have hBw2 := below_step hBw1 hB2
    have hlt := fun k (h1 : (Value.slice B1 3 d1).ownBlock = some k) => Kd.R_lt hR1 k h1
    have hge := fun k (h1 : (Value.slice B2 3 d2).ownBlock = some k) => Kd.R_base hR2 k h1
    have h7 := Kd.R_below (Kd.R_below (Kd.R_drew (R_nums 3 (w.alloc (.cells #[.int .i64 n.kind, .slice (some ad) 4 c1, .slice A2 n.texts.length c2, .slice A3 n.kids.length c3] 26)) w.heap.size (w.heap.size + 1) (by simp) [0] HB.out.size (by simp) rfl)) hB1) hB2
    go_wp2
    go_ret
    exact RowsPost.two (Kd.R_below (Kd.R_lower hR1 hB0.size) hB2) h7 (Kd.R_lower hR2 hBw1.size) (fun k h1 h2 => by have := hlt k h1; have := hge k h2; omega) hBw2 rfl
end Go.Proofs.YtglfebpgdghlfaaDoor.L
end
section
namespace Go.Proofs.YtglfebpgdghlfaaDoor.L
open Go.RowKit Go.ChangeShapes Go.WideShapes Go.Proofs.YtglfebpgdghlfaaDoorW.PrintWords Go.Proofs.YtglfebpgdghlfaaDoorW.PrintLast Go.Proofs.YtglfebpgdghlfaaDoorW.PrintMore
attribute [local go_sem] max2_int min2_int max_two min_two max_three min_three max_four min_four
def inC (c n : Int) : Bool :=
  if c = 1 then true else if c = 2 then decide (-140737488355328 ≤ n) && decide (n ≤ 140737488355328) else if c = 3 then decide (0 ≤ n) && decide (n ≤ 140737488355328)
  else if c = 4 then decide (0 ≤ n) && decide (n ≤ 255) else if c = 5 then (n == 0) || (n == 1) else false
theorem inC_2 (n : Int) : inC 2 n = (decide (-140737488355328 ≤ n) && decide (n ≤ 140737488355328)) := rfl
theorem inC_3 (n : Int) : inC 3 n = (decide (0 ≤ n) && decide (n ≤ 140737488355328)) := rfl
theorem inC_4 (n : Int) : inC 4 n = (decide (0 ≤ n) && decide (n ≤ 255)) := rfl
theorem inC_5 (n : Int) : inC 5 n = ((n == 0) || (n == 1)) := rfl
theorem inC_no {c n : Int} (c1 : ¬ c = 1) (c2 : ¬ c = 2) (c3 : ¬ c = 3) (c4 : ¬ c = 4) (c5 : ¬ c = 5) : inC c n = false := by unfold inC; rw [if_neg c1, if_neg c2, if_neg c3, if_neg c4, if_neg c5]
set_option maxHeartbeats 1000000 in
theorem in_any (c n : Int) (w : World) : Calls Tryd.prog 103 #[.int .i64 c, .int .i64 n] w fun e w' => e = .returned (.bool (inC c n)) ∧ Drawn0 w w' := by
  by_cases c1 : c = 1
  · subst c1
    go_enter Tryd.func103, Tryd.ntmps103
    go_wp2
    go_ret
    exact ⟨rfl, Drawn0.refl _⟩
  by_cases c2 : c = 2
  · subst c2
    by_cases h1 : -140737488355328 ≤ n <;> by_cases h2 : n ≤ 140737488355328
    all_goals
      have E := Aside0.mk (inC_2 n)
      go_enter Tryd.func103, Tryd.ntmps103
      go_wp2
      go_ret
      exact ⟨ret_bool (by rw [E.out]; simp [h1, h2]), by repeat (first | exact Drawn0.refl _ | apply Drawn0.step)⟩
  by_cases c3 : c = 3
  · subst c3
    by_cases h1 : 0 ≤ n <;> by_cases h2 : n ≤ 140737488355328
    all_goals
      have E := Aside0.mk (inC_3 n)
      go_enter Tryd.func103, Tryd.ntmps103
      go_wp2
      go_ret
      exact ⟨ret_bool (by rw [E.out]; simp [h1, h2]), by repeat (first | exact Drawn0.refl _ | apply Drawn0.step)⟩
  by_cases c4 : c = 4
  · subst c4
    by_cases h1 : 0 ≤ n <;> by_cases h2 : n ≤ 255
    all_goals
      have E := Aside0.mk (inC_4 n)
      go_enter Tryd.func103, Tryd.ntmps103
      go_wp2
      go_ret
      exact ⟨ret_bool (by rw [E.out]; simp [h1, h2]), by repeat (first | exact Drawn0.refl _ | apply Drawn0.step)⟩
  by_cases c5 : c = 5
  · subst c5
    have E := Aside0.mk (inC_5 n)
    by_cases h1 : n = 0
    · subst h1
      go_enter Tryd.func103, Tryd.ntmps103
      go_wp2
      go_ret
      exact ⟨rfl, by repeat (first | exact Drawn0.refl _ | apply Drawn0.step)⟩
    · have h0 : (n == 0) = false := by simpa using h1
      by_cases h2 : n = 1
      · subst h2
        go_enter Tryd.func103, Tryd.ntmps103
        go_wp2
        go_ret
        exact ⟨rfl, by repeat (first | exact Drawn0.refl _ | apply Drawn0.step)⟩
      · have h3 : (n == 1) = false := by simpa using h2
        go_enter Tryd.func103, Tryd.ntmps103
        go_wp2
        go_ret
        exact ⟨ret_bool (by rw [E.out]; simp [h1, h2]), by repeat (first | exact Drawn0.refl _ | apply Drawn0.step)⟩
  · have E := Aside0.mk (inC_no (n := n) c1 c2 c3 c4 c5)
    go_enter Tryd.func103, Tryd.ntmps103
    go_wp2
    go_ret
    exact ⟨ret_bool E.out.symm, by repeat (first | exact Drawn0.refl _ | apply Drawn0.step)⟩
end Go.Proofs.YtglfebpgdghlfaaDoor.L
end
section
namespace Go.Proofs.YtglfebpgdghlfaaDoor.L
open Go.RowKit Go.ChangeShapes Go.WideShapes Go.Proofs.YtglfebpgdghlfaaDoorW.PrintWords Go.Proofs.YtglfebpgdghlfaaDoorW.PrintLast Go.Proofs.YtglfebpgdghlfaaDoorW.PrintMore
attribute [local go_sem] max2_int min2_int max_two min_two max_three min_three max_four min_four
def numsOk (l cl : List Int) : Bool := decide (l.length = cl.length ∧ ∀ j, j < l.length → inC (rd cl j) (rd l j) = true)
theorem numsOk_len {l cl : List Int} (h : ¬ l.length = cl.length) : numsOk l cl = false := decide_eq_false (fun h' => h h'.1)
theorem numsOk_bad {l cl : List Int} {j : Nat} (hj : j < l.length) (h : inC (rd cl j) (rd l j) = false) : numsOk l cl = false := decide_eq_false (fun h' => by have := h'.2 j hj; rw [h] at this; cases this)
set_option maxHeartbeats 1000000 in
theorem numbers_any (A0 : Option Addr) (c0 : Nat) (l : List Int) (A1 : Option Addr) (c1 : Nat) (cl : List Int) (w : World) (h0 : (Kd.int .i64).C w A0 l.length l) (h1 : (Kd.int .i64).C w A1 cl.length cl) :
    Calls Tryd.prog 68 #[.slice A0 l.length c0, .slice A1 cl.length c1] w fun e w' => e = .returned (.bool (numsOk l cl)) ∧ Drawn0 w w' := by
  have HR0 := Aside0.mk h0
  have HR1 := Aside0.mk h1
  have b0 := h0.2.1
  have b1 := h1.2.1
  clear h0 h1
  by_cases he : l.length = cl.length
  · have hb : ((l.length : Int) != (cl.length : Int)) = false := by simp [he]
    have HE0 := Aside0.mk he
    have hle : l.length ≤ cl.length := by omega
    clear he
    go_enter Tryd.func68, Tryd.ntmps68
    go_wp2
    go_loopw [5, 6, 14] (fun _ _ v14 W => ∃ k : Nat, k ≤ l.length ∧ v14 = .int .i64 k ∧ Aside0 (∀ j, j < k → inC (rd cl j) (rd l j) = true) ∧ Drawn0 w W) (fun _ _ v14 _ => l.length - (intOf v14).toNat)
    case atStart => exact ⟨0, by omega, rfl, ⟨fun j hj => by omega⟩, Drawn0.refl _⟩
    case round =>
      obtain ⟨k, hk, rfl, HP, ⟨m, rfl⟩⟩ := hrel
      by_cases hlt : k < l.length
      · obtain ⟨ad0, rfl, hx0⟩ := at_nat HR0.out k (by omega)
        obtain ⟨ad1, rfl, hx1⟩ := at_nat HR1.out k (by omega)
        have hlt1 : k < cl.length := by omega
        by_cases hi : inC (rd cl k) (rd l k) = true
        · have HI := Aside0.mk hi
          clear hi
          go_wp2_with fail
          refine (in_any (rd cl k) (rd l k) _).mono ?_
          rintro e w' ⟨rfl, ⟨m', rfl⟩⟩
          rw [HI.out]
          go_wp2
          go_roundw
          case rel => exact ⟨k + 1, by omega, by go_num, ⟨ext_lt HP.out HI.out⟩, by repeat (first | exact Drawn0.refl _ | apply Drawn0.step)⟩
          case measure => simp [intOf]; omega
        · have HI := Aside0.mk (Bool.eq_false_iff.2 hi)
          have HE := Aside0.mk (numsOk_bad hlt HI.out)
          clear hi
          go_wp2_with fail
          refine (in_any (rd cl k) (rd l k) _).mono ?_
          rintro e w' ⟨rfl, ⟨m', rfl⟩⟩
          rw [HI.out]
          go_wp2
          go_ret
          exact ⟨ret_bool HE.out.symm, by repeat (first | exact Drawn0.refl _ | apply Drawn0.step)⟩
      · have HE : Aside0 (numsOk l cl = true) := ⟨decide_eq_true ⟨HE0.out, fun j hj => HP.out j (by omega)⟩⟩
        go_wp2
        go_ret
        exact ⟨ret_bool HE.out.symm, by repeat (first | exact Drawn0.refl _ | apply Drawn0.step)⟩
  · have HE := Aside0.mk (numsOk_len he)
    go_enter Tryd.func68, Tryd.ntmps68
    go_wp2
    go_ret
    exact ⟨ret_bool HE.out.symm, by repeat (first | exact Drawn0.refl _ | apply Drawn0.step)⟩
end Go.Proofs.YtglfebpgdghlfaaDoor.L
end
section
namespace Go.Proofs.YtglfebpgdghlfaaDoor.L
open Go.RowKit Go.ChangeShapes Go.WideShapes Go.Proofs.YtglfebpgdghlfaaDoorW.PrintWords Go.Proofs.YtglfebpgdghlfaaDoorW.PrintLast Go.Proofs.YtglfebpgdghlfaaDoorW.PrintMore
attribute [local go_sem] max2_int min2_int max_two min_two max_three min_three max_four min_four
def Tabs (w : World) : Prop := Lib.Utf8Tabs 0 1 w
theorem Tabs.below {w w' : World} (h : Tabs w) (hb : Below w.heap.size w w') : Tabs w' := Utf8Tabs_below h hb
def utfFrom (s : ByteArray) : Nat → Nat → Int
  | 0, _ => -1
  | f + 1, pos => if pos < s.size then (if Utf8.decode s pos = (65533, 1) then (pos : Int) else utfFrom s f (pos + (Utf8.decode s pos).2)) else -1
def utfFirst (s : ByteArray) : Int := utfFrom s s.size 0
def utfOk (s : ByteArray) : Bool := decide (utfFirst s < 0)
theorem decode_bound (s : ByteArray) (pos : Nat) : 1 ≤ (Utf8.decode s pos).2 ∧ (Utf8.decode s pos).2 ≤ 4 ∧ (pos < s.size → pos + (Utf8.decode s pos).2 ≤ s.size) := by
  simp only [Utf8.decode]
  repeat' split
  all_goals simp_all
  all_goals omega
theorem decode_bad (s : ByteArray) (pos : Nat) : (Utf8.decode s pos).1 = 65533 → (Utf8.decode s pos).2 ≤ 1 → Utf8.decode s pos = (65533, 1) := by
  intro h1 h2
  have := (decode_bound s pos).1
  exact Prod.ext h1 (by show (Utf8.decode s pos).2 = 1; omega)
theorem utfFrom_end {s : ByteArray} {pos : Nat} (h : ¬ pos < s.size) : ∀ f, utfFrom s f pos = -1
  | 0 => rfl
  | f + 1 => by unfold utfFrom; rw [if_neg h]
def FirstRel (s : ByteArray) (w : World) (p f : Nat) (W : World) : Prop := W.heap[w.heap.size]? = some (.stringIter s p) ∧ s.size ≤ p + f ∧ utfFrom s f p = utfFirst s ∧ Below w.heap.size w W
theorem FirstRel.next {s : ByteArray} {w W : World} {p f : Nat} (h : FirstRel s w p f W) (hp : p < s.size) (hn : ¬ Utf8.decode s p = (65533, 1)) : FirstRel s w (p + (Utf8.decode s p).2) (f - 1) (W.iterAt w.heap.size s (p + (Utf8.decode s p).2)) := by
  obtain ⟨h1, h2, h3, h4⟩ := h
  obtain ⟨b1, b2, b3⟩ := decode_bound s p
  refine ⟨Lib.iterAt_heap _ _ _ _ _ h1, by omega, ?_, ?_⟩
  · obtain ⟨f, rfl⟩ : ∃ g, f = g + 1 := ⟨f - 1, by omega⟩
    rw [← h3]
    conv => rhs; unfold utfFrom
    rw [if_pos hp, if_neg hn]; rfl
  · exact h4.trans ⟨rfl, rfl, rfl, by simp [World.iterAt], fun k hk => by
      unfold World.iterAt
      simp only [Array.getElem?_setIfInBounds]
      rw [if_neg (by omega)]⟩
theorem FirstRel.iter {s : ByteArray} {w W : World} {p f : Nat} (h : FirstRel s w p f W) (q : Nat) : Below w.heap.size w (W.iterAt w.heap.size s q) :=
  h.2.2.2.trans ⟨rfl, rfl, rfl, by simp [World.iterAt], fun k hk => by
    unfold World.iterAt
    simp only [Array.getElem?_setIfInBounds]
    rw [if_neg (by omega)]⟩
theorem FirstRel.pos {s : ByteArray} {w W : World} {p f : Nat} (h : FirstRel s w p f W) : W.iterPos w.heap.size = p := by unfold World.iterPos; rw [h.1]
theorem FirstRel.bad {s : ByteArray} {w W : World} {p f : Nat} (h : FirstRel s w p f W) (hp : p < s.size) (hd : Utf8.decode s p = (65533, 1)) : utfFirst s = (p : Int) := by
  obtain ⟨f, rfl⟩ : ∃ g, f = g + 1 := ⟨f - 1, by have := h.2.1; omega⟩
  rw [← h.2.2.1]
  unfold utfFrom
  rw [if_pos hp, if_pos hd]
theorem FirstRel.end {s : ByteArray} {w W : World} {p f : Nat} (h : FirstRel s w p f W) (hp : ¬ p < s.size) : utfFirst s = -1 := by rw [← h.2.2.1, utfFrom_end hp]
theorem FirstRel.below {s : ByteArray} {w W W1 : World} {p f : Nat} (h : FirstRel s w p f W) (hb : Below W.heap.size W W1) : FirstRel s w p f W1 :=
  ⟨(hb.block _ (blk_lt h.1)).trans h.1, h.2.1, h.2.2.1, below_step h.2.2.2 hb⟩
set_option maxRecDepth 100000 in
set_option maxHeartbeats 1000000 in
theorem first_any (s : ByteArray) (w : World) (hs : s.size ≤ 1000000) (hT : Tabs w) : Calls Tryd.prog 71 #[.string s] w fun e w' => e = .returned (.int .i64 (utfFirst s)) ∧ Below w.heap.size w w' := by
  have HT := Aside0.mk hT
  have HB := Aside0.mk (Below.refl w.heap.size w)
  have HI := Aside0.mk (show FirstRel s w 0 s.size (w.iter s 0) from ⟨World.iter_heap .., by omega, rfl, below_alloc HB.out _⟩)
  clear hT
  go_enter Tryd.func71, Tryd.ntmps71
  go_wp2
  go_loopw [3] (fun _ W => ∃ p f, Aside0 (FirstRel s w p f W)) (fun _ W => s.size - W.iterPos w.heap.size)
  case atStart => exact ⟨0, _, HI⟩
  case round =>
    obtain ⟨p, f, HR⟩ := hrel
    have hpos : wr.iterPos w.heap.size = p := by unfold World.iterPos; rw [HR.out.1]
    by_cases hp : p < s.size
    · have hnx := Lib.run_next_any_at (P := Tryd.prog) wr w.heap.size s p 0 HR.out.1 hp
      have hb := decode_bound s p
      have HN := Aside0.mk (fun hn => FirstRel.next HR.out hp hn)
      by_cases hr : (Utf8.decode s p).1 = 65533
      · have hr1 : (((Utf8.decode s p).1 : Int) != 65533) = false := by simp [hr]
        have HD : Aside0 (Lib.decodeGo (s.extract p s.size) = Utf8.decode s p) := ⟨by
          unfold Lib.decodeGo
          rw [if_neg (by rw [ByteArray.size_extract]; omega), Extern.FmtText.decode_extract]⟩
        have HBd := Aside0.mk (decode_bad s p hr)
        clear hr
        go_wp2_with fail
        refine (Tryd.utf8_DecodeRuneInString _ _ ?_).mono ?_
        · exact HT.out.below (HR.out.iter _)
        rintro e W1 ⟨rfl, hB⟩
        have HB1 := Aside0.mk hB
        clear hB
        rw [HD.out]
        by_cases hz : (Utf8.decode s p).2 ≤ 1
        · have hz1 : decide (((Utf8.decode s p).2 : Int) ≤ 1) = true := decide_eq_true (by omega)
          go_wp2
          go_ret
          exact ⟨ret_int (HR.out.bad hp (HBd.out hz)).symm, below_then (HR.out.iter _) (HR.out.iter _).size HB1.out⟩
        · have hz1 : decide (((Utf8.decode s p).2 : Int) ≤ 1) = false := decide_eq_false (by omega)
          have HF := Aside0.mk ((HN.out (fun h => hz (by rw [h]; exact Nat.le_refl 1))).below HB1.out)
          go_wp2
          go_roundw
          case rel => exact ⟨_, _, HF⟩
          case measure => rw [HF.out.pos, hpos]; omega
      · have hr1 : (((Utf8.decode s p).1 : Int) != 65533) = true := by simp; omega
        have HF := Aside0.mk (HN.out (fun h => hr (by rw [h])))
        clear hr
        go_wp2
        go_roundw
        case rel => exact ⟨_, _, HF⟩
        case measure => rw [HF.out.pos, hpos]; omega
    · have hnx := Lib.run_next_end_at (P := Tryd.prog) wr w.heap.size s p 0 HR.out.1 hp
      go_wp2
      go_ret
      exact ⟨ret_int (HR.out.end hp).symm, HR.out.2.2.2⟩
end Go.Proofs.YtglfebpgdghlfaaDoor.L
end
section
namespace Go.Proofs.YtglfebpgdghlfaaDoor.L
open Go.RowKit Go.ChangeShapes Go.WideShapes Go.Proofs.YtglfebpgdghlfaaDoorW.PrintWords Go.Proofs.YtglfebpgdghlfaaDoorW.PrintLast Go.Proofs.YtglfebpgdghlfaaDoorW.PrintMore
attribute [local go_sem] max2_int min2_int max_two min_two max_three min_three max_four min_four
structure Spec where
  ints : List Int
  texts : Int
  least : Int
  most : Int
def specz : Spec := ⟨[], 0, 0, 0⟩
structure SpecC (w : World) (s : Spec) (A : Option Addr) (c : Nat) : Prop where
  l : s.ints.length ≤ c
  i : (Kd.int .i64).C w A s.ints.length s.ints
theorem SpecC.below {w w' : World} {s : Spec} {A : Option Addr} {c : Nat} (h : SpecC w s A c) (hb : Below w.heap.size w w') : SpecC w' s A c := ⟨h.l, Kd.C_below h.i hb⟩
def sp (xs : List Spec) (i : Nat) : Spec := xs.getD i specz
def kSpecG (G : Option Addr → Prop) : Kd Spec where
  sz := 4
  E := []
  K := fun w x cs => ∃ A c, cs = [.slice A x.ints.length c, .int .i64 x.texts, .int .i64 x.least, .int .i64 x.most] ∧ SpecC w x A c ∧ G A
  M := fun _ _ _ _ _ => False
  K_len := by
    rintro w x cs ⟨A, c, rfl, _⟩
    rfl
  K_one := by
    rintro w x cs ⟨A, c, rfl, _⟩ u hu
    simp only [List.mem_cons, List.mem_nil_iff, or_false] at hu
    rcases hu with rfl | rfl | rfl | rfl <;> rfl
  K_below := by
    rintro w w1 x cs hb ⟨A, c, rfl, h, hG⟩
    exact ⟨A, c, rfl, h.below hb, hG⟩
  K_of_M := fun h => h.elim
  M_mono := fun _ h => h
  M_bound := fun h => h.elim
  M_move := fun _ h => h
  M_lower := fun _ h => h
theorem kSpecG_mk {G : Option Addr → Prop} {w : World} {x : Spec} {A : Option Addr} {c n : Nat} (hn : n = x.ints.length) (hc : n ≤ c) (h : (Kd.int .i64).C w A n x.ints) (hG : G A) {t l m : Int} (ht : t = x.texts) (hl : l = x.least) (hm : m = x.most) : (kSpecG G).K w x [.slice A n c, .int .i64 t, .int .i64 l, .int .i64 m] := by
  subst hn ht hl hm
  exact ⟨A, c, rfl, ⟨hc, h⟩, hG⟩
theorem at_specG {G : Option Addr → Prop} {w : World} {A : Option Addr} {n : Nat} {xs : List Spec} (h : (kSpecG G).C w A n xs) (i : Nat) (h1 : i < n) :
    ∃ ad A1 c1, A = some ad ∧ w.cell? (ad.add (i * 4)) = some (.slice A1 (sp xs i).ints.length c1) ∧ w.cell? ⟨(ad.add (i * 4)).block, (ad.add (i * 4)).off + 1, none⟩ = some (.int .i64 (sp xs i).texts) ∧ w.cell? ⟨(ad.add (i * 4)).block, (ad.add (i * 4)).off + 2, none⟩ = some (.int .i64 (sp xs i).least) ∧ w.cell? ⟨(ad.add (i * 4)).block, (ad.add (i * 4)).off + 3, none⟩ = some (.int .i64 (sp xs i).most) ∧ SpecC w (sp xs i) A1 c1 ∧ G A1 := by
  obtain ⟨ad, c, e, _, hK, hc0⟩ := Kd.C_get h specz (i : Int) (by omega) (by omega)
  have hc : ∀ j u, c[j]? = some u → w.cell? (ad.add (i * 4 + j)) = some u := fun j u h => by simpa [show (kSpecG G).sz = 4 from rfl] using hc0 j u h
  have hK' : (kSpecG G).K w (sp xs i) c := by simpa [sp] using hK
  obtain ⟨A1, c1, rfl, hN⟩ := hK'
  refine ⟨ad, A1, c1, e, hc 0 _ rfl, ?_, ?_, ?_, hN⟩
  · rw [← add_field _ _ 1 (by omega)]; exact hc 1 _ rfl
  · rw [← add_field _ _ 2 (by omega)]; exact hc 2 _ rfl
  · rw [← add_field _ _ 3 (by omega)]; exact hc 3 _ rfl
def SpecPost (G : Option Addr → Prop) (r : Option Spec) (w : World) (e : Ending) (w' : World) : Prop :=
  ∃ A c, e = .returned (.tuple #[.agg #[.slice A (r.getD specz).ints.length c, .int .i64 (r.getD specz).texts, .int .i64 (r.getD specz).least, .int .i64 (r.getD specz).most], .bool r.isSome]) ∧ SpecC w' (r.getD specz) A c ∧ G A ∧ Below w.heap.size w w'
def findS (l : List Spec) (k : Int) : Option Spec := if k < 1 ∨ l.length ≤ k then none else some (sp l k.toNat)
set_option maxRecDepth 100000 in
set_option maxHeartbeats 1000000 in
theorem find_any (G : Option Addr → Prop) (hG : G none) (A : Option Addr) (c : Nat) (l : List Spec) (k : Int) (w : World) (h : (kSpecG G).C w A l.length l) (hl : l.length ≤ 100) :
    Calls Tryd.prog 66 #[.slice A l.length c, .int .i64 k] w (SpecPost G (findS l k) w) := by
  have HR := Aside0.mk h
  have HB := Aside0.mk (Below.refl w.heap.size w)
  clear h
  have hu := Tryd.underlying66
  by_cases h1 : k < 1
  · have HE : Aside0 (findS l k = none) := ⟨by unfold findS; rw [if_pos (.inl h1)]⟩
    go_enter Tryd.func66, Tryd.ntmps66
    go_wp2
    rw [HE.out]
    exact bodyPost_ret (v := .tuple #[.agg #[.slice none 0 0, .int .i64 0, .int .i64 0, .int .i64 0], .bool false]) (by simp [results, Tryd.results66, go_sem]) rfl ⟨none, 0, rfl, ⟨Nat.le_refl 0, C_nil _ _⟩, hG, by repeat (first | with_reducible exact HB.out | with_reducible apply below_alloc | with_reducible apply pw_below_drewN | with_reducible apply below_drew1 | (with_reducible refine below_set ?_ (by first | omega | (simp; omega))))⟩
  by_cases h2 : l.length ≤ k
  · have HE : Aside0 (findS l k = none) := ⟨by unfold findS; rw [if_pos (.inr h2)]⟩
    go_enter Tryd.func66, Tryd.ntmps66
    go_wp2
    rw [HE.out]
    exact bodyPost_ret (v := .tuple #[.agg #[.slice none 0 0, .int .i64 0, .int .i64 0, .int .i64 0], .bool false]) (by simp [results, Tryd.results66, go_sem]) rfl ⟨none, 0, rfl, ⟨Nat.le_refl 0, C_nil _ _⟩, hG, by repeat (first | with_reducible exact HB.out | with_reducible apply below_alloc | with_reducible apply pw_below_drewN | with_reducible apply below_drew1 | (with_reducible refine below_set ?_ (by first | omega | (simp; omega))))⟩
  · obtain ⟨j, rfl⟩ : ∃ j : Nat, k = (j : Int) := ⟨k.toNat, by omega⟩
    have HE : Aside0 (findS l (j : Int) = some (sp l j)) := ⟨by unfold findS; rw [if_neg (by omega), Int.toNat_natCast]⟩
    have b1 : j < l.length := by omega
    obtain ⟨ad, A1, c1, rfl, x0, x1, x2, x3, hS, hGA⟩ := at_specG HR.out j (by omega)
    have hb0 := below_alloc (Below.refl w.heap.size w) (.cells #[.slice none 0 0, .int .i64 0, .int .i64 0, .int .i64 0] 66)
    replace x0 := pw_cell_below hb0 x0
    replace x1 := pw_cell_below hb0 x1
    replace x2 := pw_cell_below hb0 x2
    replace x3 := pw_cell_below hb0 x3
    clear hb0
    have HS := Aside0.mk hS
    clear hS
    go_enter Tryd.func66, Tryd.ntmps66
    go_wp2
    rw [HE.out]
    exact bodyPost_ret (v := .tuple #[.agg #[.slice A1 (sp l j).ints.length c1, .int .i64 (sp l j).texts, .int .i64 (sp l j).least, .int .i64 (sp l j).most], .bool true]) (by simp [results, Tryd.results66, go_sem]) rfl ⟨_, _, rfl, HS.out.below (by repeat (first | with_reducible exact HB.out | with_reducible apply below_alloc | with_reducible apply pw_below_drewN | with_reducible apply below_drew1 | (with_reducible refine below_set ?_ (by first | omega | (simp; omega))))), hGA, by repeat (first | with_reducible exact HB.out | with_reducible apply below_alloc | with_reducible apply pw_below_drewN | with_reducible apply below_drew1 | (with_reducible refine below_set ?_ (by first | omega | (simp; omega))))⟩
end Go.Proofs.YtglfebpgdghlfaaDoor.L
end
section
namespace Go.Proofs.YtglfebpgdghlfaaDoor.L
open Go.RowKit Go.ChangeShapes Go.WideShapes Go.Proofs.YtglfebpgdghlfaaDoorW.PrintWords Go.Proofs.YtglfebpgdghlfaaDoorW.PrintLast Go.Proofs.YtglfebpgdghlfaaDoorW.PrintMore
attribute [local go_sem] max2_int min2_int max_two min_two max_three min_three max_four min_four
def textsOk (l : List ByteArray) : Bool := decide (∀ j, j < l.length → utfOk (str l j) = true)
theorem textsOk_bad {l : List ByteArray} {j : Nat} (hj : j < l.length) (h : utfOk (str l j) = false) : textsOk l = false := decide_eq_false (fun h' => by have := h' j hj; rw [h] at this; cases this)
theorem ok70 (s : ByteArray) : decide ((0 : Int) ≤ utfFirst s) = !utfOk s := by
  unfold utfOk
  by_cases h : utfFirst s < 0
  · rw [decide_eq_false (by omega), decide_eq_true h]; rfl
  · rw [decide_eq_true (by omega), decide_eq_false h]; rfl
set_option maxRecDepth 100000 in
set_option maxHeartbeats 1000000 in
theorem bad_any (s : ByteArray) (w : World) (hs : s.size ≤ 1000000) (hT : Tabs w) : Calls Tryd.prog 70 #[.string s] w fun e w' => e = .returned (.bool (!utfOk s)) ∧ Below w.heap.size w w' := by
  have HT := Aside0.mk hT
  have HE := Aside0.mk (ok70 s)
  clear hT
  go_enter Tryd.func70, Tryd.ntmps70
  go_wp2_with fail
  refine (first_any s _ hs HT.out).mono ?_
  rintro e w' ⟨rfl, hB⟩
  have HB := Aside0.mk hB
  clear hB
  go_wp2
  go_ret
  exact ⟨ret_bool HE.out, HB.out⟩
def IdxPost (l : List ByteArray) (w : World) (e : Ending) (w' : World) : Prop := ∃ i : Int, e = .returned (.int .i64 i) ∧ decide (0 ≤ i) = !textsOk l ∧ Below w.heap.size w w'
set_option maxRecDepth 100000 in
set_option maxHeartbeats 1000000 in
theorem badIdx_any (A : Option Addr) (c : Nat) (l : List ByteArray) (w : World) (h : Kd.string.C w A l.length l) (hs : ∀ j, j < l.length → (str l j).size ≤ 1000000) (hT : Tabs w) :
    Calls Tryd.prog 104 #[.slice A l.length c, .func (.func 70) #[] #[]] w (IdxPost l w) := by
  have HR := Aside0.mk h
  have HT := Aside0.mk hT
  have HS := Aside0.mk hs
  have HB := Aside0.mk (Below.refl w.heap.size w)
  have b0 := h.2.1
  clear h hT hs
  go_enter Tryd.func104, Tryd.ntmps104
  go_wp2
  go_loopw [5, 8] (fun _ v8 W => ∃ k : Nat, k ≤ l.length ∧ v8 = .int .i64 k ∧ Aside0 (∀ j, j < k → utfOk (str l j) = true) ∧ Aside0 (Below w.heap.size w W)) (fun _ v8 _ => l.length - (intOf v8).toNat)
  case atStart => exact ⟨0, by omega, rfl, ⟨fun j hj => by omega⟩, HB⟩
  case round =>
    obtain ⟨k, hk, rfl, HP, HB1⟩ := hrel
    by_cases hlt : k < l.length
    · obtain ⟨ad0, rfl, hx0⟩ := at_str (Kd.C_below HR.out HB1.out) k (by omega)
      go_wp2_with fail
      refine (bad_any (str l k) _ (HS.out k hlt) (HT.out.below HB1.out)).mono ?_
      rintro e w' ⟨rfl, hB⟩
      have HB2 := Aside0.mk (below_step HB1.out hB)
      clear hB
      by_cases hi : utfOk (str l k) = true
      · have HI := Aside0.mk hi
        clear hi
        rw [HI.out]
        go_wp2
        go_roundw
        case rel => exact ⟨k + 1, by omega, by go_num, ⟨ext_lt HP.out HI.out⟩, HB2⟩
        case measure => simp [intOf]; omega
      · have HI := Aside0.mk (Bool.eq_false_iff.2 hi)
        clear hi
        rw [HI.out]
        go_wp2
        go_ret
        exact ⟨k, rfl, by rw [textsOk_bad hlt HI.out]; exact decide_eq_true (by omega), HB2.out⟩
    · have HE : Aside0 (textsOk l = true) := ⟨decide_eq_true (fun j hj => HP.out j (by omega))⟩
      go_wp2
      go_ret
      exact ⟨-1, rfl, by rw [HE.out]; rfl, HB1.out⟩
set_option maxRecDepth 100000 in
set_option maxHeartbeats 1000000 in
theorem badTexts_any (A : Option Addr) (c : Nat) (l : List ByteArray) (w : World) (h : Kd.string.C w A l.length l) (hs : ∀ j, j < l.length → (str l j).size ≤ 1000000) (hT : Tabs w) :
    Calls Tryd.prog 69 #[.slice A l.length c, .func (.func 70) #[] #[]] w fun e w' => e = .returned (.bool (!textsOk l)) ∧ Below w.heap.size w w' := by
  have HR := Aside0.mk h
  have HT := Aside0.mk hT
  have HS := Aside0.mk hs
  clear h hT hs
  go_enter Tryd.func69, Tryd.ntmps69
  go_wp2_with fail
  refine (badIdx_any A c l _ HR.out HS.out HT.out).mono ?_
  rintro e w' ⟨i, rfl, hi, hB⟩
  have HI := Aside0.mk hi
  have HB := Aside0.mk hB
  clear hi hB
  go_wp2
  go_ret
  exact ⟨ret_bool HI.out, HB.out⟩
end Go.Proofs.YtglfebpgdghlfaaDoor.L
end
section
namespace Go.Proofs.YtglfebpgdghlfaaDoor.L
open Go.RowKit Go.ChangeShapes Go.WideShapes Go.Proofs.YtglfebpgdghlfaaDoorW.PrintWords Go.Proofs.YtglfebpgdghlfaaDoorW.PrintLast Go.Proofs.YtglfebpgdghlfaaDoorW.PrintMore
attribute [local go_sem] max2_int min2_int max_two min_two max_three min_three max_four min_four
def nodeErr (n : Node) (s : Spec) : Int :=
  if numsOk n.ints s.ints = false then 10 else if ¬ (n.texts.length : Int) = s.texts ∨ textsOk n.texts = false then 11
  else if (n.kids.length : Int) < s.least ∨ 0 ≤ s.most ∧ s.most < n.kids.length then 12 else 0
def TextsSmall (n : Node) : Prop := ∀ j, j < n.texts.length → (str n.texts j).size ≤ 1000000
set_option maxRecDepth 100000 in
set_option maxHeartbeats 2000000 in
theorem check_any (n : Node) (A1 : Option Addr) (c1 : Nat) (A2 : Option Addr) (c2 : Nat) (A3 : Option Addr) (c3 : Nat) (s : Spec) (A4 : Option Addr) (c4 : Nat) (w : World) (h : NodeC w n A1 c1 A2 c2 A3 c3) (h4 : SpecC w s A4 c4) (hs : TextsSmall n) (hT : Tabs w) :
    Calls Tryd.prog 37 #[.agg #[.int .i64 n.kind, .slice A1 n.ints.length c1, .slice A2 n.texts.length c2, .slice A3 n.kids.length c3], .agg #[.slice A4 s.ints.length c4, .int .i64 s.texts, .int .i64 s.least, .int .i64 s.most]] w
      fun e w' => e = .returned (.int .i64 (nodeErr n s)) ∧ Below w.heap.size w w' := by
  have HN := Aside0.mk h
  have H4 := Aside0.mk h4
  have HS := Aside0.mk hs
  have HT := Aside0.mk hT
  have HB := Aside0.mk (below_alloc (below_alloc (Below.refl w.heap.size w) (.cells #[.int .i64 n.kind, .slice A1 n.ints.length c1, .slice A2 n.texts.length c2, .slice A3 n.kids.length c3] 26)) (.cells #[.slice A4 s.ints.length c4, .int .i64 s.texts, .int .i64 s.least, .int .i64 s.most] 66))
  have b3 := h.k.2.1
  have b2 := h.t.2.1
  clear h h4 hs hT
  have HE := Aside0.mk (show nodeErr n s = if numsOk n.ints s.ints = false then 10 else if ¬ (n.texts.length : Int) = s.texts ∨ textsOk n.texts = false then 11
    else if (n.kids.length : Int) < s.least ∨ 0 ≤ s.most ∧ s.most < n.kids.length then 12 else 0 from rfl)
  have HC := Aside0.mk (And.intro (box_cell2 w _ rfl #[.int .i64 n.kind, .slice A1 n.ints.length c1, .slice A2 n.texts.length c2, .slice A3 n.kids.length c3] 26 (.cells #[.slice A4 s.ints.length c4, .int .i64 s.texts, .int .i64 s.least, .int .i64 s.most] 66) 3 _ rfl)
    (And.intro (box_cell (w.alloc (.cells #[.int .i64 n.kind, .slice A1 n.ints.length c1, .slice A2 n.texts.length c2, .slice A3 n.kids.length c3] 26)) (w.heap.size + 1) (by simp) #[.slice A4 s.ints.length c4, .int .i64 s.texts, .int .i64 s.least, .int .i64 s.most] 66 2 _ rfl)
      (box_cell (w.alloc (.cells #[.int .i64 n.kind, .slice A1 n.ints.length c1, .slice A2 n.texts.length c2, .slice A3 n.kids.length c3] 26)) (w.heap.size + 1) (by simp) #[.slice A4 s.ints.length c4, .int .i64 s.texts, .int .i64 s.least, .int .i64 s.most] 66 3 _ rfl)))
  go_enter Tryd.func37, Tryd.ntmps37
  go_wp2_with fail
  refine (numbers_any A1 c1 n.ints A4 c4 s.ints _ (Kd.C_below HN.out.i HB.out) (Kd.C_below H4.out.i HB.out)).mono ?_
  rintro e w1 ⟨rfl, ⟨m, rfl⟩⟩
  have HB1 := Aside0.mk (pw_below_drewN HB.out m)
  by_cases q1 : numsOk n.ints s.ints = true
  · have Q1 := Aside0.mk q1
    rw [Q1.out]
    clear q1
    by_cases q2 : (n.texts.length : Int) = s.texts
    · have Q2 := Aside0.mk q2
      have q2b : ((n.texts.length : Int) != s.texts) = false := by simp [q2]
      clear q2
      go_wp2_with fail
      refine (badTexts_any A2 c2 n.texts _ (Kd.C_below HN.out.t HB1.out) HS.out (HT.out.below HB1.out)).mono ?_
      rintro e w2 ⟨rfl, hB2⟩
      have HB2 := Aside0.mk (below_step HB1.out hB2)
      have k3 := pw_cell_below hB2 (show (((w.alloc _).alloc _).drewN m).cell? _ = _ from HC.out.1)
      have s2 := pw_cell_below hB2 (show (((w.alloc _).alloc _).drewN m).cell? _ = _ from HC.out.2.1)
      have s3 := pw_cell_below hB2 (show (((w.alloc _).alloc _).drewN m).cell? _ = _ from HC.out.2.2)
      clear hB2
      by_cases q3 : textsOk n.texts = true
      · have Q3 := Aside0.mk q3
        rw [Q3.out]
        clear q3
        by_cases q4 : (n.kids.length : Int) < s.least
        · have Q4 := Aside0.mk q4
          have q4b : decide ((n.kids.length : Int) < s.least) = true := decide_eq_true q4
          clear q4
          go_wp2
          go_ret
          exact ⟨ret_int (by rw [HE.out, if_neg (by rw [Q1.out]; simp), if_neg (by rw [Q3.out]; simp [Q2.out]), if_pos (.inl Q4.out)]), HB2.out⟩
        · have Q4 := Aside0.mk q4
          have q4b : decide ((n.kids.length : Int) < s.least) = false := decide_eq_false q4
          clear q4
          by_cases q5 : 0 ≤ s.most
          · by_cases q6 : s.most < n.kids.length
            · have Q6 := Aside0.mk (show 0 ≤ s.most ∧ s.most < n.kids.length from ⟨q5, q6⟩)
              have q5b : decide (0 ≤ s.most) = true := decide_eq_true q5
              have q6b : decide (s.most < (n.kids.length : Int)) = true := decide_eq_true q6
              clear q5 q6
              go_wp2
              go_ret
              exact ⟨ret_int (by rw [HE.out, if_neg (by rw [Q1.out]; simp), if_neg (by rw [Q3.out]; simp [Q2.out]), if_pos (.inr Q6.out)]), HB2.out⟩
            · have Q6 := Aside0.mk (show ¬ (0 ≤ s.most ∧ s.most < n.kids.length) from fun h => q6 h.2)
              have q5b : decide (0 ≤ s.most) = true := decide_eq_true q5
              have q6b : decide (s.most < (n.kids.length : Int)) = false := decide_eq_false q6
              clear q5 q6
              go_wp2
              go_ret
              exact ⟨ret_int (by rw [HE.out, if_neg (by rw [Q1.out]; simp), if_neg (by rw [Q3.out]; simp [Q2.out]), if_neg (fun h => h.elim (fun h0 => by have := Q4.out; omega) Q6.out)]), HB2.out⟩
          · have Q6 := Aside0.mk (show ¬ (0 ≤ s.most ∧ s.most < n.kids.length) from fun h => q5 h.1)
            have q5b : decide (0 ≤ s.most) = false := decide_eq_false q5
            clear q5
            go_wp2
            go_ret
            exact ⟨ret_int (by rw [HE.out, if_neg (by rw [Q1.out]; simp), if_neg (by rw [Q3.out]; simp [Q2.out]), if_neg (fun h => h.elim (fun h0 => by have := Q4.out; omega) Q6.out)]), HB2.out⟩
      · have Q3 := Aside0.mk (Bool.eq_false_iff.2 q3)
        clear q3
        rw [Q3.out]
        go_wp2
        go_ret
        exact ⟨ret_int (by rw [HE.out, if_neg (by rw [Q1.out]; simp), if_pos (.inr Q3.out)]), HB2.out⟩
    · have Q2 := Aside0.mk q2
      have q2b : ((n.texts.length : Int) != s.texts) = true := by simp [q2]
      clear q2
      go_wp2
      go_ret
      exact ⟨ret_int (by rw [HE.out, if_neg (by rw [Q1.out]; simp), if_pos (.inl Q2.out)]), HB1.out⟩
  · have Q1 := Aside0.mk (Bool.eq_false_iff.2 q1)
    clear q1
    rw [Q1.out]
    go_wp2
    go_ret
    exact ⟨ret_int (by rw [HE.out, if_pos Q1.out]), HB1.out⟩
end Go.Proofs.YtglfebpgdghlfaaDoor.L
end
section
namespace Go.Proofs.YtglfebpgdghlfaaDoor.L
open Go.RowKit Go.ChangeShapes Go.WideShapes Go.Proofs.YtglfebpgdghlfaaDoorW.PrintWords Go.Proofs.YtglfebpgdghlfaaDoorW.PrintLast Go.Proofs.YtglfebpgdghlfaaDoorW.PrintMore
attribute [local go_sem] max2_int min2_int max_two min_two max_three min_three max_four min_four
def Lits {α : Type} (d : Kd α) (W : World) : List α → List Value → Prop
  | [], cs => cs = []
  | p :: ps, cs => ∃ c r, cs = c ++ r ∧ d.K W p c ∧ Lits d W ps r
theorem Lits.reps {α : Type} {d : Kd α} {W : World} : ∀ (ps : List α) (cs : List Value) (qs : List α) (ds : List Value), Lits d W ps cs → Reps (d.K W) d.sz qs ds → Reps (d.K W) d.sz (qs ++ ps) (ds ++ cs)
  | [], cs, qs, ds, h, hr => by
    obtain rfl : cs = [] := h
    simpa using hr
  | p :: ps, cs, qs, ds, h, hr => by
    obtain ⟨c, r, rfl, hk, hl⟩ := h
    have := Lits.reps ps r (qs ++ [p]) (ds ++ c) hl (Reps.snoc hr hk (d.K_len hk))
    simpa using this
theorem C_lits {α : Type} (d : Kd α) (W : World) (e n : Nat) (hn : W.heap.size = n) (ps : List α) (cs : List Value) (h : Lits d W ps cs) (hm : ps.length ≤ 1000000) {ca : Array Value} (hca : ca = cs.toArray) :
    d.C (W.alloc (.cells ca e)) (some ⟨n, 0, none⟩) ps.length ps := by
  subst hn hca
  have hr := Lits.reps ps cs [] [] h (Reps.none _ _)
  rw [List.nil_append, List.nil_append] at hr
  have hb : Below W.heap.size W (W.alloc (.cells cs.toArray e)) := below_alloc (Below.refl _ _) _
  refine ⟨rfl, by omega, fun _ => ⟨_, rfl, fun j p hj => ?_⟩⟩
  have hk := hr.2 j p hj
  refine ⟨_, d.K_len hk, d.K_below hb hk, fun q u hu => ?_⟩
  have hh : (W.alloc (.cells cs.toArray e)).heap[W.heap.size]? = some (.cells cs.toArray e (0, 0)) := by simpa using heap_alloc_new W _
  rw [Go.Proofs.YtglfebpgdghlfaaDoorW.PrintWords.add_plain, blk_cell hh]
  rw [List.getElem?_take] at hu
  split at hu
  · rw [List.getElem?_drop] at hu
    simpa using hu
  · cases hu
end Go.Proofs.YtglfebpgdghlfaaDoor.L
end
section
namespace Go.Proofs.YtglfebpgdghlfaaDoor.L
open Go.RowKit Go.ChangeShapes Go.WideShapes Go.Proofs.YtglfebpgdghlfaaDoorW.PrintWords Go.Proofs.YtglfebpgdghlfaaDoorW.PrintLast Go.Proofs.YtglfebpgdghlfaaDoorW.PrintMore
attribute [local go_sem] max2_int min2_int max_two min_two max_three min_three max_four min_four
set_option maxHeartbeats 1000000 in
theorem ints_any (n : Nat) (c : Int) (w : World) (h1 : 1 ≤ n) (h2 : n ≤ 1000000) : Calls Tryd.prog 67 #[.int .i64 n, .int .i64 c] w fun e w' => ∃ A d, e = .returned (.slice A n d) ∧ n ≤ d ∧ (Kd.int .i64).R 3 w' w.heap.size (fun _ => True) (.slice A n d) (List.replicate n c) ∧ Below w.heap.size w w' := by
  have HB := Aside0.mk (Below.refl w.heap.size w)
  go_enter Tryd.func67, Tryd.ntmps67
  go_wp2_with fail
  refine (repeat_int ⟨w.heap.size, 0, none⟩ 1 c n _ (by simp) h1 h2).mono ?_
  rintro e w1 ⟨A, d, rfl, hR, hB⟩
  rw [List.length_replicate] at hR ⊢
  have HR := Aside0.mk (Kd.R_lower (base' := w.heap.size) hR (by simp))
  have HD := Aside0.mk (Kd.R_reads' hR).2.1
  have HB1 := Aside0.mk (below_step (below_alloc HB.out (.cells #[.int .i64 c] 3)) hB)
  clear hR hB
  go_wp2
  go_ret
  exact ⟨_, _, rfl, HD.out, HR.out, HB1.out⟩
def oldTab : List Spec := [specz, ⟨[], 0, 0, -1⟩, ⟨[2, 2, 2, 2], 0, 1, 1⟩, ⟨[3], 1, 0, 0⟩, ⟨[3], 1, 0, 0⟩, ⟨[], 1, 0, 0⟩, ⟨[4], 0, 0, 0⟩]
def newTab : List Spec := [specz, ⟨[], 1, 0, -1⟩, ⟨[2, 2, 2], 0, 1, 1⟩, ⟨[3, 3, 3], 1, 0, 0⟩, ⟨[3], 1, 0, 0⟩, ⟨[3], 2, 0, 0⟩, ⟨[1], 0, 0, -1⟩, ⟨[4, 4, 4, 5], 0, 0, 0⟩, ⟨[2, 2, 2], 0, 1, 1⟩]
theorem Lits.cons {α : Type} {d : Kd α} {W : World} {p : α} {ps : List α} {c r : List Value} (hk : d.K W p c) (h : Lits d W ps r) : Lits d W (p :: ps) (c ++ r) := ⟨c, r, rfl, hk, h⟩
theorem Lits.nil {α : Type} {d : Kd α} {W : World} : Lits d W [] [] := rfl
def Past (b : Nat) (A : Option Addr) : Prop := ∀ ad, A = some ad → b < ad.block
theorem Past.none (b : Nat) : Past b none := fun _ h => by cases h
theorem Past.of_R {α : Type} {d : Kd α} {e B b n c : Nat} {w : World} {ok : Nat → Prop} {A : Option Addr} {xs : List α} (h : d.R e w B ok (.slice A n c) xs) (hb : b < B) : Past b A := fun ad he => by
  subst he
  have := Kd.R_base h ad.block rfl
  omega
theorem C_int_far {W : World} {A : Option Addr} {n b i : Nat} {k : IntKind} {xs : List Int} (h : (Kd.int k).C W A n xs) (hp : Past b A) (u : Value) : (Kd.int k).C (W.setCell ⟨b, i, none⟩ u) A n xs := by
  refine ⟨h.1, h.2.1, fun hn => ?_⟩
  obtain ⟨ad, rfl, hc⟩ := h.2.2 hn
  refine ⟨ad, rfl, fun j p hj => ?_⟩
  obtain ⟨c, h1, h2, h3⟩ := hc j p hj
  exact ⟨c, h1, h2, fun q u' hu => far_set (h3 q u' hu) b i (by rw [add_block]; have := hp ad rfl; omega) u⟩
theorem SpecC.far4 {W : World} {s : Spec} {A : Option Addr} {c b : Nat} (h : SpecC W s A c) (hp : Past b A) (u0 u1 u2 u3 : Value) : SpecC ((((W.setCell ⟨b, 0, none⟩ u0).setCell ⟨b, 1, none⟩ u1).setCell ⟨b, 2, none⟩ u2).setCell ⟨b, 3, none⟩ u3) s A c :=
  ⟨h.l, C_int_far (C_int_far (C_int_far (C_int_far h.i hp _) hp _) hp _) hp _⟩
set_option maxRecDepth 100000 in
set_option maxHeartbeats 4000000 in
theorem old_any (k : Int) (w : World) : Calls Tryd.prog 36 #[.int .i64 k] w (SpecPost (Past w.heap.size) (findS oldTab k) w) := by
  have HB0 := Aside0.mk (below_alloc (Below.refl w.heap.size w) (.cells #[.slice none 0 0, .int .i64 0, .int .i64 0, .int .i64 0] 66))
  have HZ0 := Aside0.mk (show w.heap.size < (w.alloc (.cells #[.slice none 0 0, .int .i64 0, .int .i64 0, .int .i64 0] 66)).heap.size from by simp)
  have HL0 := Aside0.mk (show Lives 4 w.heap.size (w.alloc (.cells #[.slice none 0 0, .int .i64 0, .int .i64 0, .int .i64 0] 66)) from Lives.new w #[.slice none 0 0, .int .i64 0, .int .i64 0, .int .i64 0] 66)
  have hu := Tryd.underlying66
  go_enter Tryd.func36, Tryd.ntmps36
  go_wp2_with fail
  refine (ints_any 4 2 _ (by omega) (by omega)).mono ?_
  rintro e w1 ⟨A1, d1, rfl, hd1, hR1, hB1⟩
  have HG1 := Aside0.mk (Past.of_R hR1 HZ0.out)
  have HR1 := Aside0.mk (Kd.R_reads' hR1).2.2
  have HD1 := Aside0.mk hd1
  have HB1 := Aside0.mk (below_step HB0.out hB1)
  have HZ1 := Aside0.mk (Nat.lt_of_lt_of_le HZ0.out hB1.size)
  have HL1 := Aside0.mk (Lives.below HL0.out hB1)
  clear hR1 hB1 hd1 HB0 HL0 HZ0
  go_wp2_with fail
  refine (ints_any 1 3 _ (by omega) (by omega)).mono ?_
  rintro e w2 ⟨A2, d2, rfl, hd2, hR2, hB2⟩
  have HG2 := Aside0.mk (Past.of_R hR2 HZ1.out)
  have HR2 := Aside0.mk (Kd.R_reads' hR2).2.2
  have HD2 := Aside0.mk hd2
  replace HR1 := Aside0.mk (Kd.C_below HR1.out hB2)
  have HB2 := Aside0.mk (below_step HB1.out hB2)
  have HZ2 := Aside0.mk (Nat.lt_of_lt_of_le HZ1.out hB2.size)
  have HL2 := Aside0.mk (Lives.below HL1.out hB2)
  clear hR2 hB2 hd2 HB1 HL1 HZ1
  go_wp2_with fail
  refine (ints_any 1 3 _ (by omega) (by omega)).mono ?_
  rintro e w3 ⟨A3, d3, rfl, hd3, hR3, hB3⟩
  have HG3 := Aside0.mk (Past.of_R hR3 HZ2.out)
  have HR3 := Aside0.mk (Kd.R_reads' hR3).2.2
  have HD3 := Aside0.mk hd3
  replace HR1 := Aside0.mk (Kd.C_below HR1.out hB3)
  replace HR2 := Aside0.mk (Kd.C_below HR2.out hB3)
  have HB3 := Aside0.mk (below_step HB2.out hB3)
  have HZ3 := Aside0.mk (Nat.lt_of_lt_of_le HZ2.out hB3.size)
  have HL3 := Aside0.mk (Lives.below HL2.out hB3)
  clear hR3 hB3 hd3 HB2 HL2 HZ2
  go_wp2_with fail
  refine (ints_any 1 4 _ (by omega) (by omega)).mono ?_
  rintro e w4 ⟨A4, d4, rfl, hd4, hR4, hB4⟩
  have HG4 := Aside0.mk (Past.of_R hR4 HZ3.out)
  have HR4 := Aside0.mk (Kd.R_reads' hR4).2.2
  have HD4 := Aside0.mk hd4
  replace HR1 := Aside0.mk (Kd.C_below HR1.out hB4)
  replace HR2 := Aside0.mk (Kd.C_below HR2.out hB4)
  replace HR3 := Aside0.mk (Kd.C_below HR3.out hB4)
  have HB4 := Aside0.mk (below_step HB3.out hB4)
  have HZ4 := Aside0.mk (Nat.lt_of_lt_of_le HZ3.out hB4.size)
  have HL4 := Aside0.mk (Lives.below HL3.out hB4)
  clear hR4 hB4 hd4 HB3 HL3 HZ3
  go_wp2_with fail
  refine (find_any (Past w.heap.size) (Past.none _) (some ⟨w4.heap.size, 0, none⟩) 7 oldTab k _ (C_lits (kSpecG (Past w.heap.size)) w4 _ _ rfl oldTab _ (Lits.cons (kSpecG_mk (A := none) (c := 0) (n := 0) rfl (Nat.le_refl 0) (C_nil _ _) (Past.none _) rfl rfl rfl) (Lits.cons (kSpecG_mk (A := none) (c := 0) (n := 0) rfl (Nat.le_refl 0) (C_nil _ _) (Past.none _) rfl rfl rfl) (Lits.cons (kSpecG_mk (n := 4) rfl HD1.out HR1.out HG1.out rfl rfl rfl) (Lits.cons (kSpecG_mk (n := 1) rfl HD2.out HR2.out HG2.out rfl rfl rfl) (Lits.cons (kSpecG_mk (n := 1) rfl HD3.out HR3.out HG3.out rfl rfl rfl) (Lits.cons (kSpecG_mk (A := none) (c := 0) (n := 0) rfl (Nat.le_refl 0) (C_nil _ _) (Past.none _) rfl rfl rfl) (Lits.cons (kSpecG_mk (n := 1) rfl HD4.out HR4.out HG4.out rfl rfl rfl) Lits.nil))))))) (by decide) rfl) (by decide)).mono ?_
  rintro e wf ⟨A, c, rfl, hS, hG, hB⟩
  have HS := Aside0.mk hS
  have HG := Aside0.mk hG
  have HB := Aside0.mk (below_step (below_alloc HB4.out _) hB)
  have HL := Aside0.mk (Lives.below (Lives.below HL4.out (below_alloc (Below.refl _ _) _)) hB)
  clear hS hG hB
  have hl0 := HL.out.at 0 (by omega)
  have hl1 := HL.out.at 1 (by omega)
  have hl2 := HL.out.at 2 (by omega)
  have hl3 := HL.out.at 3 (by omega)
  go_wp2
  clear hl0 hl1 hl2 hl3
  have h4 := HL.out.set4 (.slice A ((findS oldTab k).getD specz).ints.length c) (.int .i64 ((findS oldTab k).getD specz).texts) (.int .i64 ((findS oldTab k).getD specz).least) (.int .i64 ((findS oldTab k).getD specz).most)
  exact bodyPost_ret (v := .tuple #[.agg #[.slice A ((findS oldTab k).getD specz).ints.length c, .int .i64 ((findS oldTab k).getD specz).texts, .int .i64 ((findS oldTab k).getD specz).least, .int .i64 ((findS oldTab k).getD specz).most], .bool (findS oldTab k).isSome]) (by simp [results, Tryd.results36, go_sem, h4]) rfl ⟨A, c, rfl, HS.out.far4 HG.out _ _ _ _, HG.out, below_set4 HB.out (Nat.le_refl _)⟩
set_option maxRecDepth 100000 in
set_option maxHeartbeats 4000000 in
theorem new_any (k : Int) (w : World) : Calls Tryd.prog 89 #[.int .i64 k] w (SpecPost (Past w.heap.size) (findS newTab k) w) := by
  have HB0 := Aside0.mk (below_alloc (Below.refl w.heap.size w) (.cells #[.slice none 0 0, .int .i64 0, .int .i64 0, .int .i64 0] 66))
  have HZ0 := Aside0.mk (show w.heap.size < (w.alloc (.cells #[.slice none 0 0, .int .i64 0, .int .i64 0, .int .i64 0] 66)).heap.size from by simp)
  have HL0 := Aside0.mk (show Lives 4 w.heap.size (w.alloc (.cells #[.slice none 0 0, .int .i64 0, .int .i64 0, .int .i64 0] 66)) from Lives.new w #[.slice none 0 0, .int .i64 0, .int .i64 0, .int .i64 0] 66)
  have hu := Tryd.underlying66
  go_enter Tryd.func89, Tryd.ntmps89
  go_wp2_with fail
  refine (ints_any 3 2 _ (by omega) (by omega)).mono ?_
  rintro e w1 ⟨A1, d1, rfl, hd1, hR1, hB1⟩
  have HG1 := Aside0.mk (Past.of_R hR1 HZ0.out)
  have HR1 := Aside0.mk (Kd.R_reads' hR1).2.2
  have HD1 := Aside0.mk hd1
  have HB1 := Aside0.mk (below_step HB0.out hB1)
  have HZ1 := Aside0.mk (Nat.lt_of_lt_of_le HZ0.out hB1.size)
  have HL1 := Aside0.mk (Lives.below HL0.out hB1)
  clear hR1 hB1 hd1 HB0 HL0 HZ0
  go_wp2_with fail
  refine (ints_any 3 3 _ (by omega) (by omega)).mono ?_
  rintro e w2 ⟨A2, d2, rfl, hd2, hR2, hB2⟩
  have HG2 := Aside0.mk (Past.of_R hR2 HZ1.out)
  have HR2 := Aside0.mk (Kd.R_reads' hR2).2.2
  have HD2 := Aside0.mk hd2
  replace HR1 := Aside0.mk (Kd.C_below HR1.out hB2)
  have HB2 := Aside0.mk (below_step HB1.out hB2)
  have HZ2 := Aside0.mk (Nat.lt_of_lt_of_le HZ1.out hB2.size)
  have HL2 := Aside0.mk (Lives.below HL1.out hB2)
  clear hR2 hB2 hd2 HB1 HL1 HZ1
  go_wp2_with fail
  refine (ints_any 1 3 _ (by omega) (by omega)).mono ?_
  rintro e w3 ⟨A3, d3, rfl, hd3, hR3, hB3⟩
  have HG3 := Aside0.mk (Past.of_R hR3 HZ2.out)
  have HR3 := Aside0.mk (Kd.R_reads' hR3).2.2
  have HD3 := Aside0.mk hd3
  replace HR1 := Aside0.mk (Kd.C_below HR1.out hB3)
  replace HR2 := Aside0.mk (Kd.C_below HR2.out hB3)
  have HB3 := Aside0.mk (below_step HB2.out hB3)
  have HZ3 := Aside0.mk (Nat.lt_of_lt_of_le HZ2.out hB3.size)
  have HL3 := Aside0.mk (Lives.below HL2.out hB3)
  clear hR3 hB3 hd3 HB2 HL2 HZ2
  go_wp2_with fail
  refine (ints_any 1 3 _ (by omega) (by omega)).mono ?_
  rintro e w4 ⟨A4, d4, rfl, hd4, hR4, hB4⟩
  have HG4 := Aside0.mk (Past.of_R hR4 HZ3.out)
  have HR4 := Aside0.mk (Kd.R_reads' hR4).2.2
  have HD4 := Aside0.mk hd4
  replace HR1 := Aside0.mk (Kd.C_below HR1.out hB4)
  replace HR2 := Aside0.mk (Kd.C_below HR2.out hB4)
  replace HR3 := Aside0.mk (Kd.C_below HR3.out hB4)
  have HB4 := Aside0.mk (below_step HB3.out hB4)
  have HZ4 := Aside0.mk (Nat.lt_of_lt_of_le HZ3.out hB4.size)
  have HL4 := Aside0.mk (Lives.below HL3.out hB4)
  clear hR4 hB4 hd4 HB3 HL3 HZ3
  go_wp2_with fail
  refine (ints_any 1 1 _ (by omega) (by omega)).mono ?_
  rintro e w5 ⟨A5, d5, rfl, hd5, hR5, hB5⟩
  have HG5 := Aside0.mk (Past.of_R hR5 HZ4.out)
  have HR5 := Aside0.mk (Kd.R_reads' hR5).2.2
  have HD5 := Aside0.mk hd5
  replace HR1 := Aside0.mk (Kd.C_below HR1.out hB5)
  replace HR2 := Aside0.mk (Kd.C_below HR2.out hB5)
  replace HR3 := Aside0.mk (Kd.C_below HR3.out hB5)
  replace HR4 := Aside0.mk (Kd.C_below HR4.out hB5)
  have HB5 := Aside0.mk (below_step HB4.out hB5)
  have HZ5 := Aside0.mk (Nat.lt_of_lt_of_le HZ4.out hB5.size)
  have HL5 := Aside0.mk (Lives.below HL4.out hB5)
  clear hR5 hB5 hd5 HB4 HL4 HZ4
  go_wp2_with fail
  refine (ints_any 3 4 _ (by omega) (by omega)).mono ?_
  rintro e w6 ⟨A6, d6, rfl, hd6, hR6, hB6⟩
  have HO := Aside0.mk hR6
  have HBo := Aside0.mk hB6
  clear hR6 hB6 hd6
  go_wp2_with (at_builtin; refine Kd.R_append_rows (Kd.int .i64) (Rr := fun x cs => cs = [.int .i64 x]) (w0 := w5) w5.heap.size rfl (.tmp 15) (.tmp 16) 24 3 (.int .i64 0) 8 rfl Tryd.underlying24 info_int rfl (by decide) (by omega) (.slice A6 3 d6) (List.replicate 3 4) [5] _ _ _ (fun _ => True) (fun _ => False) rfl rfl (Kd.R_alloc HO.out (.cells #[.int .i64 5] 3)) (C_ints w6 3 _ rfl [5] (by decide) rfl) (fun _ _ h => h) (fun _ h => h.elim) (fun _ _ => trivial) (below_alloc HBo.out _) (below_alloc HBo.out _).size (by simp) ?_; intro v5 wx hR5 hB5 _ _; obtain ⟨Ax, dx, rfl⟩ := Kd.R_slice hR5; have HRx := Aside0.mk (show (Kd.int .i64).R 3 wx w5.heap.size (fun _ => True) (.slice Ax 4 dx) [4, 4, 4, 5] from hR5); have HBx := Aside0.mk hB5; clear hR5 hB5)
  have hR6 := HRx.out
  have hB6 := HBx.out
  have hd6 := (Kd.R_reads' HRx.out).2.1
  have HG6 := Aside0.mk (Past.of_R hR6 HZ5.out)
  have HR6 := Aside0.mk (Kd.R_reads' hR6).2.2
  have HD6 := Aside0.mk hd6
  replace HR1 := Aside0.mk (Kd.C_below HR1.out hB6)
  replace HR2 := Aside0.mk (Kd.C_below HR2.out hB6)
  replace HR3 := Aside0.mk (Kd.C_below HR3.out hB6)
  replace HR4 := Aside0.mk (Kd.C_below HR4.out hB6)
  replace HR5 := Aside0.mk (Kd.C_below HR5.out hB6)
  have HB6 := Aside0.mk (below_step HB5.out hB6)
  have HZ6 := Aside0.mk (Nat.lt_of_lt_of_le HZ5.out hB6.size)
  have HL6 := Aside0.mk (Lives.below HL5.out hB6)
  clear hR6 hB6 hd6 HB5 HL5 HZ5
  go_wp2_with fail
  refine (ints_any 3 2 _ (by omega) (by omega)).mono ?_
  rintro e w7 ⟨A7, d7, rfl, hd7, hR7, hB7⟩
  have HG7 := Aside0.mk (Past.of_R hR7 HZ6.out)
  have HR7 := Aside0.mk (Kd.R_reads' hR7).2.2
  have HD7 := Aside0.mk hd7
  replace HR1 := Aside0.mk (Kd.C_below HR1.out hB7)
  replace HR2 := Aside0.mk (Kd.C_below HR2.out hB7)
  replace HR3 := Aside0.mk (Kd.C_below HR3.out hB7)
  replace HR4 := Aside0.mk (Kd.C_below HR4.out hB7)
  replace HR5 := Aside0.mk (Kd.C_below HR5.out hB7)
  replace HR6 := Aside0.mk (Kd.C_below HR6.out hB7)
  have HB7 := Aside0.mk (below_step HB6.out hB7)
  have HZ7 := Aside0.mk (Nat.lt_of_lt_of_le HZ6.out hB7.size)
  have HL7 := Aside0.mk (Lives.below HL6.out hB7)
  clear hR7 hB7 hd7 HB6 HL6 HZ6
  go_wp2_with fail
  refine (find_any (Past w.heap.size) (Past.none _) (some ⟨w7.heap.size, 0, none⟩) 9 newTab k _ (C_lits (kSpecG (Past w.heap.size)) w7 _ _ rfl newTab _ (Lits.cons (kSpecG_mk (A := none) (c := 0) (n := 0) rfl (Nat.le_refl 0) (C_nil _ _) (Past.none _) rfl rfl rfl) (Lits.cons (kSpecG_mk (A := none) (c := 0) (n := 0) rfl (Nat.le_refl 0) (C_nil _ _) (Past.none _) rfl rfl rfl) (Lits.cons (kSpecG_mk (n := 3) rfl HD1.out HR1.out HG1.out rfl rfl rfl) (Lits.cons (kSpecG_mk (n := 3) rfl HD2.out HR2.out HG2.out rfl rfl rfl) (Lits.cons (kSpecG_mk (n := 1) rfl HD3.out HR3.out HG3.out rfl rfl rfl) (Lits.cons (kSpecG_mk (n := 1) rfl HD4.out HR4.out HG4.out rfl rfl rfl) (Lits.cons (kSpecG_mk (n := 1) rfl HD5.out HR5.out HG5.out rfl rfl rfl) (Lits.cons (kSpecG_mk (n := 4) rfl HD6.out HR6.out HG6.out rfl rfl rfl) (Lits.cons (kSpecG_mk (n := 3) rfl HD7.out HR7.out HG7.out rfl rfl rfl) Lits.nil))))))))) (by decide) rfl) (by decide)).mono ?_
  rintro e wf ⟨A, c, rfl, hS, hG, hB⟩
  have HS := Aside0.mk hS
  have HG := Aside0.mk hG
  have HB := Aside0.mk (below_step (below_alloc HB7.out _) hB)
  have HL := Aside0.mk (Lives.below (Lives.below HL7.out (below_alloc (Below.refl _ _) _)) hB)
  clear hS hG hB
  have hl0 := HL.out.at 0 (by omega)
  have hl1 := HL.out.at 1 (by omega)
  have hl2 := HL.out.at 2 (by omega)
  have hl3 := HL.out.at 3 (by omega)
  go_wp2
  clear hl0 hl1 hl2 hl3
  have h4 := HL.out.set4 (.slice A ((findS newTab k).getD specz).ints.length c) (.int .i64 ((findS newTab k).getD specz).texts) (.int .i64 ((findS newTab k).getD specz).least) (.int .i64 ((findS newTab k).getD specz).most)
  exact bodyPost_ret (v := .tuple #[.agg #[.slice A ((findS newTab k).getD specz).ints.length c, .int .i64 ((findS newTab k).getD specz).texts, .int .i64 ((findS newTab k).getD specz).least, .int .i64 ((findS newTab k).getD specz).most], .bool (findS newTab k).isSome]) (by simp [results, Tryd.results89, go_sem, h4]) rfl ⟨A, c, rfl, HS.out.far4 HG.out _ _ _ _, HG.out, below_set4 HB.out (Nat.le_refl _)⟩
end Go.Proofs.YtglfebpgdghlfaaDoor.L
end
section
namespace Go.Proofs.YtglfebpgdghlfaaDoor.L
open Go.RowKit Go.ChangeShapes Go.WideShapes Go.Proofs.YtglfebpgdghlfaaDoorW.PrintWords Go.Proofs.YtglfebpgdghlfaaDoorW.PrintLast Go.Proofs.YtglfebpgdghlfaaDoorW.PrintMore
attribute [local go_sem] max2_int min2_int max_two min_two max_three min_three max_four min_four
def nodeT (tab : List Spec) (n : Node) : Int := match findS tab n.kind with
  | none => 9
  | some x => nodeErr n x
def typedFrom (tab : List Spec) : List Node → Int → Int × Int
  | [], _ => (0, 0)
  | n :: r, i => if nodeT tab n = 0 then typedFrom tab r (i + 1) else (nodeT tab n, i)
def typedS (tab : List Spec) (ns : List Node) : Int × Int := typedFrom tab ns 0
theorem typedFrom_bad (tab : List Spec) : ∀ (ns : List Node) (k : Int) (i : Nat), i < ns.length → (∀ j : Nat, j < i → nodeT tab (nd ns j) = 0) → ¬ nodeT tab (nd ns i) = 0 → typedFrom tab ns k = (nodeT tab (nd ns i), k + i)
  | [], _, _, h, _, _ => by simp at h
  | n :: r, k, 0, _, _, hb => by
    unfold typedFrom
    have hb' : ¬ nodeT tab n = 0 := hb
    rw [if_neg hb']
    simp [nd]
  | n :: r, k, i + 1, h, ha, hb => by
    have h0 : nodeT tab n = 0 := ha 0 (by omega)
    unfold typedFrom
    rw [if_pos h0, typedFrom_bad tab r (k + 1) i (by simpa using h) (fun j hj => ha (j + 1) (by omega)) hb]
    have : k + 1 + (i : Int) = k + ((i + 1 : Nat) : Int) := by omega
    rw [this]
    rfl
theorem typedFrom_ok (tab : List Spec) : ∀ (ns : List Node) (k : Int), (∀ j : Nat, j < ns.length → nodeT tab (nd ns j) = 0) → typedFrom tab ns k = (0, 0)
  | [], _, _ => rfl
  | n :: r, k, ha => by
    have h0 : nodeT tab n = 0 := ha 0 (by simp)
    unfold typedFrom
    rw [if_pos h0]
    exact typedFrom_ok tab r (k + 1) (fun j hj => ha (j + 1) (by simpa using hj))
theorem typedS_bad {tab : List Spec} {ns : List Node} {i : Nat} (hi : i < ns.length) (ha : ∀ j : Nat, j < i → nodeT tab (nd ns j) = 0) (hb : ¬ nodeT tab (nd ns i) = 0) : typedS tab ns = (nodeT tab (nd ns i), (i : Int)) := by
  unfold typedS
  rw [typedFrom_bad tab ns 0 i hi ha hb]; simp
theorem typedS_ok {tab : List Spec} {ns : List Node} (ha : ∀ j : Nat, j < ns.length → nodeT tab (nd ns j) = 0) : typedS tab ns = (0, 0) := typedFrom_ok tab ns 0 ha
theorem typedS_zero {tab : List Spec} {ns : List Node} (h : (typedS tab ns).1 = 0) : ∀ j : Nat, j < ns.length → nodeT tab (nd ns j) = 0 := by
  have key : ∀ (ns : List Node) (k : Int), (typedFrom tab ns k).1 = 0 → ∀ j : Nat, j < ns.length → nodeT tab (nd ns j) = 0 := fun ns => by
    induction ns with
    | nil => intro k _ j hj; simp at hj
    | cons n r ih =>
      intro k hk j hj
      unfold typedFrom at hk
      by_cases h0 : nodeT tab n = 0
      · rw [if_pos h0] at hk
        cases j with
        | zero => exact h0
        | succ j => exact ih (k + 1) hk j (by simpa using hj)
      · rw [if_neg h0] at hk
        exact absurd hk h0
  exact key ns 0 h
def TypedPost (r : Int × Int) (w : World) (e : Ending) (w' : World) : Prop := e = .returned (.tuple #[.int .i64 r.1, .int .i64 r.2]) ∧ Below w.heap.size w w'
theorem ret_pair {a b : Int} {r : Int × Int} (h : r = (a, b)) : Ending.returned (.tuple #[.int .i64 a, .int .i64 b]) = .returned (.tuple #[.int .i64 r.1, .int .i64 r.2]) := by rw [h]
set_option maxRecDepth 100000 in
set_option maxHeartbeats 4000000 in
theorem typed_any (A : Option Addr) (c : Nat) (s : Scene) (w : World) (h : kNode.C w A s.nodes.length s.nodes) (hT : Tabs w) (hS : ∀ i : Nat, i < s.nodes.length → TextsSmall (nd s.nodes i)) :
    Calls Tryd.prog 54 #[.agg #[.slice A s.nodes.length c, .int .i64 s.root]] w (TypedPost (typedS newTab s.nodes) w) := by
  have HR := Aside0.mk h
  have HT := Aside0.mk hT
  have HS := Aside0.mk hS
  have b0 := h.2.1
  have HB := Aside0.mk (below_alloc (Below.refl w.heap.size w) (.cells #[.slice A s.nodes.length c, .int .i64 s.root] 39))
  have hu := Tryd.underlying39
  have hun := Tryd.underlying26
  have hus := Tryd.underlying66
  clear h hT hS
  go_enter Tryd.func54, Tryd.ntmps54
  go_wp2
  go_loopw [12] (fun v12 W => ∃ i : Nat, i ≤ s.nodes.length ∧ v12 = .int .i64 i ∧ Aside0 (∀ j : Nat, j < i → nodeT newTab (nd s.nodes j) = 0) ∧ Aside0 (Below w.heap.size w W)) (fun v12 _ => s.nodes.length - (intOf v12).toNat)
  case atStart => exact ⟨0, by omega, rfl, ⟨fun j h => by omega⟩, HB⟩
  case round =>
    obtain ⟨i, hi, rfl, HA, HW⟩ := hrel
    by_cases hlt : i < s.nodes.length
    · obtain ⟨adn, A1, c1, A2, c2, A3, c3, rfl, x0, x1, x2, x3, hN⟩ := at_node HR.out i hlt
      replace x0 := pw_cell_below HW.out x0
      replace x1 := pw_cell_below HW.out x1
      replace x2 := pw_cell_below HW.out x2
      replace x3 := pw_cell_below HW.out x3
      have HN := Aside0.mk hN
      have hba := below_alloc (Below.refl wr.heap.size wr) (.cells #[.int .i64 (nd s.nodes i).kind, .slice A1 (nd s.nodes i).ints.length c1, .slice A2 (nd s.nodes i).texts.length c2, .slice A3 (nd s.nodes i).kids.length c3] 26)
      have hbx : (wr.alloc (.cells #[.int .i64 (nd s.nodes i).kind, .slice A1 (nd s.nodes i).ints.length c1, .slice A2 (nd s.nodes i).texts.length c2, .slice A3 (nd s.nodes i).kids.length c3] 26)).heap[wr.heap.size]? = some (.cells #[.int .i64 (nd s.nodes i).kind, .slice A1 (nd s.nodes i).ints.length c1, .slice A2 (nd s.nodes i).texts.length c2, .slice A3 (nd s.nodes i).kids.length c3] 26 (0, 0)) := by simpa using heap_alloc_new wr _
      have HBX := Aside0.mk hbx
      have HBA := Aside0.mk hba
      have y0 := (blk_cell hbx 0).trans rfl
      clear hN hba hbx
      go_wp2_with fail
      refine (new_any (nd s.nodes i).kind _).mono ?_
      rintro e w6 ⟨A4, c4, rfl, hS6, -, hB6⟩
      have HB6 := Aside0.mk (below_step HW.out (below_step HBA.out hB6))
      cases hf : findS newTab (nd s.nodes i).kind with
      | none =>
        have HE := Aside0.mk (typedS_bad (tab := newTab) hlt HA.out (by unfold nodeT; rw [hf]; exact (by decide : ¬ (9 : Int) = 0)))
        have HE2 := Aside0.mk (show nodeT newTab (nd s.nodes i) = 9 from by unfold nodeT; rw [hf])
        clear hf hS6 hB6
        go_wp2
        go_ret2
        exact ⟨ret_pair (by rw [HE.out, HE2.out]), below_step HB6.out (below_alloc (Below.refl _ _) _)⟩
      | some sp =>
        have HE2 := Aside0.mk (show nodeT newTab (nd s.nodes i) = nodeErr (nd s.nodes i) sp from by unfold nodeT; rw [hf])
        rw [hf] at hS6
        have hb6 := (hB6.block _ (by simp)).trans HBX.out
        have hbs := below_alloc (Below.refl w6.heap.size w6) (.cells #[.slice A4 sp.ints.length c4, .int .i64 sp.texts, .int .i64 sp.least, .int .i64 sp.most] 66)
        have hbx : (w6.alloc (.cells #[.slice A4 sp.ints.length c4, .int .i64 sp.texts, .int .i64 sp.least, .int .i64 sp.most] 66)).heap[w6.heap.size]? = some (.cells #[.slice A4 sp.ints.length c4, .int .i64 sp.texts, .int .i64 sp.least, .int .i64 sp.most] 66 (0, 0)) := by simpa using heap_alloc_new w6 _
        have z0 := (blk_cell ((hbs.block _ (blk_lt hb6)).trans hb6) 0).trans rfl
        have z1 := (blk_cell ((hbs.block _ (blk_lt hb6)).trans hb6) 1).trans rfl
        have z2 := (blk_cell ((hbs.block _ (blk_lt hb6)).trans hb6) 2).trans rfl
        have z3 := (blk_cell ((hbs.block _ (blk_lt hb6)).trans hb6) 3).trans rfl
        have q0 := (blk_cell hbx 0).trans rfl
        have q1 := (blk_cell hbx 1).trans rfl
        have q2 := (blk_cell hbx 2).trans rfl
        have q3 := (blk_cell hbx 3).trans rfl
        have HS6 := Aside0.mk (SpecC.below hS6 hbs)
        have HB7 := Aside0.mk (below_step HB6.out hbs)
        clear hf hS6 hB6 hb6 hbs hbx
        go_wp2_with fail
        refine (check_any (nd s.nodes i) A1 c1 A2 c2 A3 c3 sp A4 c4 _ (HN.out.below HB7.out) HS6.out (HS.out i hlt) (HT.out.below HB7.out)).mono ?_
        rintro e w8 ⟨rfl, hB8⟩
        have HB8 := Aside0.mk (below_step HB7.out hB8)
        clear hB8 z0 z1 z2 z3 q0 q1 q2 q3 x0 x1 x2 x3 y0
        by_cases hz : nodeErr (nd s.nodes i) sp = 0
        · have HA2 := Aside0.mk (ext_lt HA.out (HE2.out.trans hz))
          rw [hz]
          clear hz
          go_wp2
          go_roundw
          case rel => exact ⟨i + 1, by omega, by go_num, HA2, HB8⟩
          case measure => simp [intOf]; omega
        · have HE := Aside0.mk (typedS_bad (tab := newTab) hlt HA.out (by rw [HE2.out]; exact hz))
          have dz : (nodeErr (nd s.nodes i) sp != 0) = true := by simpa using hz
          clear hz
          go_wp2
          go_ret2
          exact ⟨ret_pair (by rw [HE.out, HE2.out]), HB8.out⟩
    · obtain rfl : i = s.nodes.length := by omega
      have HE := Aside0.mk (typedS_ok HA.out)
      go_wp2
      go_ret2
      exact ⟨ret_pair HE.out, HW.out⟩
end Go.Proofs.YtglfebpgdghlfaaDoor.L
end
section
namespace Go.Proofs.YtglfebpgdghlfaaDoor.L
open Go.RowKit Go.ChangeShapes Go.WideShapes Go.Proofs.YtglfebpgdghlfaaDoorW.PrintWords Go.Proofs.YtglfebpgdghlfaaDoorW.PrintLast Go.Proofs.YtglfebpgdghlfaaDoorW.PrintMore
attribute [local go_sem] max2_int min2_int max_two min_two max_three min_three max_four min_four
set_option maxRecDepth 100000 in
set_option maxHeartbeats 4000000 in
theorem oldtyped_run (A : Option Addr) (c : Nat) (s : Scene) (w : World) (h : kNode.C w A s.nodes.length s.nodes) (hT : Tabs w) (hS : ∀ i : Nat, i < s.nodes.length → TextsSmall (nd s.nodes i)) :
    Calls Tryd.prog 84 #[.agg #[.func (.func 36) #[] #[]], .agg #[.slice A s.nodes.length c, .int .i64 s.root]] w (TypedPost (typedS oldTab s.nodes) w) := by
  have HR := Aside0.mk h
  have HT := Aside0.mk hT
  have HS := Aside0.mk hS
  have b0 := h.2.1
  have HB := Aside0.mk (below_alloc (below_alloc (Below.refl w.heap.size w) (.cells #[.func (.func 36) #[] #[]] 114)) (.cells #[.slice A s.nodes.length c, .int .i64 s.root] 39))
  have hu := Tryd.underlying39
  have hun := Tryd.underlying26
  have hus := Tryd.underlying66
  clear h hT hS
  go_enter Tryd.func84, Tryd.ntmps84
  go_wp2
  go_loopw [14] (fun v12 W => ∃ i : Nat, i ≤ s.nodes.length ∧ v12 = .int .i64 i ∧ Aside0 (∀ j : Nat, j < i → nodeT oldTab (nd s.nodes j) = 0) ∧ Aside0 (Below w.heap.size w W) ∧ Aside0 (W.cell? ⟨w.heap.size, 0, none⟩ = some (.func (.func 36) #[] #[]))) (fun v12 _ => s.nodes.length - (intOf v12).toNat)
  case atStart => exact ⟨0, by omega, rfl, ⟨fun j h => by omega⟩, HB, ⟨box_cell2 w _ rfl #[.func (.func 36) #[] #[]] 114 _ 0 _ rfl⟩⟩
  case round =>
    obtain ⟨i, hi, rfl, HA, HW, HV⟩ := hrel
    by_cases hlt : i < s.nodes.length
    · obtain ⟨adn, A1, c1, A2, c2, A3, c3, rfl, x0, x1, x2, x3, hN⟩ := at_node HR.out i hlt
      replace x0 := pw_cell_below HW.out x0
      replace x1 := pw_cell_below HW.out x1
      replace x2 := pw_cell_below HW.out x2
      replace x3 := pw_cell_below HW.out x3
      have HN := Aside0.mk hN
      have hba := below_alloc (Below.refl wr.heap.size wr) (.cells #[.int .i64 (nd s.nodes i).kind, .slice A1 (nd s.nodes i).ints.length c1, .slice A2 (nd s.nodes i).texts.length c2, .slice A3 (nd s.nodes i).kids.length c3] 26)
      have hbx : (wr.alloc (.cells #[.int .i64 (nd s.nodes i).kind, .slice A1 (nd s.nodes i).ints.length c1, .slice A2 (nd s.nodes i).texts.length c2, .slice A3 (nd s.nodes i).kids.length c3] 26)).heap[wr.heap.size]? = some (.cells #[.int .i64 (nd s.nodes i).kind, .slice A1 (nd s.nodes i).ints.length c1, .slice A2 (nd s.nodes i).texts.length c2, .slice A3 (nd s.nodes i).kids.length c3] 26 (0, 0)) := by simpa using heap_alloc_new wr _
      have HBX := Aside0.mk hbx
      have HBA := Aside0.mk hba
      have y0 := (blk_cell hbx 0).trans rfl
      have v0 := pw_cell_below hba HV.out
      clear hN hba hbx
      go_wp2_with fail
      refine (old_any (nd s.nodes i).kind _).mono ?_
      rintro e w6 ⟨A4, c4, rfl, hS6, -, hB6⟩
      have HB6 := Aside0.mk (below_step HW.out (below_step HBA.out hB6))
      cases hf : findS oldTab (nd s.nodes i).kind with
      | none =>
        have HE := Aside0.mk (typedS_bad (tab := oldTab) hlt HA.out (by unfold nodeT; rw [hf]; exact (by decide : ¬ (9 : Int) = 0)))
        have HE2 := Aside0.mk (show nodeT oldTab (nd s.nodes i) = 9 from by unfold nodeT; rw [hf])
        clear hf hS6 hB6
        go_wp2
        go_ret2
        exact ⟨ret_pair (by rw [HE.out, HE2.out]), below_step HB6.out (below_alloc (Below.refl _ _) _)⟩
      | some sp =>
        have HE2 := Aside0.mk (show nodeT oldTab (nd s.nodes i) = nodeErr (nd s.nodes i) sp from by unfold nodeT; rw [hf])
        rw [hf] at hS6
        have hb6 := (hB6.block _ (by simp)).trans HBX.out
        have hbs := below_alloc (Below.refl w6.heap.size w6) (.cells #[.slice A4 sp.ints.length c4, .int .i64 sp.texts, .int .i64 sp.least, .int .i64 sp.most] 66)
        have hbx : (w6.alloc (.cells #[.slice A4 sp.ints.length c4, .int .i64 sp.texts, .int .i64 sp.least, .int .i64 sp.most] 66)).heap[w6.heap.size]? = some (.cells #[.slice A4 sp.ints.length c4, .int .i64 sp.texts, .int .i64 sp.least, .int .i64 sp.most] 66 (0, 0)) := by simpa using heap_alloc_new w6 _
        have z0 := (blk_cell ((hbs.block _ (blk_lt hb6)).trans hb6) 0).trans rfl
        have z1 := (blk_cell ((hbs.block _ (blk_lt hb6)).trans hb6) 1).trans rfl
        have z2 := (blk_cell ((hbs.block _ (blk_lt hb6)).trans hb6) 2).trans rfl
        have z3 := (blk_cell ((hbs.block _ (blk_lt hb6)).trans hb6) 3).trans rfl
        have q0 := (blk_cell hbx 0).trans rfl
        have q1 := (blk_cell hbx 1).trans rfl
        have q2 := (blk_cell hbx 2).trans rfl
        have q3 := (blk_cell hbx 3).trans rfl
        have HS6 := Aside0.mk (SpecC.below hS6 hbs)
        have HB7 := Aside0.mk (below_step HB6.out hbs)
        have HC7 := Aside0.mk (below_step HBA.out (below_step hB6 hbs))
        clear hf hS6 hB6 hb6 hbs hbx
        go_wp2_with fail
        refine (check_any (nd s.nodes i) A1 c1 A2 c2 A3 c3 sp A4 c4 _ (HN.out.below HB7.out) HS6.out (HS.out i hlt) (HT.out.below HB7.out)).mono ?_
        rintro e w8 ⟨rfl, hB8⟩
        have HB8 := Aside0.mk (below_step HB7.out hB8)
        have HV8 := Aside0.mk (pw_cell_below (below_step HC7.out hB8) HV.out)
        clear v0 hB8 z0 z1 z2 z3 q0 q1 q2 q3 x0 x1 x2 x3 y0
        by_cases hz : nodeErr (nd s.nodes i) sp = 0
        · have HA2 := Aside0.mk (ext_lt HA.out (HE2.out.trans hz))
          rw [hz]
          clear hz
          go_wp2
          go_roundw
          case rel => exact ⟨i + 1, by omega, by go_num, HA2, HB8, HV8⟩
          case measure => simp [intOf]; omega
        · have HE := Aside0.mk (typedS_bad (tab := oldTab) hlt HA.out (by rw [HE2.out]; exact hz))
          have dz : (nodeErr (nd s.nodes i) sp != 0) = true := by simpa using hz
          clear hz
          go_wp2
          go_ret2
          exact ⟨ret_pair (by rw [HE.out, HE2.out]), HB8.out⟩
    · obtain rfl : i = s.nodes.length := by omega
      have HE := Aside0.mk (typedS_ok HA.out)
      go_wp2
      go_ret2
      exact ⟨ret_pair HE.out, HW.out⟩

set_option maxRecDepth 100000 in
set_option maxHeartbeats 4000000 in
theorem oldtyped_any (A : Option Addr) (c : Nat) (s : Scene) (w : World) (h : kNode.C w A s.nodes.length s.nodes) (hT : Tabs w) (hS : ∀ i : Nat, i < s.nodes.length → TextsSmall (nd s.nodes i)) :
    Calls Tryd.prog 44 #[.agg #[.slice A s.nodes.length c, .int .i64 s.root]] w (TypedPost (typedS oldTab s.nodes) w) := by
  have HR := Aside0.mk h
  have HT := Aside0.mk hT
  have HS := Aside0.mk hS
  have HB := Aside0.mk (below_alloc (Below.refl w.heap.size w) (.cells #[.slice A s.nodes.length c, .int .i64 s.root] 39))
  have k0 := box_cell w _ rfl #[.slice A s.nodes.length c, .int .i64 s.root] 39 0 _ rfl
  have k1 := box_cell w _ rfl #[.slice A s.nodes.length c, .int .i64 s.root] 39 1 _ rfl
  have hu := Tryd.underlying39
  have huv := Tryd.underlying114
  clear h hT hS
  go_enter Tryd.func44, Tryd.ntmps44
  go_wp2_with fail
  refine (oldtyped_run A c s _ (Kd.C_below HR.out HB.out) (HT.out.below HB.out) HS.out).mono ?_
  rintro e w1 ⟨rfl, hB1⟩
  go_wp2
  go_ret2
  exact ⟨rfl, below_step HB.out hB1⟩
end Go.Proofs.YtglfebpgdghlfaaDoor.L
end
section
namespace Go.Proofs.YtglfebpgdghlfaaDoor.L
open Go.RowKit Go.ChangeShapes Go.WideShapes Go.Proofs.YtglfebpgdghlfaaDoorW.PrintWords Go.Proofs.YtglfebpgdghlfaaDoorW.PrintLast Go.Proofs.YtglfebpgdghlfaaDoorW.PrintMore
attribute [local go_sem] max2_int min2_int max_two min_two max_three min_three max_four min_four
theorem S_kids {W0 W : World} {base g m c : Nat} {l : List Node} {v : Value} {q : List Int} (h : Kd.S kNode 26 W0 base (fun _ => True) (.slice (some ⟨g, 0, none⟩) m c) l) (hb : Below W0.heap.size W0 W) (hv : (Kd.int .i64).R 3 W W0.heap.size (fun _ => True) v q) (i : Nat) (hi : i < m) (hB : base ≤ W0.heap.size) :
    (∃ x, W.cell? ⟨g, i * 4 + 3, none⟩ = some x) ∧ W.frozen? ⟨g, i * 4 + 3, none⟩ = false ∧ base ≤ g ∧
      Kd.S kNode 26 (W.setCell ⟨g, i * 4 + 3, none⟩ v) base (fun _ => True) (.slice (some ⟨g, 0, none⟩) m c) (l.set i ⟨(nd l i).kind, (nd l i).ints, (nd l i).texts, q⟩) := by
  have hgl := Kd.S_lt h g rfl
  have h1 : Kd.S kNode 26 W base (fun k => True ∧ ¬ W0.heap.size ≤ k) (.slice (some ⟨g, 0, none⟩) m c) l := Kd.S_below (Kd.S_mono (Kd.S_bound h) (fun k hk => ⟨trivial, by have := hk.2.2.1; omega⟩)) hb
  obtain ⟨oki, cc, hcl, hM, hcc, hfr, hoki, hH⟩ := Kd.S_elem h1 nodez (i : Int) (by omega) (by omega)
  rw [Int.toNat_natCast] at hM hcc hfr
  obtain ⟨v1, v2, v3, rfl, r1, r2, r3⟩ := kNode_openM hM
  have hs := Kd.S_seg (okg := fun k => W0.heap.size ≤ k) (okp := fun k => oki k ∨ W0.heap.size ≤ k) (ok := fun _ => True) (seg := [v]) (j := 3) (x' := ⟨(nd l i).kind, (nd l i).ints, (nd l i).texts, q⟩) hH (by omega) (by omega) (Nat.le_refl 4)
    (kNode_mkM (Kd.R_mono r1 (fun _ h => .inl h)) (Kd.R_mono r2 (fun _ h => .inl h)) (Kd.R_lower (Kd.R_mono (Kd.R_bound hv) (fun k hk => .inr hk.2.1)) hB)) (fun k hk => hk) (fun k hk => ⟨trivial, by omega⟩)
  rw [Int.toNat_natCast] at hs
  exact ⟨⟨_, hcc 3 _ rfl⟩, hfr 3, Kd.S_base h g rfl, hs.1⟩
def fnv (i : Nat) : Value := .agg #[.func (.func i) #[] #[]]
noncomputable def upF : Lit → Option Value := putF (putF (putF (putF (putF (putF (fun _ => none) (.int .i64 1) (fnv 72)) (.int .i64 2) (fnv 73)) (.int .i64 3) (fnv 76)) (.int .i64 4) (fnv 78)) (.int .i64 5) (fnv 79)) (.int .i64 6) (fnv 80)
set_option maxRecDepth 100000 in
set_option maxHeartbeats 2000000 in
theorem uprows_any (w : World) : Calls Tryd.prog 38 #[] w fun e w' => ∃ b, e = .returned (.map (some b)) ∧ MapF Tryd.prog 3 w' b 6 upF ∧ w.heap.size ≤ b ∧ Below w.heap.size w w' := by
  have hmm := @run_makeMap Tryd.prog
  have HM0 := Aside0.mk (MapF.made Tryd.prog 3 w)
  have HB0 := Aside0.mk (below_alloc (Below.refl w.heap.size w) (.map #[] 0))
  go_enter Tryd.func38, Tryd.ntmps38
  go_wp2_with (first
    | (refine wpList_insert_F _ rfl (.tmp 1) _ (.tmp 2) 73 rfl 3 72 keyI Tryd.underlying73 w.heap.size 0 (fun _ => none) rfl HM0.out (by decide) (.int .i64 1) (fnv 72) (.int .i64 1) rfl rfl (keyI_of (by omega) (by omega)) ?_; intro w1 hM1 hg1; have HM1 := Aside0.mk hM1; have HB1 := Aside0.mk (below_map HB0.out HB0.out.size hg1 (Nat.le_refl _)); clear hM1 hg1)
    | (refine wpList_insert_F _ rfl (.tmp 1) _ (.tmp 3) 73 rfl 3 72 keyI Tryd.underlying73 w.heap.size 1 _ rfl HM1.out (by decide) (.int .i64 2) (fnv 73) (.int .i64 2) rfl rfl (keyI_of (by omega) (by omega)) ?_; intro w2 hM2 hg2; have HM2 := Aside0.mk hM2; have HB2 := Aside0.mk (below_map HB1.out HB1.out.size hg2 (Nat.le_refl _)); clear hM2 hg2)
    | (refine wpList_insert_F _ rfl (.tmp 1) _ (.tmp 4) 73 rfl 3 72 keyI Tryd.underlying73 w.heap.size 2 _ rfl HM2.out (by decide) (.int .i64 3) (fnv 76) (.int .i64 3) rfl rfl (keyI_of (by omega) (by omega)) ?_; intro w3 hM3 hg3; have HM3 := Aside0.mk hM3; have HB3 := Aside0.mk (below_map HB2.out HB2.out.size hg3 (Nat.le_refl _)); clear hM3 hg3)
    | (refine wpList_insert_F _ rfl (.tmp 1) _ (.tmp 5) 73 rfl 3 72 keyI Tryd.underlying73 w.heap.size 3 _ rfl HM3.out (by decide) (.int .i64 4) (fnv 78) (.int .i64 4) rfl rfl (keyI_of (by omega) (by omega)) ?_; intro w4 hM4 hg4; have HM4 := Aside0.mk hM4; have HB4 := Aside0.mk (below_map HB3.out HB3.out.size hg4 (Nat.le_refl _)); clear hM4 hg4)
    | (refine wpList_insert_F _ rfl (.tmp 1) _ (.tmp 6) 73 rfl 3 72 keyI Tryd.underlying73 w.heap.size 4 _ rfl HM4.out (by decide) (.int .i64 5) (fnv 79) (.int .i64 5) rfl rfl (keyI_of (by omega) (by omega)) ?_; intro w5 hM5 hg5; have HM5 := Aside0.mk hM5; have HB5 := Aside0.mk (below_map HB4.out HB4.out.size hg5 (Nat.le_refl _)); clear hM5 hg5)
    | (refine wpList_insert_F _ rfl (.tmp 1) _ (.tmp 7) 73 rfl 3 72 keyI Tryd.underlying73 w.heap.size 5 _ rfl HM5.out (by decide) (.int .i64 6) (fnv 80) (.int .i64 6) rfl rfl (keyI_of (by omega) (by omega)) ?_; intro w6 hM6 hg6; have HM6 := Aside0.mk hM6; have HB6 := Aside0.mk (below_map HB5.out HB5.out.size hg6 (Nat.le_refl _)); clear hM6 hg6))
  go_ret
  exact ⟨_, rfl, HM6.out, Nat.le_refl _, HB6.out⟩
end Go.Proofs.YtglfebpgdghlfaaDoor.L
end
section
namespace Go.Proofs.YtglfebpgdghlfaaDoor.L
open Go.RowKit Go.ChangeShapes Go.WideShapes Go.Proofs.YtglfebpgdghlfaaDoorW.PrintWords Go.Proofs.YtglfebpgdghlfaaDoorW.PrintLast Go.Proofs.YtglfebpgdghlfaaDoorW.PrintMore
attribute [local go_sem] max2_int min2_int max_two min_two max_three min_three max_four min_four
def upN (n : Node) : List Node :=
  if n.kind = 1 then [⟨1, [], [ByteArray.empty], n.kids⟩]
  else if n.kind = 2 then [⟨2, n.ints.take 3, [], [0]⟩, ⟨8, [rd n.ints 3, rd n.ints 3, rd n.ints 3], [], n.kids⟩]
  else if n.kind = 3 then [⟨3, [rd n.ints 0, rd n.ints 0, rd n.ints 0], n.texts, n.kids⟩]
  else if n.kind = 4 then [⟨4, n.ints, n.texts, n.kids⟩]
  else if n.kind = 5 then [⟨5, [65536], [str n.texts 0, ⟨#[115, 97, 110, 115]⟩], n.kids⟩]
  else [⟨7, [rd n.ints 0, rd n.ints 0, rd n.ints 0, 1], [], n.kids⟩]
def upR (n : Node) : List Node × Int := if nodeT oldTab n = 0 then (upN n, 0) else ([], nodeT oldTab n)
def UpPost (r : List Node × Int) (w : World) (e : Ending) (w' : World) : Prop :=
  ∃ A c, e = .returned (.tuple #[.slice A r.1.length c, .int .i64 r.2]) ∧ Kd.S kNode 26 w' w.heap.size (fun _ => True) (.slice A r.1.length c) r.1 ∧ Below w.heap.size w w'
theorem nodeErr_zero {n : Node} {s : Spec} (h : nodeErr n s = 0) : numsOk n.ints s.ints = true ∧ (n.texts.length : Int) = s.texts ∧ textsOk n.texts = true := by
  unfold nodeErr at h
  by_cases h1 : numsOk n.ints s.ints = false
  · rw [if_pos h1] at h; omega
  · rw [if_neg h1] at h
    by_cases h2 : ¬ (n.texts.length : Int) = s.texts ∨ textsOk n.texts = false
    · rw [if_pos h2] at h; omega
    · have h3 : (n.texts.length : Int) = s.texts := Classical.byContradiction fun h => h2 (.inl h)
      have h4 : ¬ textsOk n.texts = false := fun h => h2 (.inr h)
      exact ⟨by cases hh : numsOk n.ints s.ints with | true => rfl | false => exact absurd hh h1, h3, by cases hh : textsOk n.texts with | true => rfl | false => exact absurd hh h4⟩
theorem old_kind {k : Int} {x : Spec} (h : findS oldTab k = some x) : 1 ≤ k ∧ k ≤ 6 := by
  unfold findS at h
  by_cases hk : k < 1 ∨ (oldTab.length : Int) ≤ k
  · rw [if_pos hk] at h; cases h
  · have : (oldTab.length : Int) = 7 := rfl
    omega
theorem upF_1 : upF (.int .i64 1) = some (fnv 72) := by simp [upF, putF]
theorem upF_2 : upF (.int .i64 2) = some (fnv 73) := by simp [upF, putF]
theorem upF_3 : upF (.int .i64 3) = some (fnv 76) := by simp [upF, putF]
theorem upF_4 : upF (.int .i64 4) = some (fnv 78) := by simp [upF, putF]
theorem upF_5 : upF (.int .i64 5) = some (fnv 79) := by simp [upF, putF]
theorem upF_6 : upF (.int .i64 6) = some (fnv 80) := by simp [upF, putF]
theorem field_run (i : Nat) (w : World) : (Instr.field 72 (.agg #[.func (.func i) #[] #[]]) 0).run Tryd.prog w = .ok (.func (.func i) #[] #[]) w := by kernel_rfl
theorem pos1 {m k : Nat} (h : m = k) (hk : 0 < k) : 0 < m := by omega
theorem pos5 {m : Nat} (h : (m : Int) = 1) : 0 < m := by omega
theorem zeroU (w : World) : (zeroValue 72).run Tryd.prog w = .ok ((match (Tryd.prog.info? 72) with | some i => i.zero.getD undef | none => undef)) w := by kernel_rfl
theorem node_len {n : Node} {x : Spec} (hf : findS oldTab n.kind = some x) (hz : nodeErr n x = 0) {k : Int} {y : Spec} (hk : n.kind = k) (hy : findS oldTab k = some y) : n.ints.length = y.ints.length ∧ (n.texts.length : Int) = y.texts := by
  rw [hk, hy] at hf
  injection hf with hf
  subst hf
  have h := nodeErr_zero hz
  have h1 := of_decide_eq_true h.1
  exact ⟨h1.1, h.2.1⟩
set_option maxRecDepth 100000 in
set_option maxHeartbeats 8000000 in
theorem upnode_any (n : Node) (A1 : Option Addr) (c1 : Nat) (A2 : Option Addr) (c2 : Nat) (A3 : Option Addr) (c3 : Nat) (w : World) (h : NodeC w n A1 c1 A2 c2 A3 c3) (hs : Small n) (hts : TextsSmall n) (hT : Tabs w) :
    Calls Tryd.prog 14 #[.agg #[.int .i64 n.kind, .slice A1 n.ints.length c1, .slice A2 n.texts.length c2, .slice A3 n.kids.length c3]] w (UpPost (upR n) w) := by
  have HN := Aside0.mk h
  have HS := Aside0.mk hs
  have HTS := Aside0.mk hts
  have HT := Aside0.mk hT
  have HB := Aside0.mk (below_alloc (Below.refl w.heap.size w) (.cells #[.int .i64 n.kind, .slice A1 n.ints.length c1, .slice A2 n.texts.length c2, .slice A3 n.kids.length c3] 26))
  have k0 := box_cell w _ rfl #[.int .i64 n.kind, .slice A1 n.ints.length c1, .slice A2 n.texts.length c2, .slice A3 n.kids.length c3] 26 0 _ rfl
  have k1 := box_cell w _ rfl #[.int .i64 n.kind, .slice A1 n.ints.length c1, .slice A2 n.texts.length c2, .slice A3 n.kids.length c3] 26 1 _ rfl
  have k2 := box_cell w _ rfl #[.int .i64 n.kind, .slice A1 n.ints.length c1, .slice A2 n.texts.length c2, .slice A3 n.kids.length c3] 26 2 _ rfl
  have k3 := box_cell w _ rfl #[.int .i64 n.kind, .slice A1 n.ints.length c1, .slice A2 n.texts.length c2, .slice A3 n.kids.length c3] 26 3 _ rfl
  have hun := Tryd.underlying26
  have hus := Tryd.underlying66
  have hub := Tryd.underlying72
  clear h hs hts hT
  go_enter Tryd.func14, Tryd.ntmps14
  go_wp2_with fail
  refine (old_any n.kind _).mono ?_
  rintro e w6 ⟨A4, c4, rfl, hS6, -, hB6⟩
  replace k0 := pw_cell_below hB6 k0
  replace k1 := pw_cell_below hB6 k1
  replace k2 := pw_cell_below hB6 k2
  replace k3 := pw_cell_below hB6 k3
  have HB6 := Aside0.mk (below_step HB.out hB6)
  cases hf : findS oldTab n.kind with
  | none =>
    have HE := Aside0.mk (show upR n = ([], 9) from by
      have : nodeT oldTab n = 9 := by unfold nodeT; rw [hf]
      unfold upR; rw [this, if_neg (by decide)])
    clear hf hS6 hB6
    go_wp2
    go_ret2
    exact ⟨none, 0, by rw [HE.out]; rfl, by rw [HE.out]; exact Kd.S_nil _ _ _ _ _, below_step HB6.out (below_alloc (Below.refl _ _) _)⟩
  | some sp =>
    have HF := Aside0.mk hf
    have HE2 := Aside0.mk (show nodeT oldTab n = nodeErr n sp from by unfold nodeT; rw [hf])
    rw [hf] at hS6
    have hbs := below_alloc (Below.refl w6.heap.size w6) (.cells #[.slice A4 sp.ints.length c4, .int .i64 sp.texts, .int .i64 sp.least, .int .i64 sp.most] 66)
    have hbx : (w6.alloc (.cells #[.slice A4 sp.ints.length c4, .int .i64 sp.texts, .int .i64 sp.least, .int .i64 sp.most] 66)).heap[w6.heap.size]? = some (.cells #[.slice A4 sp.ints.length c4, .int .i64 sp.texts, .int .i64 sp.least, .int .i64 sp.most] 66 (0, 0)) := by simpa using heap_alloc_new w6 _
    replace k0 := pw_cell_below hbs k0
    replace k1 := pw_cell_below hbs k1
    replace k2 := pw_cell_below hbs k2
    replace k3 := pw_cell_below hbs k3
    have q0 := (blk_cell hbx 0).trans rfl
    have q1 := (blk_cell hbx 1).trans rfl
    have q2 := (blk_cell hbx 2).trans rfl
    have q3 := (blk_cell hbx 3).trans rfl
    have HS6 := Aside0.mk (SpecC.below hS6 hbs)
    have HB7 := Aside0.mk (below_step HB6.out hbs)
    clear hf hS6 hB6 hbs hbx
    go_wp2_with fail
    refine (check_any n A1 c1 A2 c2 A3 c3 sp A4 c4 _ (HN.out.below HB7.out) HS6.out HTS.out (HT.out.below HB7.out)).mono ?_
    rintro e w8 ⟨rfl, hB8⟩
    have HB8 := Aside0.mk (below_step HB7.out hB8)
    replace k0 := pw_cell_below hB8 k0
    replace k1 := pw_cell_below hB8 k1
    replace k2 := pw_cell_below hB8 k2
    replace k3 := pw_cell_below hB8 k3
    clear hB8 q0 q1 q2 q3
    by_cases hz : nodeErr n sp = 0
    · have HE := Aside0.mk (show upR n = (upN n, 0) from by unfold upR; rw [if_pos (HE2.out.trans hz)])
      have HLen := Aside0.mk (fun {k : Int} {y : Spec} (hk : n.kind = k) (hy : findS oldTab k = some y) => node_len HF.out hz hk hy)
      have HK := Aside0.mk (old_kind HF.out)
      rw [hz]
      clear hz
      have hk6 : n.kind = 1 ∨ n.kind = 2 ∨ n.kind = 3 ∨ n.kind = 4 ∨ n.kind = 5 ∨ n.kind = 6 := by have := HK.out; omega
      rcases hk6 with hk | hk | hk | hk | hk | hk
      · have HUN : Aside0 (upN n = ([⟨1, [], [ByteArray.empty], []⟩] : List Node).set 0 ⟨(nd [⟨1, [], [ByteArray.empty], []⟩] 0).kind, (nd [⟨1, [], [ByteArray.empty], []⟩] 0).ints, (nd [⟨1, [], [ByteArray.empty], []⟩] 0).texts, n.kids⟩) := ⟨by unfold upN; rw [hk]; rfl⟩
        have HLn := Aside0.mk (HLen.out hk rfl)
        have HKn := Aside0.mk hk
        have hk0 : w8.cell? ⟨w.heap.size, 0, none⟩ = some (.int .i64 1) := by rw [← hk]; exact k0
        have hnode : Value.agg #[.int .i64 n.kind, .slice A1 n.ints.length c1, .slice A2 n.texts.length c2, .slice A3 n.kids.length c3] = .agg #[.int .i64 1, .slice A1 n.ints.length c1, .slice A2 n.texts.length c2, .slice A3 n.kids.length c3] := by rw [hk]
        have HCall := Aside0.mk (fun (wx : World) (HBa : Aside0 (Below w.heap.size w wx)) => show Calls Tryd.prog 72 #[.agg #[.int .i64 1, .slice A1 n.ints.length c1, .slice A2 n.texts.length c2, .slice A3 n.kids.length c3]] wx (RowsPost [⟨1, [], [ByteArray.empty], []⟩] wx) from hnode ▸ (up1_any n A1 c1 A2 c2 A3 c3 wx))
        have hfd := field_run 72
        clear hk k0 hnode
        go_wp2
        go_region_held3 (fun W => W.cell? ⟨w.heap.size, 0, none⟩ = some (.int .i64 1) ∧ W.cell? ⟨w.heap.size, 1, none⟩ = some (.slice A1 n.ints.length c1) ∧ W.cell? ⟨w.heap.size, 2, none⟩ = some (.slice A2 n.texts.length c2) ∧ W.cell? ⟨w.heap.size, 3, none⟩ = some (.slice A3 n.kids.length c3))
          (first
            | (go_split_ands
               refine ⟨?_, ?_, ?_, ?_⟩
               all_goals first
                 | with_reducible assumption
                 | with_reducible exact pw_cell_below hB (by assumption)
                 | (simp [*]; done)))
          (first
            | (go_at_call 38; refine (uprows_any _).mono ?_; rintro e wa ⟨b, rfl, hMF, hbb, hBa⟩; have hlk := MapF.run_lookup wa 73 hMF keyI Tryd.underlying73 (zeroU wa) (keyI_of (x := 1) (by omega) (by omega)); rw [upF_1] at hlk; replace hlk : (Instr.lookup 73 (.map (some b)) (.int .i64 1) false).run Tryd.prog wa = .ok (.agg #[.func (.func 72) #[] #[]]) wa := hlk; have HBa := Aside0.mk (below_step (below_drew HB8.out) hBa); have hB := hBa)
            | (go_at_call 72; refine (HCall.out wa HBa).mono ?_; rintro e wb ⟨g, cg, rfl, hSg, hBg⟩; have hB := hBg))
        have HBb := Aside0.mk (below_step HBa.out hBg)
        have HSg := Aside0.mk (show Kd.S kNode 26 wb w.heap.size (fun _ => True) (.slice (some ⟨g, 0, none⟩) 1 cg) [⟨1, [], [ByteArray.empty], []⟩] from by obtain ⟨f, hf⟩ := hSg; exact ⟨f, Kd.R_lower hf HBa.out.size⟩)
        have k3b := pw_cell_below hBg (pw_cell_below hBa (show w8.drew.cell? _ = _ from k3))
        have hgw := Kd.S_lt HSg.out g rfl
        clear k1 k2 k3 hk0 hfd hSg hBg hBa hMF hbb hlk
        go_wp2_with fail
        refine (clone_int A3 c3 n.kids _ (Kd.C_below HN.out.k HBb.out) (Nat.le_trans HS.out.2.2 (by omega))).mono ?_
        rintro e wc ⟨B3, d3, rfl, hR3, hBc⟩
        have HBc := Aside0.mk (below_step HBb.out hBc)
        obtain ⟨⟨x, hx⟩, hfx, hgb, hS3⟩ := S_kids HSg.out hBc hR3 0 (by decide) HBb.out.size
        replace hx : wc.cell? ⟨g, 3, none⟩ = some x := hx
        replace hfx : wc.frozen? ⟨g, 3, none⟩ = false := hfx
        have HS3 := Aside0.mk hS3
        have HG := Aside0.mk hgb
        clear hS3 hR3 hBc k3b hgw hgb
        go_wp2
        clear hx hfx
        go_ret2
        exact ⟨some ⟨g, 0, none⟩, cg, by rw [HE.out, HUN.out]; rfl, by rw [HE.out, HUN.out]; exact HS3.out, below_set HBc.out HG.out⟩
      · have HUN : Aside0 (upN n = ([⟨2, n.ints.take 3, [], [0]⟩, ⟨8, [rd n.ints 3, rd n.ints 3, rd n.ints 3], [], []⟩] : List Node).set 1 ⟨(nd [⟨2, n.ints.take 3, [], [0]⟩, ⟨8, [rd n.ints 3, rd n.ints 3, rd n.ints 3], [], []⟩] 1).kind, (nd [⟨2, n.ints.take 3, [], [0]⟩, ⟨8, [rd n.ints 3, rd n.ints 3, rd n.ints 3], [], []⟩] 1).ints, (nd [⟨2, n.ints.take 3, [], [0]⟩, ⟨8, [rd n.ints 3, rd n.ints 3, rd n.ints 3], [], []⟩] 1).texts, n.kids⟩) := ⟨by unfold upN; rw [hk]; rfl⟩
        have HLn := Aside0.mk (HLen.out hk rfl)
        have HKn := Aside0.mk hk
        have hk0 : w8.cell? ⟨w.heap.size, 0, none⟩ = some (.int .i64 2) := by rw [← hk]; exact k0
        have hnode : Value.agg #[.int .i64 n.kind, .slice A1 n.ints.length c1, .slice A2 n.texts.length c2, .slice A3 n.kids.length c3] = .agg #[.int .i64 2, .slice A1 n.ints.length c1, .slice A2 n.texts.length c2, .slice A3 n.kids.length c3] := by rw [hk]
        have HCall := Aside0.mk (fun (wx : World) (HBa : Aside0 (Below w.heap.size w wx)) => show Calls Tryd.prog 73 #[.agg #[.int .i64 2, .slice A1 n.ints.length c1, .slice A2 n.texts.length c2, .slice A3 n.kids.length c3]] wx (RowsPost [⟨2, n.ints.take 3, [], [0]⟩, ⟨8, [rd n.ints 3, rd n.ints 3, rd n.ints 3], [], []⟩] wx) from hnode ▸ (up2_any n A1 c1 A2 c2 A3 c3 wx (HN.out.below HBa.out) (HLn.out.1)))
        have hfd := field_run 73
        clear hk k0 hnode
        go_wp2
        go_region_held3 (fun W => W.cell? ⟨w.heap.size, 0, none⟩ = some (.int .i64 2) ∧ W.cell? ⟨w.heap.size, 1, none⟩ = some (.slice A1 n.ints.length c1) ∧ W.cell? ⟨w.heap.size, 2, none⟩ = some (.slice A2 n.texts.length c2) ∧ W.cell? ⟨w.heap.size, 3, none⟩ = some (.slice A3 n.kids.length c3))
          (first
            | (go_split_ands
               refine ⟨?_, ?_, ?_, ?_⟩
               all_goals first
                 | with_reducible assumption
                 | with_reducible exact pw_cell_below hB (by assumption)
                 | (simp [*]; done)))
          (first
            | (go_at_call 38; refine (uprows_any _).mono ?_; rintro e wa ⟨b, rfl, hMF, hbb, hBa⟩; have hlk := MapF.run_lookup wa 73 hMF keyI Tryd.underlying73 (zeroU wa) (keyI_of (x := 2) (by omega) (by omega)); rw [upF_2] at hlk; replace hlk : (Instr.lookup 73 (.map (some b)) (.int .i64 2) false).run Tryd.prog wa = .ok (.agg #[.func (.func 73) #[] #[]]) wa := hlk; have HBa := Aside0.mk (below_step (below_drew HB8.out) hBa); have hB := hBa)
            | (go_at_call 73; refine (HCall.out wa HBa).mono ?_; rintro e wb ⟨g, cg, rfl, hSg, hBg⟩; have hB := hBg))
        have HBb := Aside0.mk (below_step HBa.out hBg)
        have HSg := Aside0.mk (show Kd.S kNode 26 wb w.heap.size (fun _ => True) (.slice (some ⟨g, 0, none⟩) 2 cg) [⟨2, n.ints.take 3, [], [0]⟩, ⟨8, [rd n.ints 3, rd n.ints 3, rd n.ints 3], [], []⟩] from by obtain ⟨f, hf⟩ := hSg; exact ⟨f, Kd.R_lower hf HBa.out.size⟩)
        have k3b := pw_cell_below hBg (pw_cell_below hBa (show w8.drew.cell? _ = _ from k3))
        have hgw := Kd.S_lt HSg.out g rfl
        clear k1 k2 k3 hk0 hfd hSg hBg hBa hMF hbb hlk
        go_wp2_with fail
        refine (clone_int A3 c3 n.kids _ (Kd.C_below HN.out.k HBb.out) (Nat.le_trans HS.out.2.2 (by omega))).mono ?_
        rintro e wc ⟨B3, d3, rfl, hR3, hBc⟩
        have HBc := Aside0.mk (below_step HBb.out hBc)
        obtain ⟨⟨x, hx⟩, hfx, hgb, hS3⟩ := S_kids HSg.out hBc hR3 1 (by decide) HBb.out.size
        replace hx : wc.cell? ⟨g, 7, none⟩ = some x := hx
        replace hfx : wc.frozen? ⟨g, 7, none⟩ = false := hfx
        have HS3 := Aside0.mk hS3
        have HG := Aside0.mk hgb
        clear hS3 hR3 hBc k3b hgw hgb
        go_wp2
        clear hx hfx
        go_ret2
        exact ⟨some ⟨g, 0, none⟩, cg, by rw [HE.out, HUN.out]; rfl, by rw [HE.out, HUN.out]; exact HS3.out, below_set HBc.out HG.out⟩
      · have HUN : Aside0 (upN n = ([⟨3, [rd n.ints 0, rd n.ints 0, rd n.ints 0], n.texts, []⟩] : List Node).set 0 ⟨(nd [⟨3, [rd n.ints 0, rd n.ints 0, rd n.ints 0], n.texts, []⟩] 0).kind, (nd [⟨3, [rd n.ints 0, rd n.ints 0, rd n.ints 0], n.texts, []⟩] 0).ints, (nd [⟨3, [rd n.ints 0, rd n.ints 0, rd n.ints 0], n.texts, []⟩] 0).texts, n.kids⟩) := ⟨by unfold upN; rw [hk]; rfl⟩
        have HLn := Aside0.mk (HLen.out hk rfl)
        have HKn := Aside0.mk hk
        have hk0 : w8.cell? ⟨w.heap.size, 0, none⟩ = some (.int .i64 3) := by rw [← hk]; exact k0
        have hnode : Value.agg #[.int .i64 n.kind, .slice A1 n.ints.length c1, .slice A2 n.texts.length c2, .slice A3 n.kids.length c3] = .agg #[.int .i64 3, .slice A1 n.ints.length c1, .slice A2 n.texts.length c2, .slice A3 n.kids.length c3] := by rw [hk]
        have HCall := Aside0.mk (fun (wx : World) (HBa : Aside0 (Below w.heap.size w wx)) => show Calls Tryd.prog 76 #[.agg #[.int .i64 3, .slice A1 n.ints.length c1, .slice A2 n.texts.length c2, .slice A3 n.kids.length c3]] wx (RowsPost [⟨3, [rd n.ints 0, rd n.ints 0, rd n.ints 0], n.texts, []⟩] wx) from hnode ▸ (up3_any n A1 c1 A2 c2 A3 c3 wx (HN.out.below HBa.out) HS.out (pos1 HLn.out.1 (by decide))))
        have hfd := field_run 76
        clear hk k0 hnode
        go_wp2
        go_region_held3 (fun W => W.cell? ⟨w.heap.size, 0, none⟩ = some (.int .i64 3) ∧ W.cell? ⟨w.heap.size, 1, none⟩ = some (.slice A1 n.ints.length c1) ∧ W.cell? ⟨w.heap.size, 2, none⟩ = some (.slice A2 n.texts.length c2) ∧ W.cell? ⟨w.heap.size, 3, none⟩ = some (.slice A3 n.kids.length c3))
          (first
            | (go_split_ands
               refine ⟨?_, ?_, ?_, ?_⟩
               all_goals first
                 | with_reducible assumption
                 | with_reducible exact pw_cell_below hB (by assumption)
                 | (simp [*]; done)))
          (first
            | (go_at_call 38; refine (uprows_any _).mono ?_; rintro e wa ⟨b, rfl, hMF, hbb, hBa⟩; have hlk := MapF.run_lookup wa 73 hMF keyI Tryd.underlying73 (zeroU wa) (keyI_of (x := 3) (by omega) (by omega)); rw [upF_3] at hlk; replace hlk : (Instr.lookup 73 (.map (some b)) (.int .i64 3) false).run Tryd.prog wa = .ok (.agg #[.func (.func 76) #[] #[]]) wa := hlk; have HBa := Aside0.mk (below_step (below_drew HB8.out) hBa); have hB := hBa)
            | (go_at_call 76; refine (HCall.out wa HBa).mono ?_; rintro e wb ⟨g, cg, rfl, hSg, hBg⟩; have hB := hBg))
        have HBb := Aside0.mk (below_step HBa.out hBg)
        have HSg := Aside0.mk (show Kd.S kNode 26 wb w.heap.size (fun _ => True) (.slice (some ⟨g, 0, none⟩) 1 cg) [⟨3, [rd n.ints 0, rd n.ints 0, rd n.ints 0], n.texts, []⟩] from by obtain ⟨f, hf⟩ := hSg; exact ⟨f, Kd.R_lower hf HBa.out.size⟩)
        have k3b := pw_cell_below hBg (pw_cell_below hBa (show w8.drew.cell? _ = _ from k3))
        have hgw := Kd.S_lt HSg.out g rfl
        clear k1 k2 k3 hk0 hfd hSg hBg hBa hMF hbb hlk
        go_wp2_with fail
        refine (clone_int A3 c3 n.kids _ (Kd.C_below HN.out.k HBb.out) (Nat.le_trans HS.out.2.2 (by omega))).mono ?_
        rintro e wc ⟨B3, d3, rfl, hR3, hBc⟩
        have HBc := Aside0.mk (below_step HBb.out hBc)
        obtain ⟨⟨x, hx⟩, hfx, hgb, hS3⟩ := S_kids HSg.out hBc hR3 0 (by decide) HBb.out.size
        replace hx : wc.cell? ⟨g, 3, none⟩ = some x := hx
        replace hfx : wc.frozen? ⟨g, 3, none⟩ = false := hfx
        have HS3 := Aside0.mk hS3
        have HG := Aside0.mk hgb
        clear hS3 hR3 hBc k3b hgw hgb
        go_wp2
        clear hx hfx
        go_ret2
        exact ⟨some ⟨g, 0, none⟩, cg, by rw [HE.out, HUN.out]; rfl, by rw [HE.out, HUN.out]; exact HS3.out, below_set HBc.out HG.out⟩
      · have HUN : Aside0 (upN n = ([⟨4, n.ints, n.texts, []⟩] : List Node).set 0 ⟨(nd [⟨4, n.ints, n.texts, []⟩] 0).kind, (nd [⟨4, n.ints, n.texts, []⟩] 0).ints, (nd [⟨4, n.ints, n.texts, []⟩] 0).texts, n.kids⟩) := ⟨by unfold upN; rw [hk]; rfl⟩
        have HLn := Aside0.mk (HLen.out hk rfl)
        have HKn := Aside0.mk hk
        have hk0 : w8.cell? ⟨w.heap.size, 0, none⟩ = some (.int .i64 4) := by rw [← hk]; exact k0
        have hnode : Value.agg #[.int .i64 n.kind, .slice A1 n.ints.length c1, .slice A2 n.texts.length c2, .slice A3 n.kids.length c3] = .agg #[.int .i64 4, .slice A1 n.ints.length c1, .slice A2 n.texts.length c2, .slice A3 n.kids.length c3] := by rw [hk]
        have HCall := Aside0.mk (fun (wx : World) (HBa : Aside0 (Below w.heap.size w wx)) => show Calls Tryd.prog 78 #[.agg #[.int .i64 4, .slice A1 n.ints.length c1, .slice A2 n.texts.length c2, .slice A3 n.kids.length c3]] wx (RowsPost [⟨4, n.ints, n.texts, []⟩] wx) from hnode ▸ (up4_any n A1 c1 A2 c2 A3 c3 wx (HN.out.below HBa.out) HS.out))
        have hfd := field_run 78
        clear hk k0 hnode
        go_wp2
        go_region_held3 (fun W => W.cell? ⟨w.heap.size, 0, none⟩ = some (.int .i64 4) ∧ W.cell? ⟨w.heap.size, 1, none⟩ = some (.slice A1 n.ints.length c1) ∧ W.cell? ⟨w.heap.size, 2, none⟩ = some (.slice A2 n.texts.length c2) ∧ W.cell? ⟨w.heap.size, 3, none⟩ = some (.slice A3 n.kids.length c3))
          (first
            | (go_split_ands
               refine ⟨?_, ?_, ?_, ?_⟩
               all_goals first
                 | with_reducible assumption
                 | with_reducible exact pw_cell_below hB (by assumption)
                 | (simp [*]; done)))
          (first
            | (go_at_call 38; refine (uprows_any _).mono ?_; rintro e wa ⟨b, rfl, hMF, hbb, hBa⟩; have hlk := MapF.run_lookup wa 73 hMF keyI Tryd.underlying73 (zeroU wa) (keyI_of (x := 4) (by omega) (by omega)); rw [upF_4] at hlk; replace hlk : (Instr.lookup 73 (.map (some b)) (.int .i64 4) false).run Tryd.prog wa = .ok (.agg #[.func (.func 78) #[] #[]]) wa := hlk; have HBa := Aside0.mk (below_step (below_drew HB8.out) hBa); have hB := hBa)
            | (go_at_call 78; refine (HCall.out wa HBa).mono ?_; rintro e wb ⟨g, cg, rfl, hSg, hBg⟩; have hB := hBg))
        have HBb := Aside0.mk (below_step HBa.out hBg)
        have HSg := Aside0.mk (show Kd.S kNode 26 wb w.heap.size (fun _ => True) (.slice (some ⟨g, 0, none⟩) 1 cg) [⟨4, n.ints, n.texts, []⟩] from by obtain ⟨f, hf⟩ := hSg; exact ⟨f, Kd.R_lower hf HBa.out.size⟩)
        have k3b := pw_cell_below hBg (pw_cell_below hBa (show w8.drew.cell? _ = _ from k3))
        have hgw := Kd.S_lt HSg.out g rfl
        clear k1 k2 k3 hk0 hfd hSg hBg hBa hMF hbb hlk
        go_wp2_with fail
        refine (clone_int A3 c3 n.kids _ (Kd.C_below HN.out.k HBb.out) (Nat.le_trans HS.out.2.2 (by omega))).mono ?_
        rintro e wc ⟨B3, d3, rfl, hR3, hBc⟩
        have HBc := Aside0.mk (below_step HBb.out hBc)
        obtain ⟨⟨x, hx⟩, hfx, hgb, hS3⟩ := S_kids HSg.out hBc hR3 0 (by decide) HBb.out.size
        replace hx : wc.cell? ⟨g, 3, none⟩ = some x := hx
        replace hfx : wc.frozen? ⟨g, 3, none⟩ = false := hfx
        have HS3 := Aside0.mk hS3
        have HG := Aside0.mk hgb
        clear hS3 hR3 hBc k3b hgw hgb
        go_wp2
        clear hx hfx
        go_ret2
        exact ⟨some ⟨g, 0, none⟩, cg, by rw [HE.out, HUN.out]; rfl, by rw [HE.out, HUN.out]; exact HS3.out, below_set HBc.out HG.out⟩
      · have HUN : Aside0 (upN n = ([⟨5, [65536], [str n.texts 0, ⟨#[115, 97, 110, 115]⟩], []⟩] : List Node).set 0 ⟨(nd [⟨5, [65536], [str n.texts 0, ⟨#[115, 97, 110, 115]⟩], []⟩] 0).kind, (nd [⟨5, [65536], [str n.texts 0, ⟨#[115, 97, 110, 115]⟩], []⟩] 0).ints, (nd [⟨5, [65536], [str n.texts 0, ⟨#[115, 97, 110, 115]⟩], []⟩] 0).texts, n.kids⟩) := ⟨by unfold upN; rw [hk]; rfl⟩
        have HLn := Aside0.mk (HLen.out hk rfl)
        have HKn := Aside0.mk hk
        have hk0 : w8.cell? ⟨w.heap.size, 0, none⟩ = some (.int .i64 5) := by rw [← hk]; exact k0
        have hnode : Value.agg #[.int .i64 n.kind, .slice A1 n.ints.length c1, .slice A2 n.texts.length c2, .slice A3 n.kids.length c3] = .agg #[.int .i64 5, .slice A1 n.ints.length c1, .slice A2 n.texts.length c2, .slice A3 n.kids.length c3] := by rw [hk]
        have HCall := Aside0.mk (fun (wx : World) (HBa : Aside0 (Below w.heap.size w wx)) => show Calls Tryd.prog 79 #[.agg #[.int .i64 5, .slice A1 n.ints.length c1, .slice A2 n.texts.length c2, .slice A3 n.kids.length c3]] wx (RowsPost [⟨5, [65536], [str n.texts 0, ⟨#[115, 97, 110, 115]⟩], []⟩] wx) from hnode ▸ (up5_any n A1 c1 A2 c2 A3 c3 wx (HN.out.below HBa.out) (pos5 HLn.out.2)))
        have hfd := field_run 79
        clear hk k0 hnode
        go_wp2
        go_region_held3 (fun W => W.cell? ⟨w.heap.size, 0, none⟩ = some (.int .i64 5) ∧ W.cell? ⟨w.heap.size, 1, none⟩ = some (.slice A1 n.ints.length c1) ∧ W.cell? ⟨w.heap.size, 2, none⟩ = some (.slice A2 n.texts.length c2) ∧ W.cell? ⟨w.heap.size, 3, none⟩ = some (.slice A3 n.kids.length c3))
          (first
            | (go_split_ands
               refine ⟨?_, ?_, ?_, ?_⟩
               all_goals first
                 | with_reducible assumption
                 | with_reducible exact pw_cell_below hB (by assumption)
                 | (simp [*]; done)))
          (first
            | (go_at_call 38; refine (uprows_any _).mono ?_; rintro e wa ⟨b, rfl, hMF, hbb, hBa⟩; have hlk := MapF.run_lookup wa 73 hMF keyI Tryd.underlying73 (zeroU wa) (keyI_of (x := 5) (by omega) (by omega)); rw [upF_5] at hlk; replace hlk : (Instr.lookup 73 (.map (some b)) (.int .i64 5) false).run Tryd.prog wa = .ok (.agg #[.func (.func 79) #[] #[]]) wa := hlk; have HBa := Aside0.mk (below_step (below_drew HB8.out) hBa); have hB := hBa)
            | (go_at_call 79; refine (HCall.out wa HBa).mono ?_; rintro e wb ⟨g, cg, rfl, hSg, hBg⟩; have hB := hBg))
        have HBb := Aside0.mk (below_step HBa.out hBg)
        have HSg := Aside0.mk (show Kd.S kNode 26 wb w.heap.size (fun _ => True) (.slice (some ⟨g, 0, none⟩) 1 cg) [⟨5, [65536], [str n.texts 0, ⟨#[115, 97, 110, 115]⟩], []⟩] from by obtain ⟨f, hf⟩ := hSg; exact ⟨f, Kd.R_lower hf HBa.out.size⟩)
        have k3b := pw_cell_below hBg (pw_cell_below hBa (show w8.drew.cell? _ = _ from k3))
        have hgw := Kd.S_lt HSg.out g rfl
        clear k1 k2 k3 hk0 hfd hSg hBg hBa hMF hbb hlk
        go_wp2_with fail
        refine (clone_int A3 c3 n.kids _ (Kd.C_below HN.out.k HBb.out) (Nat.le_trans HS.out.2.2 (by omega))).mono ?_
        rintro e wc ⟨B3, d3, rfl, hR3, hBc⟩
        have HBc := Aside0.mk (below_step HBb.out hBc)
        obtain ⟨⟨x, hx⟩, hfx, hgb, hS3⟩ := S_kids HSg.out hBc hR3 0 (by decide) HBb.out.size
        replace hx : wc.cell? ⟨g, 3, none⟩ = some x := hx
        replace hfx : wc.frozen? ⟨g, 3, none⟩ = false := hfx
        have HS3 := Aside0.mk hS3
        have HG := Aside0.mk hgb
        clear hS3 hR3 hBc k3b hgw hgb
        go_wp2
        clear hx hfx
        go_ret2
        exact ⟨some ⟨g, 0, none⟩, cg, by rw [HE.out, HUN.out]; rfl, by rw [HE.out, HUN.out]; exact HS3.out, below_set HBc.out HG.out⟩
      · have HUN : Aside0 (upN n = ([⟨7, [rd n.ints 0, rd n.ints 0, rd n.ints 0, 1], [], []⟩] : List Node).set 0 ⟨(nd [⟨7, [rd n.ints 0, rd n.ints 0, rd n.ints 0, 1], [], []⟩] 0).kind, (nd [⟨7, [rd n.ints 0, rd n.ints 0, rd n.ints 0, 1], [], []⟩] 0).ints, (nd [⟨7, [rd n.ints 0, rd n.ints 0, rd n.ints 0, 1], [], []⟩] 0).texts, n.kids⟩) := ⟨by unfold upN; rw [hk]; rfl⟩
        have HLn := Aside0.mk (HLen.out hk rfl)
        have HKn := Aside0.mk hk
        have hk0 : w8.cell? ⟨w.heap.size, 0, none⟩ = some (.int .i64 6) := by rw [← hk]; exact k0
        have hnode : Value.agg #[.int .i64 n.kind, .slice A1 n.ints.length c1, .slice A2 n.texts.length c2, .slice A3 n.kids.length c3] = .agg #[.int .i64 6, .slice A1 n.ints.length c1, .slice A2 n.texts.length c2, .slice A3 n.kids.length c3] := by rw [hk]
        have HCall := Aside0.mk (fun (wx : World) (HBa : Aside0 (Below w.heap.size w wx)) => show Calls Tryd.prog 80 #[.agg #[.int .i64 6, .slice A1 n.ints.length c1, .slice A2 n.texts.length c2, .slice A3 n.kids.length c3]] wx (RowsPost [⟨7, [rd n.ints 0, rd n.ints 0, rd n.ints 0, 1], [], []⟩] wx) from hnode ▸ (up6_any n A1 c1 A2 c2 A3 c3 wx (HN.out.below HBa.out) (pos1 HLn.out.1 (by decide))))
        have hfd := field_run 80
        clear hk k0 hnode
        go_wp2
        go_region_held3 (fun W => W.cell? ⟨w.heap.size, 0, none⟩ = some (.int .i64 6) ∧ W.cell? ⟨w.heap.size, 1, none⟩ = some (.slice A1 n.ints.length c1) ∧ W.cell? ⟨w.heap.size, 2, none⟩ = some (.slice A2 n.texts.length c2) ∧ W.cell? ⟨w.heap.size, 3, none⟩ = some (.slice A3 n.kids.length c3))
          (first
            | (go_split_ands
               refine ⟨?_, ?_, ?_, ?_⟩
               all_goals first
                 | with_reducible assumption
                 | with_reducible exact pw_cell_below hB (by assumption)
                 | (simp [*]; done)))
          (first
            | (go_at_call 38; refine (uprows_any _).mono ?_; rintro e wa ⟨b, rfl, hMF, hbb, hBa⟩; have hlk := MapF.run_lookup wa 73 hMF keyI Tryd.underlying73 (zeroU wa) (keyI_of (x := 6) (by omega) (by omega)); rw [upF_6] at hlk; replace hlk : (Instr.lookup 73 (.map (some b)) (.int .i64 6) false).run Tryd.prog wa = .ok (.agg #[.func (.func 80) #[] #[]]) wa := hlk; have HBa := Aside0.mk (below_step (below_drew HB8.out) hBa); have hB := hBa)
            | (go_at_call 80; refine (HCall.out wa HBa).mono ?_; rintro e wb ⟨g, cg, rfl, hSg, hBg⟩; have hB := hBg))
        have HBb := Aside0.mk (below_step HBa.out hBg)
        have HSg := Aside0.mk (show Kd.S kNode 26 wb w.heap.size (fun _ => True) (.slice (some ⟨g, 0, none⟩) 1 cg) [⟨7, [rd n.ints 0, rd n.ints 0, rd n.ints 0, 1], [], []⟩] from by obtain ⟨f, hf⟩ := hSg; exact ⟨f, Kd.R_lower hf HBa.out.size⟩)
        have k3b := pw_cell_below hBg (pw_cell_below hBa (show w8.drew.cell? _ = _ from k3))
        have hgw := Kd.S_lt HSg.out g rfl
        clear k1 k2 k3 hk0 hfd hSg hBg hBa hMF hbb hlk
        go_wp2_with fail
        refine (clone_int A3 c3 n.kids _ (Kd.C_below HN.out.k HBb.out) (Nat.le_trans HS.out.2.2 (by omega))).mono ?_
        rintro e wc ⟨B3, d3, rfl, hR3, hBc⟩
        have HBc := Aside0.mk (below_step HBb.out hBc)
        obtain ⟨⟨x, hx⟩, hfx, hgb, hS3⟩ := S_kids HSg.out hBc hR3 0 (by decide) HBb.out.size
        replace hx : wc.cell? ⟨g, 3, none⟩ = some x := hx
        replace hfx : wc.frozen? ⟨g, 3, none⟩ = false := hfx
        have HS3 := Aside0.mk hS3
        have HG := Aside0.mk hgb
        clear hS3 hR3 hBc k3b hgw hgb
        go_wp2
        clear hx hfx
        go_ret2
        exact ⟨some ⟨g, 0, none⟩, cg, by rw [HE.out, HUN.out]; rfl, by rw [HE.out, HUN.out]; exact HS3.out, below_set HBc.out HG.out⟩
    · have HE := Aside0.mk (show upR n = ([], nodeErr n sp) from by unfold upR; rw [if_neg (by rw [HE2.out]; exact hz), HE2.out])
      have dz : (nodeErr n sp != 0) = true := by simpa using hz
      clear hz
      go_wp2
      go_ret2
      exact ⟨none, 0, by rw [HE.out]; rfl, by rw [HE.out]; exact Kd.S_nil _ _ _ _ _, HB8.out⟩
end Go.Proofs.YtglfebpgdghlfaaDoor.L
end
section
namespace Go.Proofs.YtglfebpgdghlfaaDoor.L
open Go.RowKit Go.ChangeShapes Go.WideShapes Go.Proofs.YtglfebpgdghlfaaDoorW.PrintWords Go.Proofs.YtglfebpgdghlfaaDoorW.PrintLast Go.Proofs.YtglfebpgdghlfaaDoorW.PrintMore
attribute [local go_sem] max2_int min2_int max_two min_two max_three min_three max_four min_four
section
open Classical in
theorem S_append_rows {P : Program} {ops : Array Oper} {rest : List Oper} {o : Oper} {a : Act} {Q : Exit → Act → World → Prop} {α : Type} (d : Kd α) {w0 W : World} (base : Nat) (hgd : o.guard = none) (s x : Operand) (t e : TypeId) (z : Value) (bytes : Nat)
    (ho : o.op = .call { callee := .builtin .append, args := #[s, x], argTypes := #[t, t] })
    (ht : P.underlying t = some (.slice e)) (hinfo : (P.info? e).map (fun i => (i.zero, i.size, i.bytes)) = some (some z, d.sz, bytes)) (hz : z.cells.size = d.sz) (hs0 : 0 < d.sz) (hb0 : 0 < bytes)
    (v : Value) (xs ys : List α) (A : Option Addr) (m c : Nat) (okx oky : Nat → Prop) (hs : a.eval s = v) (hx : a.eval x = .slice A m c)
    (HO : Kd.S d e W base okx v xs) (HY : Kd.S d e W base oky (.slice A m c) ys) (hap : ∀ k, oky k → ¬ okx k)
    (HB : Below base w0 W) (hbase : base ≤ W.heap.size) (hl : (xs.length + m) * bytes ≤ 140737488355328)
    (h : ∀ v1 w1, Kd.S d e w1 base (fun k => okx k ∨ oky k ∨ W.heap.size ≤ k) v1 (xs ++ ys) → Below base w0 w1 → W.grownBy w1 v.ownBlock → (v1.ownBlock = v.ownBlock ∨ ∃ b, v1.ownBlock = some b ∧ W.heap.size ≤ b) → wpList P ops Q rest (a.put o.dst v1) w1) :
    wpList P ops Q (o :: rest) a W := by
  obtain ⟨fx, hfx⟩ := HO
  obtain ⟨fy, hfy⟩ := HY
  let f' : Nat → Nat := fun k => if okx k then fx k else xs.length + fy k
  have h1 : (Kd.tag f' d).R e W base (fun k => okx k ∨ oky k ∨ W.heap.size ≤ k) v xs.zipIdx := Kd.R_mono (Kd.R_tag hfx (fun k hk _ => if_pos hk)) (fun k hk => .inl hk)
  obtain ⟨A', c', e', _, hrow⟩ := OwnRow.reads hfy.2
  rw [List.length_zipIdx] at e' hrow
  injection e' with eA em ec
  subst eA em ec
  have hrow2 : ReadsRow (fun (p : α × Nat) cs => xs.length ≤ p.2 ∧ (Kd.tag fy d).M W base oky (p.1, p.2 - xs.length) cs) (Kd.tag f' d).sz W A ys.length (ys.zipIdx xs.length) := by
    refine ⟨by simp, hrow.2.1, fun hp => ?_⟩
    obtain ⟨ad, ha, hc⟩ := hrow.2.2 hp
    refine ⟨ad, ha, fun j p hj => ?_⟩
    rw [List.getElem?_zipIdx] at hj
    obtain ⟨y, hy, rfl⟩ := Option.map_eq_some_iff.1 hj
    obtain ⟨cs, h1, h2, h3⟩ := hc j (y, j) (by rw [List.getElem?_zipIdx, hy, Nat.zero_add]; rfl)
    refine ⟨cs, h1, ⟨by show xs.length ≤ xs.length + j; omega, ?_⟩, h3⟩
    have : xs.length + j - xs.length = j := by omega
    show (Kd.tag fy d).M W base oky (y, xs.length + j - xs.length) cs
    rw [this]
    exact (Kd.tag fy d).M_mono (fun k hk => hk.1) h2
  refine Kd.R_append_rows (Kd.tag f' d) base hgd s x t e z bytes ho ht hinfo hz hs0 hb0 v xs.zipIdx (ys.zipIdx xs.length) A ys.length c (fun k => okx k ∨ oky k ∨ W.heap.size ≤ k) oky hs hx h1 hrow2 (fun p cs hp => ?_) (fun k hk => ⟨.inr (.inl hk), fun e => hap k hk (hfx.1 k e.symm)⟩) (fun k hk => .inr (.inr hk)) HB hbase (by rw [List.length_zipIdx]; exact hl) ?_
  · refine d.M_mono (fun k hk => ⟨hk.1, ?_⟩) (show d.M W base (fun k => oky k ∧ fy k = p.2 - xs.length) p.1 cs from hp.2)
    show (if okx k then fx k else xs.length + fy k) = p.2
    rw [if_neg (hap k hk.1), hk.2]
    have := hp.1
    omega
  · intro v1 w1 hr
    have e2 : xs.zipIdx ++ ys.zipIdx xs.length = (xs ++ ys).zipIdx := by rw [List.zipIdx_append, Nat.zero_add]
    rw [e2] at hr
    exact h v1 w1 ⟨f', hr⟩
end
end Go.Proofs.YtglfebpgdghlfaaDoor.L
end
section
namespace Go.Proofs.YtglfebpgdghlfaaDoor.L
open Go.RowKit Go.ChangeShapes Go.WideShapes Go.Proofs.YtglfebpgdghlfaaDoorW.PrintWords Go.Proofs.YtglfebpgdghlfaaDoorW.PrintLast Go.Proofs.YtglfebpgdghlfaaDoorW.PrintMore
attribute [local go_sem] max2_int min2_int max_two min_two max_three min_three max_four min_four
def upK (n : Node) (b : Int) (q : List Int) : List Node :=
  if n.kind = 1 then [⟨1, [], [ByteArray.empty], q⟩]
  else if n.kind = 2 then [⟨2, n.ints.take 3, [], [b]⟩, ⟨8, [rd n.ints 3, rd n.ints 3, rd n.ints 3], [], q⟩]
  else if n.kind = 3 then [⟨3, [rd n.ints 0, rd n.ints 0, rd n.ints 0], n.texts, q⟩]
  else if n.kind = 4 then [⟨4, n.ints, n.texts, q⟩]
  else if n.kind = 5 then [⟨5, [65536], [str n.texts 0, ⟨#[115, 97, 110, 115]⟩], q⟩]
  else [⟨7, [rd n.ints 0, rd n.ints 0, rd n.ints 0, 1], [], q⟩]
theorem upN_eq (n : Node) : upN n = upK n 0 n.kids := rfl
def upLen (n : Node) : Nat := if n.kind = 2 then 2 else 1
theorem upLen_pos (n : Node) : 1 ≤ upLen n := by unfold upLen; split <;> omega
theorem upLen_le (n : Node) : upLen n ≤ 2 := by unfold upLen; split <;> omega
theorem upK_len (n : Node) (b : Int) (q : List Int) : (upK n b q).length = upLen n := by
  unfold upK upLen
  by_cases h1 : n.kind = 1
  · rw [if_pos h1, if_neg (by omega)]; rfl
  · rw [if_neg h1]
    by_cases h2 : n.kind = 2
    · rw [if_pos h2, if_pos h2]; rfl
    · rw [if_neg h2, if_neg h2]
      split
      · rfl
      · split
        · rfl
        · split <;> rfl
def withKids (n : Node) (q : List Int) : Node := ⟨n.kind, n.ints, n.texts, q⟩
theorem upK_last (n : Node) (b : Int) (q q' : List Int) : (upK n b q).set (upLen n - 1) (withKids (nd (upK n b q) (upLen n - 1)) q') = upK n b q' ∧ (nd (upK n b q) (upLen n - 1)).kids = q := by
  unfold upK upLen
  by_cases h1 : n.kind = 1
  · rw [if_pos h1, if_neg (by omega), if_pos h1]; exact ⟨rfl, rfl⟩
  · rw [if_neg h1, if_neg h1]
    by_cases h2 : n.kind = 2
    · rw [if_pos h2, if_pos h2, if_pos h2]; exact ⟨rfl, rfl⟩
    · rw [if_neg h2, if_neg h2, if_neg h2]
      split
      · exact ⟨rfl, rfl⟩
      · split
        · exact ⟨rfl, rfl⟩
        · split <;> exact ⟨rfl, rfl⟩
theorem upK_first {n : Node} (h : n.kind = 2) (b b' : Int) (q : List Int) : (upK n b q).set 0 (withKids (nd (upK n b q) 0) [b']) = upK n b' q ∧ (nd (upK n b q) 0).kids = [b] := by
  unfold upK
  rw [if_neg (by omega), if_pos h, if_neg (by omega), if_pos h]
  exact ⟨rfl, rfl⟩
theorem upK_one {n : Node} (h : ¬ n.kind = 2) (b b' : Int) (q : List Int) : upK n b q = upK n b' q := by
  unfold upK
  rw [if_neg h, if_neg h]
def pos (ns : List Node) (i : Nat) : Nat := ((List.range i).map (fun p => upLen (nd ns p))).sum
theorem pos_succ (ns : List Node) (i : Nat) : pos ns (i + 1) = pos ns i + upLen (nd ns i) := by unfold pos; rw [List.range_succ, List.map_append, List.sum_append]; simp
theorem pos_mono (ns : List Node) {i j : Nat} (h : i ≤ j) : pos ns i ≤ pos ns j := by
  have : ∀ d, pos ns i ≤ pos ns (i + d) := fun d => by
    induction d with
    | zero => exact Nat.le_refl _
    | succ d ih => rw [← Nat.add_assoc, pos_succ]; omega
  have := this (j - i)
  rwa [show i + (j - i) = j by omega] at this
theorem pos_le (ns : List Node) (i : Nat) : pos ns i ≤ 2 * i := by
  induction i with
  | zero => exact Nat.le_refl _
  | succ i ih => rw [pos_succ]; have := upLen_le (nd ns i); omega
theorem pos_lt (ns : List Node) {p n : Nat} (h : p < n) : pos ns (p + 1) - 1 < pos ns n := by
  have h1 := pos_mono ns (show p + 1 ≤ n from h)
  have h2 := pos_succ ns p
  have h3 := upLen_pos (nd ns p)
  omega
def mapK (ns : List Node) (q : List Int) : List Int := q.map (fun k => (pos ns k.toNat : Int))
def mix (ns : List Node) (i j : Nat) : List Node := (List.range i).flatMap (fun p => upK (nd ns p) ((pos ns p : Int) + 1) (if p < j then mapK ns (nd ns p).kids else (nd ns p).kids))
theorem mix_succ (ns : List Node) (i j : Nat) : mix ns (i + 1) j = mix ns i j ++ upK (nd ns i) ((pos ns i : Int) + 1) (if i < j then mapK ns (nd ns i).kids else (nd ns i).kids) := by
  unfold mix
  rw [List.range_succ, List.flatMap_append]
  simp
theorem mix_len (ns : List Node) (i j : Nat) : (mix ns i j).length = pos ns i := by
  induction i with
  | zero => rfl
  | succ i ih => rw [mix_succ, List.length_append, ih, upK_len, pos_succ]
theorem mix_same (ns : List Node) {i j k : Nat} (hj : i ≤ j) (hk : i ≤ k) : mix ns i j = mix ns i k := by
  induction i with
  | zero => rfl
  | succ i ih => rw [mix_succ, mix_succ, ih (by omega) (by omega), if_pos (by omega), if_pos (by omega)]
theorem nd_append_left {a b : List Node} {i : Nat} (h : i < a.length) : nd (a ++ b) i = nd a i := by
  unfold nd
  rw [List.getD_eq_getElem?_getD, List.getD_eq_getElem?_getD, List.getElem?_append_left h]
theorem nd_append_right {a b : List Node} {i : Nat} : nd (a ++ b) (a.length + i) = nd b i := by
  unfold nd
  rw [List.getD_eq_getElem?_getD, List.getD_eq_getElem?_getD, List.getElem?_append_right (by omega)]
  simp
theorem mix_set (ns : List Node) (n p : Nat) (hp : p < n) : (nd (mix ns n p) (pos ns (p + 1) - 1)).kids = (nd ns p).kids ∧
    (mix ns n p).set (pos ns (p + 1) - 1) (withKids (nd (mix ns n p) (pos ns (p + 1) - 1)) (mapK ns (nd ns p).kids)) = mix ns n (p + 1) := by
  induction n with
  | zero => omega
  | succ n ih =>
    rw [mix_succ, mix_succ]
    by_cases e : p = n
    · subst e
      have h1 := pos_succ ns p
      have h2 := upLen_pos (nd ns p)
      have h3 := mix_len ns p p
      have e1 : pos ns (p + 1) - 1 = (mix ns p p).length + (upLen (nd ns p) - 1) := by omega
      rw [e1, nd_append_right, List.set_append_right _ _ (by omega), Nat.add_sub_cancel_left, if_neg (by omega), if_pos (by omega)]
      obtain ⟨h4, h5⟩ := upK_last (nd ns p) ((pos ns p : Int) + 1) (nd ns p).kids (mapK ns (nd ns p).kids)
      rw [h4]
      exact ⟨h5, by rw [mix_same ns (Nat.le_refl p) (Nat.le_succ p)]⟩
    · have hlt : pos ns (p + 1) - 1 < (mix ns n p).length := by rw [mix_len]; exact pos_lt ns (by omega)
      obtain ⟨h4, h5⟩ := ih (by omega)
      rw [nd_append_left hlt, List.set_append_left _ _ hlt, h5, if_neg (by omega), if_neg (by omega)]
      exact ⟨h4, rfl⟩
def upS (s : Scene) : Scene := ⟨mix s.nodes s.nodes.length s.nodes.length, (pos s.nodes s.root.toNat : Int)⟩
def fillTo (f : Nat → Int) (i n : Nat) : List Int := (List.range n).map (fun p : Nat => if p < i then f p else 0)
theorem fillTo_len (f : Nat → Int) (i n : Nat) : (fillTo f i n).length = n := by simp [fillTo]
theorem fillTo_zero (f : Nat → Int) (n : Nat) : fillTo f 0 n = List.replicate n 0 := by
  refine List.ext_getElem (by simp [fillTo]) (fun p h1 h2 => ?_)
  simp [fillTo]
theorem fillTo_rd (f : Nat → Int) (i n p : Nat) (hp : p < i) (hn : p < n) : rd (fillTo f i n) (p : Int) = f p := by
  rw [rd_eq (by rw [fillTo_len]; exact hn)]
  simp [fillTo, hp]
theorem fillTo_set (f : Nat → Int) (i n : Nat) : (fillTo f i n).set i (f i) = fillTo f (i + 1) n := by
  refine List.ext_getElem (by simp [fillTo]) (fun p h1 h2 => ?_)
  rw [List.getElem_set]
  simp only [fillTo, List.getElem_map, List.getElem_range]
  by_cases e : i = p
  · subst e; rw [if_pos rfl, if_pos (by omega)]
  · rw [if_neg e]
    by_cases h : p < i
    · rw [if_pos h, if_pos (by omega)]
    · rw [if_neg h, if_neg (by omega)]
def posI (ns : List Node) (p : Nat) : Int := (pos ns p : Int)
def lastI (ns : List Node) (p : Nat) : Int := ((pos ns (p + 1) - 1 : Nat) : Int)
def rowsL (ns : List Node) : Nat := (ns.map (fun n => n.kids.length + 1)).sum
theorem rows_eq (ns : List Node) : rows ns = rowsL ns := by
  unfold rows rowsL
  congr 1
  refine List.ext_getElem (by simp) (fun i h1 h2 => ?_)
  rw [List.length_map] at h2
  simp only [List.getElem_map, List.getElem_range]
  unfold wt nd
  rw [getD_eq _ h2]
theorem rowsL_append (a b : List Node) : rowsL (a ++ b) = rowsL a + rowsL b := by unfold rowsL; rw [List.map_append, List.sum_append]
theorem upK_rows (n : Node) (b : Int) (q : List Int) : rowsL (upK n b q) ≤ q.length + 3 := by
  unfold upK rowsL
  by_cases h1 : n.kind = 1
  · rw [if_pos h1]; simp
  · rw [if_neg h1]
    by_cases h2 : n.kind = 2
    · rw [if_pos h2]; simp; omega
    · rw [if_neg h2]
      split
      · simp
      · split
        · simp
        · split <;> simp
theorem mix_rows (ns : List Node) (j : Nat) : ∀ i, i ≤ ns.length → rowsL (mix ns i j) ≤ 3 * pre ns i
  | 0, _ => Nat.zero_le _
  | i + 1, h => by
    have h1 := mix_rows ns j i (by omega)
    have h2 := upK_rows (nd ns i) ((pos ns i : Int) + 1) (if i < j then mapK ns (nd ns i).kids else (nd ns i).kids)
    have h3 : (if i < j then mapK ns (nd ns i).kids else (nd ns i).kids).length = (nd ns i).kids.length := by
      split
      · simp [mapK]
      · rfl
    have h4 := pre_succ ns i
    rw [wt] at h4
    rw [mix_succ, rowsL_append]
    omega
theorem upS_rows (s : Scene) : rows (upS s).nodes ≤ 3 * rows s.nodes := by
  rw [rows_eq]
  exact Nat.le_trans (mix_rows _ _ _ (Nat.le_refl _)) (Nat.mul_le_mul_left 3 (pre_le (Nat.le_refl _)))
theorem upK_small {n : Node} {b : Int} {q : List Int} (hn : Small n) (hq : q.length ≤ 1000000) : ∀ x ∈ upK n b q, Small x := by
  have h1 := hn.1
  have h2 := hn.2.1
  intro x hx
  unfold upK at hx
  by_cases h1 : n.kind = 1
  · rw [if_pos h1] at hx; simp at hx; subst hx; exact ⟨by simp, by simp, hq⟩
  · rw [if_neg h1] at hx
    by_cases h2 : n.kind = 2
    · rw [if_pos h2] at hx
      simp at hx
      rcases hx with rfl | rfl
      · exact ⟨by simp; omega, by simp, by simp⟩
      · exact ⟨by simp, by simp, hq⟩
    · rw [if_neg h2] at hx
      split at hx
      · simp at hx; subst hx; exact ⟨by simp, hn.2.1, hq⟩
      · split at hx
        · simp at hx; subst hx; exact ⟨hn.1, hn.2.1, hq⟩
        · split at hx
          · simp at hx; subst hx; exact ⟨by simp, by simp, hq⟩
          · simp at hx; subst hx; exact ⟨by simp, by simp, hq⟩
theorem upS_small {s : Scene} (h : ∀ i : Nat, i < s.nodes.length → Small (nd s.nodes i)) : ∀ i : Nat, i < (upS s).nodes.length → Small (nd (upS s).nodes i) := by
  intro i hi
  have hm : nd (upS s).nodes i ∈ (upS s).nodes := by unfold nd; rw [getD_eq _ hi]; exact List.getElem_mem hi
  unfold upS mix at hm
  obtain ⟨p, hp, hx⟩ := List.mem_flatMap.1 hm
  have hp' := List.mem_range.1 hp
  refine upK_small (h p hp') ?_ _ hx
  have h2 : (mapK s.nodes (nd s.nodes p).kids).length ≤ 1000000 := by unfold mapK; rw [List.length_map]; exact (h p hp').2.2
  split
  all_goals first | exact h2 | exact (h p hp').2.2
noncomputable def upErr (s : Scene) : Int := if (typedS oldTab s.nodes).1 = 0 then (if (gcheck s).1 = 0 then (gcheck (upS s)).1 else (gcheck s).1) else (typedS oldTab s.nodes).1
noncomputable def upRes (s : Scene) : Scene := if (typedS oldTab s.nodes).1 = 0 then (if (gcheck s).1 = 0 then canonR (upS s) else ⟨[], 0⟩) else ⟨[], 0⟩
end Go.Proofs.YtglfebpgdghlfaaDoor.L
end
section
namespace Go.Proofs.YtglfebpgdghlfaaDoor.L
open Go.RowKit Go.ChangeShapes Go.WideShapes Go.Proofs.YtglfebpgdghlfaaDoorW.PrintWords Go.Proofs.YtglfebpgdghlfaaDoorW.PrintLast Go.Proofs.YtglfebpgdghlfaaDoorW.PrintMore
attribute [local go_sem] max2_int min2_int max_two min_two max_three min_three max_four min_four
theorem kid_write {W : World} {base g m c : Nat} {ok : Nat → Prop} {l : List Node} (h : Kd.S kNode 26 W base ok (.slice (some ⟨g, 0, none⟩) m c) l) (i : Nat) (hi : i < m) (j : Nat) (hj : j < (nd l i).kids.length) :
    ∃ gk ck, W.cell? ⟨g, i * 4 + 3, none⟩ = some (.slice (some ⟨gk, 0, none⟩) (nd l i).kids.length ck) ∧ ok gk ∧ gk ≠ g ∧ base ≤ gk ∧ (∃ cells, W.heap[gk]? = some (.cells cells 3 (0, 0))) ∧ W.cell? ⟨gk, j, none⟩ = some (.int .i64 (rd (nd l i).kids (j : Int))) ∧ W.frozen? ⟨gk, j, none⟩ = false ∧
      ∀ u : Int, Kd.S kNode 26 (W.setCell ⟨gk, j, none⟩ (.int .i64 u)) base ok (.slice (some ⟨g, 0, none⟩) m c) (l.set i (withKids (nd l i) ((nd l i).kids.set j u))) ∧ W.grownBy (W.setCell ⟨gk, j, none⟩ (.int .i64 u)) (some gk) := by
  obtain ⟨oki, cc, hcl, hM, hcc, hfr, hoki, hH⟩ := Kd.S_elem h nodez (i : Int) (by omega) (by omega)
  rw [Int.toNat_natCast] at hM hcc hfr
  obtain ⟨v1, v2, v3, rfl, r1, r2, r3⟩ := kNode_openM hM
  obtain ⟨gk, ck, hv3, hb, -, cells, hc⟩ := Kd.R_form r3 (by show 0 < (nd l i).kids.length; omega)
  subst hv3
  have hko := r3.1 gk rfl
  obtain ⟨c1, c2⟩ := ints_cell r3 j hj
  refine ⟨gk, ck, hcc 3 _ rfl, (hoki gk hko).1, (hoki gk hko).2, hb, ⟨cells, hc⟩, c1, c2, fun u => ?_⟩
  obtain ⟨s1, s2, _⟩ := ints_store r3 j hj u
  refine ⟨?_, s2⟩
  have s1' : (Kd.int .i64).R 3 (W.setCell ⟨gk, j, none⟩ (.int .i64 u)) base oki (.slice (some ⟨gk, 0, none⟩) (nd l i).kids.length ck) ((nd l i).kids.set j u) := s1
  have hb2 := Kd.H_back (Kd.H_grown hH s2 (fun k hk => by injection hk with hk; rw [← hk]; exact hko)) (x' := withKids (nd l i) ((nd l i).kids.set j u)) (okp := oki)
    (kNode_mkM (Kd.R_grown1 r1 rfl s2 (Kd.R_ne r1 hc (by decide))) (Kd.R_grown1 r2 rfl s2 (Kd.R_ne r2 hc (by decide))) s1') (fun _ h => h)
  rw [Int.toNat_natCast] at hb2
  exact hb2
theorem kids_read {W : World} {base g m c : Nat} {ok : Nat → Prop} {l : List Node} (h : Kd.S kNode 26 W base ok (.slice (some ⟨g, 0, none⟩) m c) l) (i : Nat) (hi : i < m) :
    ∃ A3 c3, W.cell? ⟨g, i * 4 + 3, none⟩ = some (.slice A3 (nd l i).kids.length c3) ∧ (Kd.int .i64).C W A3 (nd l i).kids.length (nd l i).kids := by
  obtain ⟨oki, cc, hcl, hM, hcc, hfr, hoki, hH⟩ := Kd.S_elem h nodez (i : Int) (by omega) (by omega)
  rw [Int.toNat_natCast] at hM hcc hfr
  obtain ⟨v1, v2, v3, rfl, r1, r2, r3⟩ := kNode_openM hM
  obtain ⟨A3, c3, hv3⟩ := Kd.R_slice r3
  subst hv3
  exact ⟨A3, c3, hcc 3 _ rfl, (Kd.R_reads' r3).2.2⟩
theorem below_of_grown {W W1 : World} (h : W.grownBy W1 none) : Below W.heap.size W W1 := ⟨h.os, h.tape, h.output, h.size, fun k hk => h.block k hk (by simp)⟩
structure Up1 (s : Scene) (A : Option Addr) (c : Nat) (w : World) (b8 g9 c9 g10 c10 : Nat) (v : Value) (i j k : Nat) (W : World) : Prop where
  box : W.heap[b8]? = some (.cells #[v, .int .i64 0] 39 (0, 0))
  nodes : Kd.S kNode 26 W w.heap.size (fun k => k ≠ g9 ∧ k ≠ g10) v (mix s.nodes i 0)
  up : (Kd.int .i64).R 3 W w.heap.size (fun k => k ≠ g10) (.slice (some ⟨g9, 0, none⟩) s.nodes.length c9) (fillTo (posI s.nodes) j s.nodes.length)
  la : (Kd.int .i64).R 3 W w.heap.size (fun _ => True) (.slice (some ⟨g10, 0, none⟩) s.nodes.length c10) (fillTo (lastI s.nodes) k s.nodes.length)
  src : W.heap[w.heap.size]? = some (.cells #[.slice A s.nodes.length c, .int .i64 s.root] 39 (0, 0))
  res : W.heap[w.heap.size + 1]? = some (.cells #[.slice none 0 0, .int .i64 0] 39 (0, 0))
  b0 : w.heap.size + 1 < b8
  below : Below w.heap.size w W
theorem S_type {α : Type} {d : Kd α} {e base : Nat} {ok : Nat → Prop} {W : World} {v : Value} {xs : List α} {g : Nat} {cells : Array Value} {T : TypeId} (h : Kd.S d e W base ok v xs) (hb : W.heap[g]? = some (.cells cells T (0, 0))) (hT : ¬ T ∈ e :: d.E) (u : Value) (i : Nat) : Kd.S d e (W.setCell ⟨g, i, none⟩ u) base ok v xs :=
  Kd.S_mono (Kd.S_grown (Kd.S_bound h) (set_grown W g i u) (fun k hk he => by
    injection he with he
    obtain ⟨_, _, _, q, hq, cs, hc⟩ := hk
    subst he
    rw [hb] at hc
    injection hc with hc
    injection hc with _ hc
    subst hc
    exact hT hq)) (fun _ hk => hk.1)
section
variable {s : Scene} {A : Option Addr} {c : Nat} {w : World} {b8 g9 c9 g10 c10 : Nat} {v : Value} {i j k : Nat} {W W1 : World}
theorem Up1.later (h : Up1 s A c w b8 g9 c9 g10 c10 v i j k W) (hb : Below W.heap.size W W1) : Up1 s A c w b8 g9 c9 g10 c10 v i j k W1 :=
  ⟨(hb.block _ (blk_lt h.box)).trans h.box, Kd.S_below h.nodes hb, Kd.R_below h.up hb, Kd.R_below h.la hb, (hb.block _ (blk_lt h.src)).trans h.src, (hb.block _ (blk_lt h.res)).trans h.res, h.b0, below_step h.below hb⟩
theorem Up1.ne (h : Up1 s A c w b8 g9 c9 g10 c10 v i j k W) : g9 ≠ g10 := h.up.1 g9 rfl
theorem Up1.lt9 (h : Up1 s A c w b8 g9 c9 g10 c10 v i j k W) : g9 < W.heap.size := Kd.R_lt h.up g9 rfl
theorem Up1.lt10 (h : Up1 s A c w b8 g9 c9 g10 c10 v i j k W) : g10 < W.heap.size := Kd.R_lt h.la g10 rfl
theorem scene_ne {b g : Nat} {x y : Value} {cells : Array Value} {T : TypeId} (hx : W.heap[b]? = some (.cells #[x, y] 39 (0, 0))) (hc : W.heap[g]? = some (.cells cells T (0, 0))) (hT : T ≠ 39) : some b ≠ some g := fun he => by
  injection he with he
  rw [← he, hx] at hc
  injection hc with hc
  injection hc with _ hc
  exact hT hc.symm
theorem Up1.upper (h : Up1 s A c w b8 g9 c9 g10 c10 v i j k W) (hj : j < s.nodes.length) :
    (∃ x, W.cell? ⟨g9, j, none⟩ = some x) ∧ W.frozen? ⟨g9, j, none⟩ = false ∧ Up1 s A c w b8 g9 c9 g10 c10 v i (j + 1) k (W.setCell ⟨g9, j, none⟩ (.int .i64 (pos s.nodes j : Int))) ∧ W.grownBy (W.setCell ⟨g9, j, none⟩ (.int .i64 (pos s.nodes j : Int))) (some g9) := by
  obtain ⟨c1, c2⟩ := ints_cell h.up j hj
  obtain ⟨s1, s2, s3⟩ := ints_store h.up j hj (pos s.nodes j : Int)
  have e : (fillTo (posI s.nodes) j s.nodes.length).set j (pos s.nodes j : Int) = fillTo (posI s.nodes) (j + 1) s.nodes.length := fillTo_set (posI s.nodes) j s.nodes.length
  rw [e] at s1
  obtain ⟨cells, hc⟩ := Kd.R_typed h.up g9 rfl
  exact ⟨⟨_, c1⟩, c2, ⟨blk_grown h.box s2 (scene_ne h.box hc (by decide)), Kd.S_far (p := ⟨g9, j, none⟩) h.nodes (fun k hk => hk.1) _, s1, Kd.R_grown1 h.la rfl s2 (fun e => h.ne (by simpa [Value.ownBlock] using e)), blk_grown h.src s2 (scene_ne h.src hc (by decide)), blk_grown h.res s2 (scene_ne h.res hc (by decide)), h.b0, below_set h.below s3⟩, s2⟩
theorem Up1.lower (h : Up1 s A c w b8 g9 c9 g10 c10 v i j k W) (hk : k < s.nodes.length) :
    (∃ x, W.cell? ⟨g10, k, none⟩ = some x) ∧ W.frozen? ⟨g10, k, none⟩ = false ∧ Up1 s A c w b8 g9 c9 g10 c10 v i j (k + 1) (W.setCell ⟨g10, k, none⟩ (.int .i64 ((pos s.nodes (k + 1) - 1 : Nat) : Int))) := by
  obtain ⟨c1, c2⟩ := ints_cell h.la k hk
  obtain ⟨s1, s2, s3⟩ := ints_store h.la k hk ((pos s.nodes (k + 1) - 1 : Nat) : Int)
  have e : (fillTo (lastI s.nodes) k s.nodes.length).set k ((pos s.nodes (k + 1) - 1 : Nat) : Int) = fillTo (lastI s.nodes) (k + 1) s.nodes.length := fillTo_set (lastI s.nodes) k s.nodes.length
  rw [e] at s1
  obtain ⟨cells, hc⟩ := Kd.R_typed h.la g10 rfl
  exact ⟨⟨_, c1⟩, c2, ⟨blk_grown h.box s2 (scene_ne h.box hc (by decide)), Kd.S_far (p := ⟨g10, k, none⟩) h.nodes (fun k hk => hk.2) _, Kd.R_far (p := ⟨g10, k, none⟩) h.up (fun k hk => hk) _, s1, blk_grown h.src s2 (scene_ne h.src hc (by decide)), blk_grown h.res s2 (scene_ne h.res hc (by decide)), h.b0, below_set h.below s3⟩⟩
theorem Up1.push (h : Up1 s A c w b8 g9 c9 g10 c10 v i j k W) {B : Nat} (h9 : g9 < B) (h10 : g10 < B) {v1 : Value} (hS : Kd.S kNode 26 W1 w.heap.size (fun k => (k ≠ g9 ∧ k ≠ g10) ∨ B ≤ k ∨ W.heap.size ≤ k) v1 (mix s.nodes (i + 1) 0)) (hB : Below w.heap.size w W1) (hg : W.grownBy W1 v.ownBlock) :
    (∃ x, W1.cell? ⟨b8, 0, none⟩ = some x) ∧ W1.frozen? ⟨b8, 0, none⟩ = false ∧ Up1 s A c w b8 g9 c9 g10 c10 v1 (i + 1) j k (W1.setCell ⟨b8, 0, none⟩ v1) := by
  have hnv := (Kd.S_R h.nodes).1
  have hty := Kd.S_typed h.nodes
  have hne : ∀ b x y, W.heap[b]? = some (.cells #[x, y] 39 (0, 0)) → some b ≠ v.ownBlock := fun b x y hx he => by
    obtain ⟨cells, hc⟩ := hty b he.symm
    exact scene_ne hx hc (by decide) rfl
  have hbx := blk_grown h.box hg (hne _ _ _ h.box)
  have h9s := h.lt9
  have h10s := h.lt10
  have hup := Kd.R_mono (Kd.R_grown1 h.up rfl hg (fun e => (hnv g9 e).1 rfl)) (fun _ hk => hk)
  have hla := Kd.R_grown1 h.la rfl hg (fun e => (hnv g10 e).2 rfl)
  have hS' : Kd.S kNode 26 W1 w.heap.size (fun k => k ≠ g9 ∧ k ≠ g10) v1 (mix s.nodes (i + 1) 0) := Kd.S_mono hS (fun k hk => by
    rcases hk with hk | hk | hk
    · exact hk
    · exact ⟨by omega, by omega⟩
    · exact ⟨by omega, by omega⟩)
  have hb8 := h.b0
  refine ⟨⟨_, (blk_cell hbx 0).trans rfl⟩, blk_frozen hbx 0, ⟨?_, S_type hS' hbx (by decide) _ _, R_type hup hbx (by decide) _ _, R_type hla hbx (by decide) _ _, ?_, ?_, h.b0, below_set hB (by omega)⟩⟩
  · have := blk_set hbx 0 v1
    simpa using this
  · rw [Below.heap_setCell _ _ _ _ (by show w.heap.size ≠ b8; omega)]
    exact blk_grown h.src hg (hne _ _ _ h.src)
  · rw [Below.heap_setCell _ _ _ _ (by show w.heap.size + 1 ≠ b8; omega)]
    exact blk_grown h.res hg (hne _ _ _ h.res)
end
structure UpL (s : Scene) (w : World) (B gl cl i j : Nat) (W : World) : Prop where
  row : Kd.S kNode 26 W w.heap.size (fun k => B ≤ k) (.slice (some ⟨gl, 0, none⟩) (upLen (nd s.nodes i)) cl) (upK (nd s.nodes i) (if j = 0 then 0 else (pos s.nodes i : Int) + 1) (nd s.nodes i).kids)
  jl : j ≤ upLen (nd s.nodes i) - 1
theorem UpL.done {s : Scene} {w : World} {B gl cl i : Nat} {W : World} (h : UpL s w B gl cl i (upLen (nd s.nodes i) - 1) W) : Kd.S kNode 26 W w.heap.size (fun k => B ≤ k) (.slice (some ⟨gl, 0, none⟩) (upLen (nd s.nodes i)) cl) (upK (nd s.nodes i) ((pos s.nodes i : Int) + 1) (nd s.nodes i).kids) := by
  have hr := h.row
  by_cases h2 : (nd s.nodes i).kind = 2
  · have : upLen (nd s.nodes i) = 2 := by unfold upLen; rw [if_pos h2]
    rw [this] at hr ⊢
    exact hr
  · rw [upK_one h2 _ ((pos s.nodes i : Int) + 1)] at hr
    exact hr
theorem grown_trans {W W1 W2 : World} {g g' : Nat} (h1 : W.grownBy W1 (some g)) (h2 : W1.grownBy W2 (some g')) (hg : W.heap.size ≤ g') : W.grownBy W2 (some g) :=
  ⟨h2.os.trans h1.os, h2.tape.trans h1.tape, h2.output.trans h1.output, Nat.le_trans h1.size h2.size, fun k hk hne => (h2.block k (Nat.lt_of_lt_of_le hk h1.size) (fun e => by injection e with e; omega)).trans (h1.block k hk hne)⟩
theorem grown_below {W W1 W2 : World} {g : Nat} (h1 : Below W.heap.size W W1) (h2 : W1.grownBy W2 (some g)) : W.grownBy W2 (some g) :=
  ⟨h2.os.trans h1.os, h2.tape.trans h1.tape, h2.output.trans h1.output, Nat.le_trans h1.size h2.size, fun k hk hne => (h2.block k (Nat.lt_of_lt_of_le hk h1.size) hne).trans (h1.block k hk)⟩
structure UpI (s : Scene) (w wr : World) (B gl cl g9 c9 g10 i j : Nat) (W : World) : Prop where
  grown : wr.grownBy W (some g9)
  up : (Kd.int .i64).R 3 W w.heap.size (fun k => k ≠ g10) (.slice (some ⟨g9, 0, none⟩) s.nodes.length c9) (fillTo (posI s.nodes) (i + 1) s.nodes.length)
  l : UpL s w B gl cl i j W
  hB : wr.heap.size ≤ B
theorem UpL.step {s : Scene} {w : World} {B gl cl i j : Nat} {W : World} (h : UpL s w B gl cl i j W) (hj : j < upLen (nd s.nodes i) - 1) : j = 0 ∧ upLen (nd s.nodes i) = 2 ∧
    ∃ gk ck, W.cell? ⟨gl, 3, none⟩ = some (.slice (some ⟨gk, 0, none⟩) 1 ck) ∧ B ≤ gk ∧ (∃ x, W.cell? ⟨gk, 0, none⟩ = some x) ∧ W.frozen? ⟨gk, 0, none⟩ = false ∧
      UpL s w B gl cl i (j + 1) (W.setCell ⟨gk, 0, none⟩ (.int .i64 ((pos s.nodes i : Int) + 1))) ∧ W.grownBy (W.setCell ⟨gk, 0, none⟩ (.int .i64 ((pos s.nodes i : Int) + 1))) (some gk) := by
  have h2 : (nd s.nodes i).kind = 2 := Classical.byContradiction fun hn => by
    have : upLen (nd s.nodes i) = 1 := by unfold upLen; rw [if_neg hn]
    omega
  have hl : upLen (nd s.nodes i) = 2 := by unfold upLen; rw [if_pos h2]
  obtain rfl : j = 0 := by omega
  have hr := h.row
  rw [if_pos rfl, hl] at hr
  obtain ⟨u1, u2⟩ := upK_first h2 0 ((pos s.nodes i : Int) + 1) (nd s.nodes i).kids
  obtain ⟨gk, ck, k1, k2, k3, k4, _, k5, k6, k7⟩ := kid_write hr 0 (by omega) 0 (by rw [u2]; decide)
  obtain ⟨s1, s2⟩ := k7 ((pos s.nodes i : Int) + 1)
  rw [u2] at k1 s1
  have e : ([(0 : Int)].set 0 ((pos s.nodes i : Int) + 1)) = [(pos s.nodes i : Int) + 1] := rfl
  rw [e, u1] at s1
  refine ⟨rfl, hl, gk, ck, k1, k2, ⟨_, k5⟩, k6, ⟨?_, by omega⟩, s2⟩
  rw [if_neg (by omega), hl]
  exact s1
theorem UpI.step {s : Scene} {w wr : World} {B gl cl g9 c9 g10 i j : Nat} {W : World} (h : UpI s w wr B gl cl g9 c9 g10 i j W) (h9 : g9 < B) (hj : j < upLen (nd s.nodes i) - 1) : j = 0 ∧ upLen (nd s.nodes i) = 2 ∧
    ∃ gk ck, W.cell? ⟨gl, 3, none⟩ = some (.slice (some ⟨gk, 0, none⟩) 1 ck) ∧ wr.heap.size ≤ gk ∧ (∃ x, W.cell? ⟨gk, 0, none⟩ = some x) ∧ W.frozen? ⟨gk, 0, none⟩ = false ∧
      UpI s w wr B gl cl g9 c9 g10 i (j + 1) (W.setCell ⟨gk, 0, none⟩ (.int .i64 ((pos s.nodes i : Int) + 1))) := by
  obtain ⟨e1, e2, gk, ck, k1, k2, k3, k4, k5, k6⟩ := h.l.step hj
  have hB := h.hB
  have hne : some gk ≠ (Value.slice (some ⟨g9, 0, none⟩) s.nodes.length c9).ownBlock := fun e => by
    have e3 : gk = g9 := by simpa [Value.ownBlock] using e
    omega
  exact ⟨e1, e2, gk, ck, k1, by omega, k3, k4, ⟨grown_trans h.grown k6 (by omega), Kd.R_grown1 h.up rfl k6 hne, k5, h.hB⟩⟩
section
variable {s : Scene} {A : Option Addr} {c : Nat} {w : World} {b8 g9 c9 g10 c10 : Nat} {v : Value} {i j k : Nat} {W W1 : World}
theorem Up1.into (h : Up1 s A c w b8 g9 c9 g10 c10 v i i k W) (hg : W.grownBy W1 (some g9)) (hu : (Kd.int .i64).R 3 W1 w.heap.size (fun k => k ≠ g10) (.slice (some ⟨g9, 0, none⟩) s.nodes.length c9) (fillTo (posI s.nodes) (i + 1) s.nodes.length)) : Up1 s A c w b8 g9 c9 g10 c10 v i (i + 1) k W1 := by
  obtain ⟨cells, hc⟩ := Kd.R_typed h.up g9 rfl
  have h9 := Kd.R_base h.up g9 rfl
  exact ⟨blk_grown h.box hg (scene_ne h.box hc (by decide)), Kd.S_grown h.nodes hg (fun k hk e => by injection e with e; exact hk.1 e), hu, Kd.R_grown1 h.la rfl hg (fun e => h.ne (by simpa [Value.ownBlock] using e)), blk_grown h.src hg (scene_ne h.src hc (by decide)), blk_grown h.res hg (scene_ne h.res hc (by decide)), h.b0, h.below.grown hg h.below.size (fun q hq => by injection hq with hq; omega)⟩
theorem Up1.elder (h : Up1 s A c w b8 g9 c9 g10 c10 v i j k W) (hg : W.grownBy W1 (some g9)) : Kd.S kNode 26 W1 w.heap.size (fun k => (k ≠ g9 ∧ k ≠ g10) ∧ k < W.heap.size) v (mix s.nodes i 0) :=
  Kd.S_grown (Kd.S_mono (Kd.S_bound h.nodes) (fun k hk => ⟨hk.1, hk.2.2.1⟩)) hg (fun k hk e => by injection e with e; exact hk.1.1 e)
end
theorem upnode_ok (n : Node) (A1 : Option Addr) (c1 : Nat) (A2 : Option Addr) (c2 : Nat) (A3 : Option Addr) (c3 : Nat) (w : World) (h : NodeC w n A1 c1 A2 c2 A3 c3) (hs : Small n) (hts : TextsSmall n) (hT : Tabs w) (hz : nodeT oldTab n = 0) :
    Calls Tryd.prog 14 #[.agg #[.int .i64 n.kind, .slice A1 n.ints.length c1, .slice A2 n.texts.length c2, .slice A3 n.kids.length c3]] w fun e w' =>
      ∃ gl cl, e = .returned (.tuple #[.slice (some ⟨gl, 0, none⟩) (upLen n) cl, .int .i64 0]) ∧ Kd.S kNode 26 w' w.heap.size (fun _ => True) (.slice (some ⟨gl, 0, none⟩) (upLen n) cl) (upK n 0 n.kids) ∧ Below w.heap.size w w' := by
  refine (upnode_any n A1 c1 A2 c2 A3 c3 w h hs hts hT).mono ?_
  have hr : upR n = (upK n 0 n.kids, 0) := by unfold upR; rw [if_pos hz, upN_eq]
  rw [hr]
  rintro e w' ⟨A, c, rfl, hS, hB⟩
  have hl : (upK n 0 n.kids).length = upLen n := upK_len _ _ _
  have hS' : Kd.S kNode 26 w' w.heap.size (fun _ => True) (.slice A (upK n 0 n.kids).length c) (upK n 0 n.kids) := hS
  obtain ⟨g, cap, hv, -⟩ := Kd.S_form hS' (by rw [hl]; exact upLen_pos n)
  injection hv with hA _ hc
  subst hA hc
  rw [hl] at hS'
  exact ⟨g, c, by show Ending.returned (.tuple #[.slice _ (upK n 0 n.kids).length _, _]) = _; rw [hl], hS', hB⟩

theorem UpI.drew {s : Scene} {w wr : World} {B gl cl g9 c9 g10 i j : Nat} {W : World} (h : UpI s w wr B gl cl g9 c9 g10 i j W) : UpI s w wr B gl cl g9 c9 g10 i j W.drew :=
  ⟨⟨h.grown.os, h.grown.tape, h.grown.output, h.grown.size, h.grown.block⟩, Kd.R_drew h.up, ⟨Kd.S_drew h.l.row, h.l.jl⟩, h.hB⟩
end Go.Proofs.YtglfebpgdghlfaaDoor.L
end
section
namespace Go.Proofs.YtglfebpgdghlfaaDoor.L
open Go.RowKit Go.ChangeShapes Go.WideShapes Go.Proofs.YtglfebpgdghlfaaDoorW.PrintWords Go.Proofs.YtglfebpgdghlfaaDoorW.PrintLast Go.Proofs.YtglfebpgdghlfaaDoorW.PrintMore
attribute [local go_sem] max2_int min2_int max_two min_two max_three min_three max_four min_four
structure Up3 (s : Scene) (A : Option Addr) (c : Nat) (w : World) (b8 g9 c9 g10 c10 gv cv : Nat) (l : List Node) (W : World) : Prop where
  box : W.heap[b8]? = some (.cells #[.slice (some ⟨gv, 0, none⟩) (pos s.nodes s.nodes.length) cv, .int .i64 0] 39 (0, 0))
  nodes : Kd.S kNode 26 W w.heap.size (fun k => k ≠ g9 ∧ k ≠ g10) (.slice (some ⟨gv, 0, none⟩) (pos s.nodes s.nodes.length) cv) l
  up : (Kd.int .i64).R 3 W w.heap.size (fun k => k ≠ g10) (.slice (some ⟨g9, 0, none⟩) s.nodes.length c9) (fillTo (posI s.nodes) s.nodes.length s.nodes.length)
  la : (Kd.int .i64).R 3 W w.heap.size (fun _ => True) (.slice (some ⟨g10, 0, none⟩) s.nodes.length c10) (fillTo (lastI s.nodes) s.nodes.length s.nodes.length)
  src : W.heap[w.heap.size]? = some (.cells #[.slice A s.nodes.length c, .int .i64 s.root] 39 (0, 0))
  res : W.heap[w.heap.size + 1]? = some (.cells #[.slice none 0 0, .int .i64 0] 39 (0, 0))
  b0 : w.heap.size + 1 < b8
  below : Below w.heap.size w W
section
variable {s : Scene} {A : Option Addr} {c : Nat} {w : World} {b8 g9 c9 g10 c10 gv cv : Nat} {l : List Node} {W W1 : World}
theorem Up3.start {v : Value} {n : Nat} (hn : n = s.nodes.length) (hp : 0 < pos s.nodes n) (h : Up1 s A c w b8 g9 c9 g10 c10 v n n n W) : ∃ gv cv, v = .slice (some ⟨gv, 0, none⟩) (pos s.nodes s.nodes.length) cv ∧ Up3 s A c w b8 g9 c9 g10 c10 gv cv (mix s.nodes s.nodes.length 0) W := by
  subst hn
  obtain ⟨gv, cv, hv, -⟩ := Kd.S_form h.nodes (by rw [mix_len]; exact hp)
  rw [mix_len] at hv
  subst hv
  exact ⟨gv, cv, rfl, h.box, h.nodes, h.up, h.la, h.src, h.res, h.b0, h.below⟩
theorem Up3.drew (h : Up3 s A c w b8 g9 c9 g10 c10 gv cv l W) : Up3 s A c w b8 g9 c9 g10 c10 gv cv l W.drew :=
  ⟨h.box, Kd.S_drew h.nodes, Kd.R_drew h.up, Kd.R_drew h.la, h.src, h.res, h.b0, pw_below_drewN h.below 1⟩
theorem Up3.write (h : Up3 s A c w b8 g9 c9 g10 c10 gv cv l W) (i : Nat) (hi : i < pos s.nodes s.nodes.length) (j : Nat) (hj : j < (nd l i).kids.length) :
    ∃ gk ck, W.cell? ⟨gv, i * 4 + 3, none⟩ = some (.slice (some ⟨gk, 0, none⟩) (nd l i).kids.length ck) ∧ W.cell? ⟨gk, j, none⟩ = some (.int .i64 (rd (nd l i).kids (j : Int))) ∧ W.frozen? ⟨gk, j, none⟩ = false ∧
      ∀ u : Int, Up3 s A c w b8 g9 c9 g10 c10 gv cv (l.set i (withKids (nd l i) ((nd l i).kids.set j u))) (W.setCell ⟨gk, j, none⟩ (.int .i64 u)) ∧ (W.setCell ⟨gk, j, none⟩ (.int .i64 u)).cell? ⟨gv, i * 4 + 3, none⟩ = some (.slice (some ⟨gk, 0, none⟩) (nd l i).kids.length ck) := by
  obtain ⟨gk, ck, k1, k2, k3, k4, ⟨cells, hc⟩, k5, k6, k7⟩ := kid_write h.nodes i hi j hj
  refine ⟨gk, ck, k1, k5, k6, fun u => ?_⟩
  obtain ⟨s1, s2⟩ := k7 u
  have hsc : ∀ b x y, W.heap[b]? = some (.cells #[x, y] 39 (0, 0)) → some b ≠ some gk := fun b x y hx => scene_ne hx hc (by decide)
  exact ⟨⟨blk_grown h.box s2 (hsc _ _ _ h.box), s1, Kd.R_grown1 h.up rfl s2 (fun e => k2.1 (by simpa [Value.ownBlock] using e)), Kd.R_grown1 h.la rfl s2 (fun e => k2.2 (by simpa [Value.ownBlock] using e)), blk_grown h.src s2 (hsc _ _ _ h.src), blk_grown h.res s2 (hsc _ _ _ h.res), h.b0, below_set h.below k4⟩, far_set k1 gk j k3 _⟩
end
theorem set_same (l : List Node) (i : Nat) : l.set i (withKids (nd l i) (nd l i).kids) = l := by
  by_cases h : i < l.length
  · have e : withKids (nd l i) (nd l i).kids = l[i] := by
      unfold nd
      rw [getD_eq _ h]
      rfl
    rw [e]
    exact List.set_getElem_self h
  · exact List.set_eq_of_length_le (by omega)
def half (ns : List Node) (l : List Node) (i j : Nat) : List Node := l.set i (withKids (nd l i) (mapTake (fun k => (pos ns k.toNat : Int)) (nd l i).kids j))
theorem half_zero (ns l : List Node) (i : Nat) : half ns l i 0 = l := by unfold half; rw [mapTake_zero, set_same]
theorem half_nd (ns l : List Node) (i j : Nat) (hi : i < l.length) : nd (half ns l i j) i = withKids (nd l i) (mapTake (fun k => (pos ns k.toNat : Int)) (nd l i).kids j) := by unfold half; rw [nd_set _ _ _ _ hi, if_pos rfl]
theorem half_step (ns l : List Node) (i j : Nat) (hi : i < l.length) (hj : j < (nd l i).kids.length) :
    (half ns l i j).set i (withKids (nd (half ns l i j) i) ((nd (half ns l i j) i).kids.set j ((pos ns (rd (nd l i).kids (j : Int)).toNat : Nat) : Int))) = half ns l i (j + 1) ∧ rd (nd (half ns l i j) i).kids (j : Int) = rd (nd l i).kids (j : Int) ∧ (nd (half ns l i j) i).kids.length = (nd l i).kids.length := by
  rw [half_nd ns l i j hi]
  refine ⟨?_, mapTake_rd _ _ _ hj, mapTake_len _ _ _⟩
  show (half ns l i j).set i (withKids (nd l i) ((mapTake (fun k => (pos ns k.toNat : Int)) (nd l i).kids j).set j ((pos ns (rd (nd l i).kids (j : Int)).toNat : Nat) : Int))) = _
  have e := mapTake_set (fun k => (pos ns k.toNat : Int)) (nd l i).kids j hj
  rw [e]
  unfold half
  rw [List.set_set]
theorem half_done (ns l : List Node) (i : Nat) : half ns l i (nd l i).kids.length = l.set i (withKids (nd l i) (mapK ns (nd l i).kids)) := by unfold half mapK; rw [mapTake_all]
end Go.Proofs.YtglfebpgdghlfaaDoor.L
end
section
namespace Go.Proofs.YtglfebpgdghlfaaDoor.L
open Go.RowKit Go.ChangeShapes Go.WideShapes Go.Proofs.YtglfebpgdghlfaaDoorW.PrintWords Go.Proofs.YtglfebpgdghlfaaDoorW.PrintLast Go.Proofs.YtglfebpgdghlfaaDoorW.PrintMore
attribute [local go_sem] max2_int min2_int max_two min_two max_three min_three max_four min_four
set_option maxRecDepth 100000 in
set_option maxHeartbeats 8000000 in
theorem up_any (A : Option Addr) (c : Nat) (s : Scene) (w : World) (h : kNode.C w A s.nodes.length s.nodes) (hT : Tabs w) (hS : ∀ i : Nat, i < s.nodes.length → Small (nd s.nodes i)) (hTS : ∀ i : Nat, i < s.nodes.length → TextsSmall (nd s.nodes i)) (hM : rows s.nodes ≤ 130000) :
    Calls Tryd.prog 19 #[.agg #[.slice A s.nodes.length c, .int .i64 s.root]] w (ScenePost (upRes s) (upErr s) w) := by
  have HR := Aside0.mk h
  have HT := Aside0.mk hT
  have HS := Aside0.mk hS
  have HTS := Aside0.mk hTS
  have HM := Aside0.mk hM
  have b0 := h.2.1
  have HB := Aside0.mk (below_alloc (below_alloc (Below.refl w.heap.size w) (.cells #[.slice A s.nodes.length c, .int .i64 s.root] 39)) (.cells #[.slice none 0 0, .int .i64 0] 39))
  have HX := Aside0.mk (show ((w.alloc (.cells #[.slice A s.nodes.length c, .int .i64 s.root] 39)).alloc (.cells #[.slice none 0 0, .int .i64 0] 39)).heap[w.heap.size]? = some (.cells #[.slice A s.nodes.length c, .int .i64 s.root] 39 (0, 0)) from by
    have : (w.alloc (.cells #[.slice A s.nodes.length c, .int .i64 s.root] 39)).heap[w.heap.size]? = some (.cells #[.slice A s.nodes.length c, .int .i64 s.root] 39 (0, 0)) := by simpa using heap_alloc_new w _
    exact (Below.block (below_alloc (Below.refl _ _) _) _ (by simp)).trans this)
  have HL := Aside0.mk (show ((w.alloc (.cells #[.slice A s.nodes.length c, .int .i64 s.root] 39)).alloc (.cells #[.slice none 0 0, .int .i64 0] 39)).heap[w.heap.size + 1]? = some (.cells #[.slice none 0 0, .int .i64 0] 39 (0, 0)) from by
    have := heap_alloc_new (w.alloc (.cells #[.slice A s.nodes.length c, .int .i64 s.root] 39)) (.cells #[.slice none 0 0, .int .i64 0] 39)
    simpa using this)
  have k0 := (blk_cell HX.out 0).trans rfl
  have k1 := (blk_cell HX.out 1).trans rfl
  have hu := Tryd.underlying39
  have hun := Tryd.underlying26
  clear h hT hS hTS hM
  go_enter Tryd.func19, Tryd.ntmps19
  go_wp2_with fail
  refine (oldtyped_any A c s _ (Kd.C_below HR.out HB.out) (HT.out.below HB.out) HTS.out).mono ?_
  rintro e w1 ⟨rfl, hB1⟩
  have HB1 := Aside0.mk (below_step HB.out hB1)
  have HX1 := Aside0.mk ((hB1.block _ (blk_lt HX.out)).trans HX.out)
  have HL1 := Aside0.mk ((hB1.block _ (blk_lt HL.out)).trans HL.out)
  replace k0 := (blk_cell HX1.out 0).trans rfl
  replace k1 := (blk_cell HX1.out 1).trans rfl
  clear hB1
  by_cases hz1 : (typedS oldTab s.nodes).1 = 0
  · have HZ1 := Aside0.mk hz1
    rw [hz1]
    clear hz1
    go_wp2_with fail
    refine (gcheck_any A c s _ (Kd.C_below HR.out HB1.out) (by have := HM.out; omega)).mono ?_
    rintro e w2 ⟨rfl, hB2⟩
    have HB2 := Aside0.mk (below_step HB1.out hB2)
    have HX2 := Aside0.mk ((hB2.block _ (blk_lt HX1.out)).trans HX1.out)
    have HL2 := Aside0.mk ((hB2.block _ (blk_lt HL1.out)).trans HL1.out)
    replace k0 := (blk_cell HX2.out 0).trans rfl
    replace k1 := (blk_cell HX2.out 1).trans rfl
    clear hB2 HX1 HL1 HX HL
    by_cases hz2 : (gcheck s).1 = 0
    · have HZ2 := Aside0.mk hz2
      have HRt := Aside0.mk (gcheck_right.1 hz2)
      have HE : Aside0 (upErr s = (gcheck (upS s)).1 ∧ upRes s = canonR (upS s)) := ⟨by unfold upErr; rw [if_pos HZ1.out, if_pos hz2], by unfold upRes; rw [if_pos HZ1.out, if_pos hz2]⟩
      have hnM : s.nodes.length ≤ 130000 := Nat.le_trans (len_rows _) HM.out
      have hn0 : 0 < s.nodes.length := by have := HRt.out.r0; have := HRt.out.r1; omega
      have hb8 := below_alloc (Below.refl w2.heap.size w2) (.cells #[.slice none 0 0, .int .i64 0] 39)
      have HB8 := Aside0.mk (below_step HB2.out hb8)
      have H8 := Aside0.mk (show (w2.alloc (.cells #[.slice none 0 0, .int .i64 0] 39)).heap[w2.heap.size]? = some (.cells #[.slice none 0 0, .int .i64 0] 39 (0, 0)) from by simpa using heap_alloc_new w2 _)
      have HX8 := Aside0.mk ((hb8.block _ (blk_lt HX2.out)).trans HX2.out)
      have HL8 := Aside0.mk ((hb8.block _ (blk_lt HL2.out)).trans HL2.out)
      replace k0 := (blk_cell HX8.out 0).trans rfl
      replace k1 := (blk_cell HX8.out 1).trans rfl
      rw [hz2]
      clear hz2 hb8
      go_wp2_with (first
        | (refine Kd.R_make (Kd.int .i64) (w0 := w) w.heap.size 3 rfl (N := 42) rfl 24 _ _ rfl (s.nodes.length : Int) rfl rfl Tryd.underlying24 (.int .i64 0) 8 info_int rfl (by decide) (by omega) 0 (ok := fun _ => True) (okp := fun _ => True) rfl (fun _ hk => hk) trivial (by omega) (by omega) HB8.out HB8.out.size ?_; intro v9 w9 ho9 hb9 hg9 hn9; rw [Int.toNat_natCast] at ho9; obtain ⟨g9, c9, hv9, -, hgo9, -⟩ := Kd.R_form ho9 (by rw [List.length_replicate]; exact hn0); rw [List.length_replicate] at hv9; subst hv9; have HO9 := Aside0.mk ho9; have HB9 := Aside0.mk hb9; have HG9 := Aside0.mk hg9; have HX9 := Aside0.mk (blk_grown HX8.out hg9 (by simp)); have q0 := (blk_cell HX9.out 0).trans rfl; have q1 := (blk_cell HX9.out 1).trans rfl; clear ho9 hb9 hg9 hn9 k0 k1)
        | (refine Kd.R_make (Kd.int .i64) (w0 := w) w.heap.size 3 rfl (N := 46) rfl 24 _ _ rfl (s.nodes.length : Int) rfl rfl Tryd.underlying24 (.int .i64 0) 8 info_int rfl (by decide) (by omega) 0 (ok := fun _ => True) (okp := fun _ => True) rfl (fun _ hk => hk) trivial (by omega) (by omega) HB9.out HB9.out.size ?_; intro v10 w10 ho10 hb10 hg10 hn10; rw [Int.toNat_natCast] at ho10; obtain ⟨g10, c10, hv10, -, hgo10, -⟩ := Kd.R_form ho10 (by rw [List.length_replicate]; exact hn0); rw [List.length_replicate] at hv10; subst hv10; have HO10 := Aside0.mk ho10; have HB10 := Aside0.mk hb10; have HG10 := Aside0.mk hg10; have HN10 := Aside0.mk hn10; have HX10 := Aside0.mk (blk_grown HX9.out hg10 (by simp)); have r0 := (blk_cell HX10.out 0).trans rfl; have r1 := (blk_cell HX10.out 1).trans rfl; clear ho10 hb10 hg10 hn10 q0 q1))
      have HI := Aside0.mk (show Up1 s A c w w2.heap.size g9 c9 g10 c10 (.slice none 0 0) 0 0 0 w10 from
        ⟨blk_grown (blk_grown H8.out HG9.out (by simp)) HG10.out (by simp), Kd.S_nil _ _ _ _ _, by
          rw [fillTo_zero]
          exact Kd.R_below (Kd.R_mono (Kd.R_bound HO9.out) (fun k hk e => by
            obtain ⟨b, hb1, hb2⟩ := HN10.out
            have : g10 = b := by simpa [Value.ownBlock] using hb1
            have := hk.2.2.1
            omega)) (below_of_grown HG10.out), by rw [fillTo_zero]; exact HO10.out, HX10.out, blk_grown (blk_grown HL8.out HG9.out (by simp)) HG10.out (by simp), by have := blk_lt HL2.out; exact this, HB10.out⟩)
      clear r0 r1 HO9 HO10 HG9 HG10 HN10 HX9 HX10 HX8 HL8 H8 HB8 HB9 HB10 hgo9 hgo10
      go_loopw [50] (fun v50 W => ∃ i : Nat, i ≤ s.nodes.length ∧ v50 = .int .i64 i ∧ ∃ v, Aside0 (Up1 s A c w w2.heap.size g9 c9 g10 c10 v i i i W)) (fun v50 _ => s.nodes.length - (intOf v50).toNat)
      case atStart => exact ⟨0, by omega, rfl, _, HI⟩
      case round =>
        clear HI
        obtain ⟨i, hi, rfl, v, HI⟩ := hrel
        by_cases hlt : i < s.nodes.length
        · obtain ⟨Av, cv, hv⟩ := Kd.S_slice HI.out.nodes
          rw [mix_len] at hv
          subst hv
          obtain ⟨adn, A1, c1, A2, c2, A3, c3, rfl, x0, x1, x2, x3, hN⟩ := at_node HR.out i hlt
          replace x0 := pw_cell_below HI.out.below x0
          replace x1 := pw_cell_below HI.out.below x1
          replace x2 := pw_cell_below HI.out.below x2
          replace x3 := pw_cell_below HI.out.below x3
          have HN := Aside0.mk hN
          have hba := below_alloc (Below.refl wr.heap.size wr) (.cells #[.int .i64 (nd s.nodes i).kind, .slice A1 (nd s.nodes i).ints.length c1, .slice A2 (nd s.nodes i).texts.length c2, .slice A3 (nd s.nodes i).kids.length c3] 26)
          have hbx : (wr.alloc (.cells #[.int .i64 (nd s.nodes i).kind, .slice A1 (nd s.nodes i).ints.length c1, .slice A2 (nd s.nodes i).texts.length c2, .slice A3 (nd s.nodes i).kids.length c3] 26)).heap[wr.heap.size]? = some (.cells #[.int .i64 (nd s.nodes i).kind, .slice A1 (nd s.nodes i).ints.length c1, .slice A2 (nd s.nodes i).texts.length c2, .slice A3 (nd s.nodes i).kids.length c3] 26 (0, 0)) := by simpa using heap_alloc_new wr _
          have HBA := Aside0.mk hba
          have y0 := (blk_cell hbx 0).trans rfl
          have y1 := (blk_cell hbx 1).trans rfl
          have y2 := (blk_cell hbx 2).trans rfl
          have y3 := (blk_cell hbx 3).trans rfl
          have s6 : (wr.alloc (.cells #[.int .i64 (nd s.nodes i).kind, .slice A1 (nd s.nodes i).ints.length c1, .slice A2 (nd s.nodes i).texts.length c2, .slice A3 (nd s.nodes i).kids.length c3] 26)).heap.size = wr.heap.size + 1 := by simp
          have S6 := Aside0.mk s6
          clear hN hba hbx s6
          go_wp2_with fail
          refine (upnode_ok (nd s.nodes i) A1 c1 A2 c2 A3 c3 _ (HN.out.below (below_step HI.out.below HBA.out)) (HS.out i hlt) (HTS.out i hlt) (HT.out.below (below_step HI.out.below HBA.out)) (typedS_zero HZ1.out i hlt)).mono ?_
          rintro e w6 ⟨gl, cl, rfl, hS6, hB6⟩
          rw [S6.out] at hS6
          obtain ⟨m, hm⟩ : ∃ m, upLen (nd s.nodes i) = m + 1 := ⟨upLen (nd s.nodes i) - 1, by have := upLen_pos (nd s.nodes i); omega⟩
          have HMm := Aside0.mk hm
          have hm1 : m ≤ 1 := by have := upLen_le (nd s.nodes i); omega
          have HBw := Aside0.mk (below_step HBA.out hB6)
          have HU6 := Aside0.mk (HI.out.later HBw.out)
          obtain ⟨⟨u9, hu9⟩, hf9, hU7, hg7⟩ := HU6.out.upper hlt
          have hlcap := (Kd.S_reads' hS6).2.1
          have HJ0 := Aside0.mk (show UpI s w wr (wr.heap.size + 1) gl cl g9 c9 g10 i 0 (w6.setCell ⟨g9, i, none⟩ (.int .i64 (pos s.nodes i : Int))) from
            ⟨grown_below HBw.out hg7, hU7.up, ⟨by
              rw [if_pos rfl]
              have h1 : Kd.S kNode 26 w6 w.heap.size (fun k => wr.heap.size + 1 ≤ k) (.slice (some ⟨gl, 0, none⟩) (upLen (nd s.nodes i)) cl) (upK (nd s.nodes i) 0 (nd s.nodes i).kids) := by
                obtain ⟨f, hf⟩ := hS6
                exact ⟨f, Kd.R_lower (Kd.R_mono (Kd.R_bound hf) (fun k hk => hk.2.1)) (Nat.le_trans HI.out.below.size (Nat.le_succ _))⟩
              exact Kd.S_far (p := ⟨g9, i, none⟩) h1 (fun k hk => by have := HI.out.lt9; show k ≠ g9; omega) _, Nat.zero_le _⟩, Nat.le_succ _⟩)
          have z0 := (blk_cell HU6.out.box 0).trans rfl
          have hpl := pos_le s.nodes i
          rw [hm] at hlcap ⊢
          clear hm hS6 hB6 hU7 hg7 x0 x1 x2 x3 y0 y1 y2 y3
          go_wp2
          clear hu9 hf9 z0
          generalize (w6.setCell ⟨g9, i, none⟩ (.int .i64 (pos s.nodes i : Int))) = w7 at HJ0 ⊢
          obtain ⟨W0, hW0⟩ : ∃ W, W = wr := ⟨_, rfl⟩
          rw [← hW0] at HI HJ0 HBw
          go_loopw [72] (fun v72 W => ∃ j : Nat, j ≤ m ∧ v72 = .int .i64 j ∧ Aside0 (UpI s w W0 (W0.heap.size + 1) gl cl g9 c9 g10 i j W)) (fun v72 _ => m - (intOf v72).toNat)
          case atStart => exact ⟨0, by omega, rfl, HJ0⟩
          case round =>
            clear HJ0
            obtain ⟨j, hj, rfl, HJ⟩ := hrel
            have HU8 := Aside0.mk (HI.out.into HJ.out.grown HJ.out.up)
            have z0 := (blk_cell HU8.out.box 0).trans rfl
            by_cases hjl : j < m
            · obtain ⟨rfl, e2, gk, ck, k1, k2, ⟨xk, k3⟩, k4, hJ5⟩ := HJ.out.step (by have := HI.out.lt9; omega) (by rw [HMm.out]; omega)
              have HJ5 := Aside0.mk hJ5
              obtain rfl : m = 1 := by omega
              have hw1 : IntKind.i64.wrap ((pos s.nodes i : Int) + 1) = (pos s.nodes i : Int) + 1 := wrap_i (by omega) (by omega)
              clear hJ5 e2
              go_wp2
              go_region
              have HJ6 := Aside0.mk HJ5.out.drew
              clear HJ5 k1 k3 k4 z0
              go_wp2
              go_roundw
              case rel => exact ⟨1, by omega, by first | rfl | go_num, HJ6⟩
              case measure => simp [intOf]
            · obtain rfl : j = m := by omega
              have HY := Aside0.mk (UpL.done (show UpL s w (W0.heap.size + 1) gl cl i (upLen (nd s.nodes i) - 1) wr from by rw [HMm.out]; exact HJ.out.l))
              have HO := Aside0.mk (HI.out.elder HJ.out.grown)
              have hp1 : pos s.nodes (i + 1) = pos s.nodes i + j + 1 := by rw [pos_succ, HMm.out]; omega
              have HP1 := Aside0.mk hp1
              have hw2 : IntKind.i64.wrap (((pos s.nodes i + (j + 1) : Nat) : Int) - 1) = ((pos s.nodes i + j : Nat) : Int) := by rw [wrap_i (by omega) (by omega)]; omega
              rw [HMm.out] at HY
              clear hp1
              go_wp2_with (at_builtin; refine S_append_rows kNode (w0 := w) w.heap.size rfl (.tmp 89) (.tmp 90) 30 26 (.agg #[.int .i64 0, .slice none 0 0, .slice none 0 0, .slice none 0 0]) 80 rfl Tryd.underlying30 info_nodez rfl (by decide) (by omega) (.slice Av (pos s.nodes i) cv) (mix s.nodes i 0) (upK (nd s.nodes i) ((pos s.nodes i : Int) + 1) (nd s.nodes i).kids) (some ⟨gl, 0, none⟩) (j + 1) cl (fun k => (k ≠ g9 ∧ k ≠ g10) ∧ k < W0.heap.size) (fun k => W0.heap.size + 1 ≤ k) rfl rfl HO.out HY.out (fun k h1 h2 => by have := h2.2; omega) HU8.out.below HU8.out.below.size (by rw [mix_len]; omega) ?_; intro v4 w4 hS4 hB4 hg4 _; obtain ⟨A4, c4, hv4⟩ := Kd.S_slice hS4; rw [List.length_append, mix_len, upK_len, HMm.out] at hv4; have hm4 : mix s.nodes i 0 ++ upK (nd s.nodes i) ((pos s.nodes i : Int) + 1) (nd s.nodes i).kids = mix s.nodes (i + 1) 0 := (by rw [mix_succ, if_neg (by omega)]); rw [hm4] at hS4; have hpp := HU8.out.push (B := W0.heap.size + 1) (by have := HI.out.lt9; omega) (by have := HI.out.lt10; omega) (Kd.S_mono hS4 (fun k hk => hk.elim (fun h => .inl h.1) .inr)) hB4 hg4; obtain ⟨⟨u4, p1⟩, p2, p3⟩ := hpp; subst hv4; have z9 := (blk_cell p3.box 0).trans rfl; obtain ⟨⟨u10, r1⟩, r2, r3⟩ := p3.lower hlt; have HU9 := Aside0.mk r3; clear hS4 hB4 hg4 hm4 p3 r3)
              go_roundw
              case rel =>
                have e : ((pos s.nodes (i + 1) - 1 : Nat) : Int) = (pos s.nodes i : Int) + ((j : Int) + 1) - 1 := by rw [HP1.out]; omega
                have hh := HU9.out
                rw [e] at hh
                exact ⟨i + 1, by omega, by go_num, _, ⟨hh⟩⟩
              case measure => simp [intOf]; omega
        · obtain rfl : i = s.nodes.length := by omega
          have hpp : 0 < pos s.nodes s.nodes.length := Nat.lt_of_lt_of_le (by rw [pos_succ]; have := upLen_pos (nd s.nodes 0); omega) (pos_mono s.nodes (show 0 + 1 ≤ s.nodes.length from hn0))
          obtain ⟨gv, cv, rfl, h3⟩ := Up3.start rfl hpp HI.out
          have H3 := Aside0.mk h3
          have hpl := pos_le s.nodes s.nodes.length
          clear h3 HI
          go_wp2
          go_loopw [103] (fun v103 W => ∃ p : Nat, p ≤ s.nodes.length ∧ v103 = .int .i64 p ∧ Aside0 (Up3 s A c w w2.heap.size g9 c9 g10 c10 gv cv (mix s.nodes s.nodes.length p) W)) (fun v103 _ => s.nodes.length - (intOf v103).toNat)
          case atStart => exact ⟨0, by omega, rfl, H3⟩
          case round =>
            clear H3
            obtain ⟨p, hp, rfl, H3⟩ := hrel
            have z0 := (blk_cell H3.out.box 0).trans rfl
            by_cases hpn : p < s.nodes.length
            · obtain ⟨l1, l1f⟩ := ints_cell H3.out.la p hpn
              rw [fillTo_rd _ _ _ _ hpn hpn] at l1
              obtain ⟨q, hq⟩ : ∃ q, pos s.nodes (p + 1) - 1 = q := ⟨_, rfl⟩
              have HQ := Aside0.mk hq
              have hqn : q < pos s.nodes s.nodes.length := by rw [← hq]; exact pos_lt s.nodes hpn
              have l2 : wr.cell? ⟨g10, p, none⟩ = some (.int .i64 (q : Int)) := by rw [l1]; unfold lastI; rw [hq]
              have HMix := Aside0.mk (mix_set s.nodes s.nodes.length p hpn)
              rw [hq] at HMix
              obtain ⟨A3, c3, kh, -⟩ := kids_read H3.out.nodes q hqn
              rw [HMix.out.1] at kh
              have hlq : q < (mix s.nodes s.nodes.length p).length := by rw [mix_len]; exact hqn
              have hkM := (HS.out p hpn).2.2
              have HK0 := Aside0.mk (show Up3 s A c w w2.heap.size g9 c9 g10 c10 gv cv (half s.nodes (mix s.nodes s.nodes.length p) q 0) wr ∧ wr.cell? ⟨gv, q * 4 + 3, none⟩ = some (.slice A3 (nd s.nodes p).kids.length c3) from ⟨by rw [half_zero]; exact H3.out, kh⟩)
              clear l1 l1f hq
              go_wp2
              clear l2 kh z0
              go_loopw [115] (fun v115 W => ∃ j : Nat, j ≤ (nd s.nodes p).kids.length ∧ v115 = .int .i64 j ∧ Aside0 (Up3 s A c w w2.heap.size g9 c9 g10 c10 gv cv (half s.nodes (mix s.nodes s.nodes.length p) q j) W ∧ W.cell? ⟨gv, q * 4 + 3, none⟩ = some (.slice A3 (nd s.nodes p).kids.length c3))) (fun v115 _ => (nd s.nodes p).kids.length - (intOf v115).toNat)
              case atStart => exact ⟨0, by omega, rfl, HK0⟩
              case round =>
                clear HK0
                obtain ⟨j, hj, rfl, HK⟩ := hrel
                by_cases hjl : j < (nd s.nodes p).kids.length
                · obtain ⟨t1, t2, t3⟩ := half_step s.nodes (mix s.nodes s.nodes.length p) q j hlq (by rw [HMix.out.1]; exact hjl)
                  rw [HMix.out.1] at t1 t2 t3
                  obtain ⟨gk, ck, k1, k2, k3, k4⟩ := HK.out.1.write q hqn j (by rw [t3]; exact hjl)
                  rw [t3, HK.out.2] at k1
                  injection k1 with k1
                  injection k1 with kA _ kc
                  subst kA kc
                  have HPl := Aside0.mk (HRt.out.pl p hpn _ (rd_mem hjl))
                  obtain ⟨k, hk⟩ : ∃ k : Nat, rd (nd s.nodes p).kids (j : Int) = (k : Int) := ⟨(rd (nd s.nodes p).kids (j : Int)).toNat, by have := HPl.out.1; omega⟩
                  have hkn : k < s.nodes.length := by have := HPl.out.2; omega
                  obtain ⟨u1, -⟩ := ints_cell HK.out.1.up k hkn
                  rw [fillTo_rd _ _ _ _ hkn hkn] at u1
                  obtain ⟨k5, k6⟩ := k4 ((pos s.nodes k : Nat) : Int)
                  rw [t2, hk] at k2
                  rw [hk, Int.toNat_natCast] at t1
                  rw [t1] at k5
                  rw [t3] at k6
                  have HK2 := Aside0.mk (And.intro k5 k6)
                  have u2 : wr.cell? ⟨g9, k, none⟩ = some (.int .i64 ((pos s.nodes k : Nat) : Int)) := u1
                  clear k4 k5 k6 t1 t2 t3 hk u1
                  go_wp2
                  go_roundw
                  case rel => exact ⟨j + 1, by omega, by go_num, HK2⟩
                  case measure => simp [intOf]; omega
                · obtain rfl : j = (nd s.nodes p).kids.length := by omega
                  have hfin := HK.out.1
                  have e5 := half_done s.nodes (mix s.nodes s.nodes.length p) q
                  rw [HMix.out.1] at e5
                  rw [e5, HMix.out.2] at hfin
                  have HF := Aside0.mk hfin
                  clear hfin e5
                  go_wp2
                  go_roundw
                  case rel => exact ⟨p + 1, by omega, by go_num, HF⟩
                  case measure => simp [intOf]; omega
            · obtain rfl : p = s.nodes.length := by omega
              obtain ⟨r, hr⟩ : ∃ r : Nat, s.root = (r : Int) := ⟨s.root.toNat, by have := HRt.out.r0; omega⟩
              have HRr := Aside0.mk hr
              have hrn : r < s.nodes.length := by have := HRt.out.r1; omega
              obtain ⟨u1, -⟩ := ints_cell H3.out.up r hrn
              rw [fillTo_rd _ _ _ _ hrn hrn] at u1
              have u2 : wr.cell? ⟨g9, r, none⟩ = some (.int .i64 ((pos s.nodes r : Nat) : Int)) := u1
              have s1 : wr.cell? ⟨w.heap.size, 1, none⟩ = some (.int .i64 (r : Int)) := by rw [← hr]; exact (blk_cell H3.out.src 1).trans rfl
              have z1 := (blk_cell H3.out.box 1).trans rfl
              have z1f := blk_frozen H3.out.box 1
              have hb := blk_set H3.out.box 1 (.int .i64 ((pos s.nodes r : Nat) : Int))
              have hb0 := H3.out.b0
              have hbn : (wr.setCell ⟨w2.heap.size, 1, none⟩ (.int .i64 ((pos s.nodes r : Nat) : Int))).heap[w2.heap.size]? = some (.cells #[.slice (some ⟨gv, 0, none⟩) (pos s.nodes s.nodes.length) cv, .int .i64 ((pos s.nodes r : Nat) : Int)] 39 (0, 0)) := by simpa using hb
              have y0 := (blk_cell hbn 0).trans rfl
              have y1 := (blk_cell hbn 1).trans rfl
              have HS9 := Aside0.mk (S_type H3.out.nodes H3.out.box (by decide) (.int .i64 ((pos s.nodes r : Nat) : Int)) 1)
              have HB9 := Aside0.mk (below_set (j := 1) (v := .int .i64 ((pos s.nodes r : Nat) : Int)) H3.out.below (show w.heap.size ≤ w2.heap.size by omega))
              have HL9 := Aside0.mk ((Below.heap_setCell wr ⟨w2.heap.size, 1, none⟩ (.int .i64 ((pos s.nodes r : Nat) : Int)) (w.heap.size + 1) (by show w.heap.size + 1 ≠ w2.heap.size; omega)).trans H3.out.res)
              have hroot : (upS s).root = ((pos s.nodes r : Nat) : Int) := by unfold upS; rw [hr, Int.toNat_natCast]
              have HRoot := Aside0.mk hroot
              have HLen := Aside0.mk (show (upS s).nodes.length = pos s.nodes s.nodes.length from mix_len _ _ _)
              clear hr u1 hb hbn z0 hroot
              go_wp2_with fail
              have hcan := canon_any (some ⟨gv, 0, none⟩) cv (upS s) (wr.setCell ⟨w2.heap.size, 1, none⟩ (.int .i64 ((pos s.nodes r : Nat) : Int))) (show kNode.C _ (some ⟨gv, 0, none⟩) (mix s.nodes s.nodes.length s.nodes.length).length (mix s.nodes s.nodes.length s.nodes.length) from (Kd.R_reads' (Kd.S_R HS9.out)).2.2) (by have h1 := upS_rows s; have h2 := HM.out; omega) (upS_small HS.out)
              rw [HLen.out, HRoot.out] at hcan
              refine hcan.mono ?_
              rintro e w9 ⟨A9, c9', rfl, hR9, hB9⟩
              have hl9 := (hB9.block _ (blk_lt HL9.out)).trans HL9.out
              have HLw := Aside0.mk hl9
              have HR9 := Aside0.mk (Kd.R_lower hR9 HB9.out.size)
              have HBf := Aside0.mk (below_step HB9.out hB9)
              have l0 := (blk_cell hl9 0).trans rfl
              have l0f := blk_frozen hl9 0
              have l1 := (blk_cell (blk_set hl9 0 (.slice A9 (canonR (upS s)).nodes.length c9')) 1).trans rfl
              have l1f := blk_frozen (blk_set hl9 0 (.slice A9 (canonR (upS s)).nodes.length c9')) 1
              clear hcan hl9 hR9 hB9 y0 y1 s1 u2 z1 z1f
              go_wp2
              have h2 := And.intro ((blk_cell (box2 HLw.out (.slice A9 (canonR (upS s)).nodes.length c9') (.int .i64 (canonR (upS s)).root)) 0).trans rfl) ((blk_cell (box2 HLw.out (.slice A9 (canonR (upS s)).nodes.length c9') (.int .i64 (canonR (upS s)).root)) 1).trans rfl)
              exact bodyPost_ret (v := .tuple #[.agg #[.slice A9 (canonR (upS s)).nodes.length c9', .int .i64 (canonR (upS s)).root], .int .i64 (gcheck (upS s)).1]) (by simp [results, Tryd.results19, go_sem, h2]) rfl
                ⟨A9, c9', by rw [HE.out.1, HE.out.2], by
                  rw [HE.out.2]
                  exact R_type (R_type HR9.out HLw.out (by decide) _ 0) (blk_set HLw.out 0 _) (by decide) _ 1, below_set2 HBf.out (by omega)⟩
    · have HE : Aside0 (upErr s = (gcheck s).1 ∧ upRes s = ⟨[], 0⟩) := ⟨by unfold upErr; rw [if_pos HZ1.out, if_neg hz2], by unfold upRes; rw [if_pos HZ1.out, if_neg hz2]⟩
      have dz : ((gcheck s).1 != 0) = true := by simpa using hz2
      have l0 := (blk_cell HL2.out 0).trans rfl
      have l0f := blk_frozen HL2.out 0
      have l1 := (blk_cell (blk_set HL2.out 0 (.slice none 0 0)) 1).trans rfl
      have l1f := blk_frozen (blk_set HL2.out 0 (.slice none 0 0)) 1
      clear hz2
      go_wp2
      have h2 := And.intro ((blk_cell (box2 HL2.out (.slice none 0 0) (.int .i64 0)) 0).trans rfl) ((blk_cell (box2 HL2.out (.slice none 0 0) (.int .i64 0)) 1).trans rfl)
      exact bodyPost_ret (v := .tuple #[.agg #[.slice none 0 0, .int .i64 0], .int .i64 (gcheck s).1]) (by simp [results, Tryd.results19, go_sem, h2]) rfl
        ⟨none, 0, by rw [HE.out.1, HE.out.2]; rfl, by rw [HE.out.2]; exact Kd.R_nil _ _ _ _ _, below_set2 HB2.out (by omega)⟩
  · have HE : Aside0 (upErr s = (typedS oldTab s.nodes).1 ∧ upRes s = ⟨[], 0⟩) := ⟨by unfold upErr; rw [if_neg hz1], by unfold upRes; rw [if_neg hz1]⟩
    have dz : ((typedS oldTab s.nodes).1 != 0) = true := by simpa using hz1
    have l0 := (blk_cell HL1.out 0).trans rfl
    have l0f := blk_frozen HL1.out 0
    have l1 := (blk_cell (blk_set HL1.out 0 (.slice none 0 0)) 1).trans rfl
    have l1f := blk_frozen (blk_set HL1.out 0 (.slice none 0 0)) 1
    clear hz1
    go_wp2
    have h2 := And.intro ((blk_cell (box2 HL1.out (.slice none 0 0) (.int .i64 0)) 0).trans rfl) ((blk_cell (box2 HL1.out (.slice none 0 0) (.int .i64 0)) 1).trans rfl)
    exact bodyPost_ret (v := .tuple #[.agg #[.slice none 0 0, .int .i64 0], .int .i64 (typedS oldTab s.nodes).1]) (by simp [results, Tryd.results19, go_sem, h2]) rfl
      ⟨none, 0, by rw [HE.out.1, HE.out.2]; rfl, by rw [HE.out.2]; exact Kd.R_nil _ _ _ _ _, below_set2 HB1.out (by omega)⟩
end Go.Proofs.YtglfebpgdghlfaaDoor.L
end
section
namespace Go.Proofs.YtglfebpgdghlfaaDoor.L
open Go.RowKit Go.ChangeShapes Go.WideShapes Go.Proofs.YtglfebpgdghlfaaDoorW.PrintWords Go.Proofs.YtglfebpgdghlfaaDoorW.PrintLast Go.Proofs.YtglfebpgdghlfaaDoorW.PrintMore
attribute [local go_sem] max2_int min2_int max_two min_two max_three min_three max_four min_four
def greatN (n : Node) : Bool := decide (100 < n.ints.length ∨ 100 < n.texts.length ∨ 300 < n.kids.length ∨ ∃ j, j < n.texts.length ∧ 500 < (str n.texts j).size)
set_option maxRecDepth 100000 in
set_option maxHeartbeats 2000000 in
theorem great_any (n : Node) (A1 : Option Addr) (c1 : Nat) (A2 : Option Addr) (c2 : Nat) (A3 : Option Addr) (c3 : Nat) (w : World) (h : NodeC w n A1 c1 A2 c2 A3 c3) :
    Calls Tryd.prog 12 #[.agg #[.int .i64 n.kind, .slice A1 n.ints.length c1, .slice A2 n.texts.length c2, .slice A3 n.kids.length c3]] w fun e w' => e = .returned (.bool (greatN n)) ∧ Below w.heap.size w w' := by
  have HN := Aside0.mk h
  have b2 := h.t.2.1
  have hB := below_alloc (Below.refl w.heap.size w) (.cells #[.int .i64 n.kind, .slice A1 n.ints.length c1, .slice A2 n.texts.length c2, .slice A3 n.kids.length c3] 26)
  have HB := Aside0.mk hB
  have HX := Aside0.mk (show (w.alloc (.cells #[.int .i64 n.kind, .slice A1 n.ints.length c1, .slice A2 n.texts.length c2, .slice A3 n.kids.length c3] 26)).heap[w.heap.size]? = some (.cells #[.int .i64 n.kind, .slice A1 n.ints.length c1, .slice A2 n.texts.length c2, .slice A3 n.kids.length c3] 26 (0, 0)) from by simpa using heap_alloc_new w _)
  have k1 := (blk_cell HX.out 1).trans rfl
  have k2 := (blk_cell HX.out 2).trans rfl
  have k3 := (blk_cell HX.out 3).trans rfl
  have hun := Tryd.underlying26
  clear h hB
  by_cases h1 : 100 < n.ints.length
  · have HE : Aside0 (greatN n = true) := ⟨decide_eq_true (.inl h1)⟩
    have d1 : decide (100 < (n.ints.length : Int)) = true := decide_eq_true (by omega)
    clear h1
    go_enter Tryd.func12, Tryd.ntmps12
    go_wp2
    go_ret
    exact ⟨ret_bool HE.out.symm, HB.out⟩
  have d1 : decide (100 < (n.ints.length : Int)) = false := decide_eq_false (by omega)
  by_cases h2 : 100 < n.texts.length
  · have HE : Aside0 (greatN n = true) := ⟨decide_eq_true (.inr (.inl h2))⟩
    have d2 : decide (100 < (n.texts.length : Int)) = true := decide_eq_true (by omega)
    clear h1 h2
    go_enter Tryd.func12, Tryd.ntmps12
    go_wp2
    go_ret
    exact ⟨ret_bool HE.out.symm, HB.out⟩
  have d2 : decide (100 < (n.texts.length : Int)) = false := decide_eq_false (by omega)
  by_cases h3 : 300 < n.kids.length
  · have HE : Aside0 (greatN n = true) := ⟨decide_eq_true (.inr (.inr (.inl h3)))⟩
    have d3 : decide (300 < (n.kids.length : Int)) = true := decide_eq_true (by omega)
    clear h1 h2 h3
    go_enter Tryd.func12, Tryd.ntmps12
    go_wp2
    go_ret
    exact ⟨ret_bool HE.out.symm, HB.out⟩
  have d3 : decide (300 < (n.kids.length : Int)) = false := decide_eq_false (by omega)
  have H123 : Aside0 (¬ 100 < n.ints.length ∧ ¬ 100 < n.texts.length ∧ ¬ 300 < n.kids.length) := ⟨h1, h2, h3⟩
  clear h1 h2 h3
  go_enter Tryd.func12, Tryd.ntmps12
  go_wp2
  clear d1 d2 d3
  go_loopw [3] (fun v3 W => ∃ i : Nat, i ≤ n.texts.length ∧ v3 = .int .i64 i ∧ W = w.alloc (.cells #[.int .i64 n.kind, .slice A1 n.ints.length c1, .slice A2 n.texts.length c2, .slice A3 n.kids.length c3] 26) ∧ Aside0 (∀ j, j < i → ¬ 500 < (str n.texts j).size)) (fun v3 _ => n.texts.length - (intOf v3).toNat)
  case atStart => exact ⟨0, by omega, rfl, by first | rfl | trivial, ⟨fun j h => by omega⟩⟩
  case round =>
    obtain ⟨i, hi, rfl, rfl, HA⟩ := hrel
    by_cases hlt : i < n.texts.length
    · obtain ⟨ad, rfl, x⟩ := at_str (Kd.C_below HN.out.t HB.out) i hlt
      by_cases hg : 500 < (str n.texts i).size
      · have HE : Aside0 (greatN n = true) := ⟨decide_eq_true (.inr (.inr (.inr ⟨i, hlt, hg⟩)))⟩
        have d5 : decide (500 < ((str n.texts i).size : Int)) = true := decide_eq_true (by omega)
        clear hg
        go_wp2
        go_ret
        exact ⟨ret_bool HE.out.symm, HB.out⟩
      · have HA2 := Aside0.mk (ext_lt HA.out hg)
        have d5 : decide (500 < ((str n.texts i).size : Int)) = false := decide_eq_false (by omega)
        clear hg
        go_wp2
        go_roundw
        case rel => exact ⟨i + 1, by omega, by go_num, by first | rfl | trivial, HA2⟩
        case measure => simp [intOf]; omega
    · obtain rfl : i = n.texts.length := by omega
      have HE : Aside0 (greatN n = false) := ⟨decide_eq_false (fun h => by
        rcases h with h | h | h | ⟨j, hj, h⟩
        · exact H123.out.1 h
        · exact H123.out.2.1 h
        · exact H123.out.2.2 h
        · exact HA.out j hj h)⟩
      go_wp2
      go_ret
      exact ⟨ret_bool HE.out.symm, HB.out⟩
end Go.Proofs.YtglfebpgdghlfaaDoor.L
end
section
namespace Go.Proofs.YtglfebpgdghlfaaDoor.L
open Go.RowKit Go.ChangeShapes Go.WideShapes Go.Proofs.YtglfebpgdghlfaaDoorW.PrintWords Go.Proofs.YtglfebpgdghlfaaDoorW.PrintLast Go.Proofs.YtglfebpgdghlfaaDoorW.PrintMore
attribute [local go_sem] max2_int min2_int max_two min_two max_three min_three max_four min_four
structure SetV where
  text : Bool
  field : Int
  n : Int
  s : ByteArray
def kSet : Kd SetV := Kd.iso (Kd.pair Kd.bool (Kd.pair (Kd.int .i64) (Kd.pair (Kd.int .i64) Kd.string))) (fun x : SetV => (x.text, x.field, x.n, x.s))
theorem kSet_mk (w : World) (base : Nat) (ok : Nat → Prop) (x : SetV) : kSet.M w base ok x [.bool x.text, .int .i64 x.field, .int .i64 x.n, .string x.s] := ⟨[_], [_, _, _], rfl, rfl, ⟨[_], [_, _], rfl, rfl, ⟨[_], [_], rfl, rfl, rfl⟩⟩⟩
theorem info_set : (Tryd.prog.info? 84).map (fun i => (i.zero, i.size, i.bytes)) = some (some (.agg #[.bool false, .int .i64 0, .int .i64 0, .string ByteArray.empty]), 4, 40) := by kernel_rfl
def diffI (a b : List Int) (i : Nat) : List SetV := ((List.range i).filter (fun p : Nat => decide (¬ rd a (p : Int) = rd b (p : Int)))).map (fun p : Nat => ⟨false, (p : Int), rd b (p : Int), ByteArray.empty⟩)
def diffT (a b : List ByteArray) (i : Nat) : List SetV := ((List.range i).filter (fun p : Nat => decide (¬ str a p = str b p))).map (fun p : Nat => ⟨true, (p : Int), 0, str b p⟩)
theorem diffI_yes {a b : List Int} {i : Nat} (h : ¬ rd a (i : Int) = rd b (i : Int)) : diffI a b (i + 1) = diffI a b i ++ [⟨false, (i : Int), rd b (i : Int), ByteArray.empty⟩] := by
  unfold diffI
  rw [List.range_succ, List.filter_append, List.map_append, List.filter_cons, if_pos (decide_eq_true h)]
  rfl
theorem diffI_no {a b : List Int} {i : Nat} (h : rd a (i : Int) = rd b (i : Int)) : diffI a b (i + 1) = diffI a b i := by
  unfold diffI
  rw [List.range_succ, List.filter_append, List.map_append, List.filter_cons, if_neg (by simp [h])]
  simp
theorem diffT_yes {a b : List ByteArray} {i : Nat} (h : ¬ str a i = str b i) : diffT a b (i + 1) = diffT a b i ++ [⟨true, (i : Int), 0, str b i⟩] := by
  unfold diffT
  rw [List.range_succ, List.filter_append, List.map_append, List.filter_cons, if_pos (decide_eq_true h)]
  rfl
theorem diffT_no {a b : List ByteArray} {i : Nat} (h : str a i = str b i) : diffT a b (i + 1) = diffT a b i := by
  unfold diffT
  rw [List.range_succ, List.filter_append, List.map_append, List.filter_cons, if_neg (by simp [h])]
  simp
theorem diffI_len (a b : List Int) (i : Nat) : (diffI a b i).length ≤ i := by
  unfold diffI
  rw [List.length_map]
  exact Nat.le_trans (List.length_filter_le _ _) (by simp)
theorem diffT_len (a b : List ByteArray) (i : Nat) : (diffT a b i).length ≤ i := by
  unfold diffT
  rw [List.length_map]
  exact Nat.le_trans (List.length_filter_le _ _) (by simp)
def alike (a b : Node) : Bool := decide (a.kind = b.kind ∧ a.ints.length = b.ints.length ∧ a.texts.length = b.texts.length)
def diffL (a b : Node) : List SetV := if alike a b = true then diffI a.ints b.ints a.ints.length ++ diffT a.texts b.texts a.texts.length else []
theorem diffL_nil {a b : Node} (h : alike a b = true) : (diffL a b = [] ↔ a.ints = b.ints ∧ a.texts = b.texts) := by
  unfold diffL
  rw [if_pos h, List.append_eq_nil_iff]
  obtain ⟨_, h1, h2⟩ := of_decide_eq_true h
  unfold diffI diffT
  rw [List.map_eq_nil_iff, List.map_eq_nil_iff, List.filter_eq_nil_iff, List.filter_eq_nil_iff]
  constructor
  · rintro ⟨k1, k2⟩
    refine ⟨List.ext_getElem h1 (fun i i1 i2 => ?_), List.ext_getElem h2 (fun i i1 i2 => ?_)⟩
    · have := k1 i (List.mem_range.2 i1)
      rw [← rd_eq i1, ← rd_eq i2]
      simpa using this
    · have := k2 i (List.mem_range.2 i1)
      have e : str a.texts i = str b.texts i := by simpa using this
      unfold str at e
      rw [getD_eq _ i1, getD_eq _ i2] at e
      exact e
  · rintro ⟨k1, k2⟩
    exact ⟨fun i _ => by rw [k1]; simp, fun i _ => by rw [k2]; simp⟩
end Go.Proofs.YtglfebpgdghlfaaDoor.L
end
section
namespace Go.Proofs.YtglfebpgdghlfaaDoor.L
open Go.RowKit Go.ChangeShapes Go.WideShapes Go.Proofs.YtglfebpgdghlfaaDoorW.PrintWords Go.Proofs.YtglfebpgdghlfaaDoorW.PrintLast Go.Proofs.YtglfebpgdghlfaaDoorW.PrintMore
attribute [local go_sem] max2_int min2_int max_two min_two max_three min_three max_four min_four
theorem str_ne {x y : ByteArray} (h : ¬ x = y) : (!(x.toList == y.toList)) = true := by
  have : ¬ x.toList = y.toList := fun e => h (by
    rw [ByteArray.toList_eq, ByteArray.toList_eq] at e
    exact ByteArray.ext (Array.toList_inj.mp e))
  simp [this]
structure DRel (a b : Node) (A1 : Option Addr) (c1 : Nat) (A2 : Option Addr) (c2 : Nat) (A3 : Option Addr) (c3 : Nat) (B1 : Option Addr) (d1 : Nat) (B2 : Option Addr) (d2 : Nat) (B3 : Option Addr) (d3 : Nat) (w : World) (L : List SetV) (v : Value) (W : World) : Prop where
  row : kSet.R 84 W w.heap.size (fun _ => True) v L
  below : Below w.heap.size w W
  ba : W.heap[w.heap.size]? = some (.cells #[.int .i64 a.kind, .slice A1 a.ints.length c1, .slice A2 a.texts.length c2, .slice A3 a.kids.length c3] 26 (0, 0))
  bb : W.heap[w.heap.size + 1]? = some (.cells #[.int .i64 b.kind, .slice B1 a.ints.length d1, .slice B2 a.texts.length d2, .slice B3 b.kids.length d3] 26 (0, 0))
theorem DRel.drew {a b : Node} {A1 : Option Addr} {c1 : Nat} {A2 : Option Addr} {c2 : Nat} {A3 : Option Addr} {c3 : Nat} {B1 : Option Addr} {d1 : Nat} {B2 : Option Addr} {d2 : Nat} {B3 : Option Addr} {d3 : Nat} {w : World} {L : List SetV} {v : Value} {W : World} (h : DRel a b A1 c1 A2 c2 A3 c3 B1 d1 B2 d2 B3 d3 w L v W) : DRel a b A1 c1 A2 c2 A3 c3 B1 d1 B2 d2 B3 d3 w L v W.drew :=
  ⟨Kd.R_drew h.row, pw_below_drewN h.below 1, h.ba, h.bb⟩
def DiffPost (a b : Node) (w : World) (e : Ending) (w' : World) : Prop :=
  ∃ A c, e = .returned (.tuple #[.slice A (diffL a b).length c, .bool (alike a b)]) ∧ kSet.R 84 w' w.heap.size (fun _ => True) (.slice A (diffL a b).length c) (diffL a b) ∧ Below w.heap.size w w'
set_option maxRecDepth 100000 in
set_option maxHeartbeats 4000000 in
theorem diff_any (a b : Node) (A1 : Option Addr) (c1 : Nat) (A2 : Option Addr) (c2 : Nat) (A3 : Option Addr) (c3 : Nat) (B1 : Option Addr) (d1 : Nat) (B2 : Option Addr) (d2 : Nat) (B3 : Option Addr) (d3 : Nat) (w : World) (h : NodeC w a A1 c1 A2 c2 A3 c3) (h' : NodeC w b B1 d1 B2 d2 B3 d3) (hs : Small a) :
    Calls Tryd.prog 83 #[.agg #[.int .i64 a.kind, .slice A1 a.ints.length c1, .slice A2 a.texts.length c2, .slice A3 a.kids.length c3], .agg #[.int .i64 b.kind, .slice B1 b.ints.length d1, .slice B2 b.texts.length d2, .slice B3 b.kids.length d3]] w (DiffPost a b w) := by
  have HA := Aside0.mk h
  have HBn := Aside0.mk h'
  have hs1 := hs.1
  have hs2 := hs.2.1
  have hun := Tryd.underlying26
  have hset := Tryd.underlying84
  have HB := Aside0.mk (below_alloc (below_alloc (Below.refl w.heap.size w) (.cells #[.int .i64 a.kind, .slice A1 a.ints.length c1, .slice A2 a.texts.length c2, .slice A3 a.kids.length c3] 26)) (.cells #[.int .i64 b.kind, .slice B1 b.ints.length d1, .slice B2 b.texts.length d2, .slice B3 b.kids.length d3] 26))
  have HXa := Aside0.mk (show ((w.alloc (.cells #[.int .i64 a.kind, .slice A1 a.ints.length c1, .slice A2 a.texts.length c2, .slice A3 a.kids.length c3] 26)).alloc (.cells #[.int .i64 b.kind, .slice B1 b.ints.length d1, .slice B2 b.texts.length d2, .slice B3 b.kids.length d3] 26)).heap[w.heap.size]? = some (.cells #[.int .i64 a.kind, .slice A1 a.ints.length c1, .slice A2 a.texts.length c2, .slice A3 a.kids.length c3] 26 (0, 0)) from by
    have : (w.alloc (.cells #[.int .i64 a.kind, .slice A1 a.ints.length c1, .slice A2 a.texts.length c2, .slice A3 a.kids.length c3] 26)).heap[w.heap.size]? = some (.cells #[.int .i64 a.kind, .slice A1 a.ints.length c1, .slice A2 a.texts.length c2, .slice A3 a.kids.length c3] 26 (0, 0)) := by simpa using heap_alloc_new w _
    exact (Below.block (below_alloc (Below.refl _ _) _) _ (by simp)).trans this)
  have HXb := Aside0.mk (show ((w.alloc (.cells #[.int .i64 a.kind, .slice A1 a.ints.length c1, .slice A2 a.texts.length c2, .slice A3 a.kids.length c3] 26)).alloc (.cells #[.int .i64 b.kind, .slice B1 b.ints.length d1, .slice B2 b.texts.length d2, .slice B3 b.kids.length d3] 26)).heap[w.heap.size + 1]? = some (.cells #[.int .i64 b.kind, .slice B1 b.ints.length d1, .slice B2 b.texts.length d2, .slice B3 b.kids.length d3] 26 (0, 0)) from by
    have := heap_alloc_new (w.alloc (.cells #[.int .i64 a.kind, .slice A1 a.ints.length c1, .slice A2 a.texts.length c2, .slice A3 a.kids.length c3] 26)) (.cells #[.int .i64 b.kind, .slice B1 b.ints.length d1, .slice B2 b.texts.length d2, .slice B3 b.kids.length d3] 26)
    simpa using this)
  have a0 := (blk_cell HXa.out 0).trans rfl
  have a1 := (blk_cell HXa.out 1).trans rfl
  have a2 := (blk_cell HXa.out 2).trans rfl
  have q0 := (blk_cell HXb.out 0).trans rfl
  have q1 := (blk_cell HXb.out 1).trans rfl
  have q2 := (blk_cell HXb.out 2).trans rfl
  clear h h' hs
  have fin : ∀ W, alike a b = false → Below w.heap.size w W → DiffPost a b w (.returned (.tuple #[.slice none 0 0, .bool false])) W := fun W hf hB => by
    have hd : diffL a b = [] := by unfold diffL; rw [hf, if_neg (by simp)]
    exact ⟨none, 0, by rw [hd, hf]; rfl, by rw [hd]; exact Kd.R_nil _ _ _ _ _, hB⟩
  have FIN := Aside0.mk fin
  clear fin
  by_cases h1 : a.kind = b.kind
  · by_cases h2 : a.ints.length = b.ints.length
    · by_cases h3 : a.texts.length = b.texts.length
      · have HAl : Aside0 (alike a b = true) := ⟨decide_eq_true ⟨h1, h2, h3⟩⟩
        have dk : (a.kind != b.kind) = false := by simp [h1]
        have H23 := Aside0.mk (And.intro h2 h3)
        rw [← h2] at q1 HB HXa HXb a0 a1 a2 q0 q2 ⊢
        rw [← h3] at q1 HB HXa HXb a0 a1 a2 q0 q2 ⊢
        clear h1 h2 h3
        go_enter Tryd.func83, Tryd.ntmps83
        go_wp2
        have H0 := Aside0.mk (show DRel a b A1 c1 A2 c2 A3 c3 B1 d1 B2 d2 B3 d3 w (diffI a.ints b.ints 0) (.slice (some ⟨w.heap.size + 1 + 1, 0, none⟩) 0 0) (((w.alloc (.cells #[.int .i64 a.kind, .slice A1 a.ints.length c1, .slice A2 a.texts.length c2, .slice A3 a.kids.length c3] 26)).alloc (.cells #[.int .i64 b.kind, .slice B1 a.ints.length d1, .slice B2 a.texts.length d2, .slice B3 b.kids.length d3] 26)).alloc (.cells #[] 84)) from
          ⟨by have h := R_empty kSet 84 ((w.alloc (.cells #[.int .i64 a.kind, .slice A1 a.ints.length c1, .slice A2 a.texts.length c2, .slice A3 a.kids.length c3] 26)).alloc (.cells #[.int .i64 b.kind, .slice B1 a.ints.length d1, .slice B2 a.texts.length d2, .slice B3 b.kids.length d3] 26)) w.heap.size HB.out.size; rw [show (((w.alloc (.cells #[.int .i64 a.kind, .slice A1 a.ints.length c1, .slice A2 a.texts.length c2, .slice A3 a.kids.length c3] 26)).alloc (.cells #[.int .i64 b.kind, .slice B1 a.ints.length d1, .slice B2 a.texts.length d2, .slice B3 b.kids.length d3] 26)).heap.size) = w.heap.size + 1 + 1 from by simp] at h; exact h, below_step HB.out (below_alloc (Below.refl _ _) _), ((below_alloc (Below.refl _ _) _).block _ (blk_lt HXa.out)).trans HXa.out, ((below_alloc (Below.refl _ _) _).block _ (blk_lt HXb.out)).trans HXb.out⟩)
        clear a0 a1 a2 q0 q1 q2 dk
        go_loopw [7, 6] (fun v7 v6 W => ∃ i : Nat, i ≤ a.ints.length ∧ v7 = .int .i64 i ∧ Aside0 (DRel a b A1 c1 A2 c2 A3 c3 B1 d1 B2 d2 B3 d3 w (diffI a.ints b.ints i) v6 W)) (fun v7 _ _ => a.ints.length - (intOf v7).toNat)
        case atStart => exact ⟨0, by omega, rfl, H0⟩
        case round =>
          clear H0
          obtain ⟨i, hi, rfl, H0⟩ := hrel
          have a1 := (blk_cell H0.out.ba 1).trans rfl
          have q1 := (blk_cell H0.out.bb 1).trans rfl
          by_cases hlt : i < a.ints.length
          · obtain ⟨ad, rfl, x1⟩ := at_nat (Kd.C_below HA.out.i H0.out.below) i hlt
            obtain ⟨bd, rfl, x2⟩ := at_nat (Kd.C_below HBn.out.i H0.out.below) i (by rw [← H23.out.1]; exact hlt)
            by_cases he : rd a.ints (i : Int) = rd b.ints (i : Int)
            · have de : (rd a.ints (i : Int) != rd b.ints (i : Int)) = false := by simp [he]
              have H1 := Aside0.mk (show DRel a b (some ad) c1 A2 c2 A3 c3 (some bd) d1 B2 d2 B3 d3 w (diffI a.ints b.ints (i + 1)) _ wr.drew from by rw [diffI_no he]; exact H0.out.drew)
              clear he
              go_wp2
              go_region
              clear x1 x2 a1 q1
              go_wp2
              go_roundw
              case rel => exact ⟨i + 1, by omega, by go_num, H1⟩
              case measure => simp [intOf]; omega
            · have de : (rd a.ints (i : Int) != rd b.ints (i : Int)) = true := by simp [he]
              have HY := Aside0.mk (diffI_yes he)
              have hdl := diffI_len a.ints b.ints i
              clear he
              obtain ⟨Av, cv, hv⟩ := Kd.R_slice H0.out.row
              subst hv
              go_wp2
              go_region
              clear x1 a1 q1 x2
              have H1 := Aside0.mk H0.out.drew
              clear H0
              generalize wr.drew = W2 at H1 ⊢
              have q1 := (blk_cell H1.out.bb 1).trans rfl
              obtain ⟨bd', he', x2⟩ := at_nat (Kd.C_below HBn.out.i H1.out.below) i (by rw [← H23.out.1]; exact hlt)
              injection he' with he'
              subst he'
              go_wp2_with (at_builtin; refine Kd.R_append kSet (w0 := w) w.heap.size rfl (.tmp 51) (.tmp 59) 58 84 (.agg #[.bool false, .int .i64 0, .int .i64 0, .string ByteArray.empty]) 40 rfl Tryd.underlying58 info_set rfl (by decide) (by omega) (.slice Av (diffI a.ints b.ints i).length cv) (diffI a.ints b.ints i) ⟨false, (i : Int), rd b.ints (i : Int), ByteArray.empty⟩ [.bool false, .int .i64 (i : Int), .int .i64 (rd b.ints (i : Int)), .string ByteArray.empty] (fun _ => True) (fun _ => False) rfl (by go_simp) (kSet_mk _ _ _ _) (fun _ h => h.elim) (fun _ _ => trivial) H1.out.row H1.out.below H1.out.below.size (by omega) ?_; intro v2 w3 hR2 hB2 hg2 hat2; have H3 := Aside0.mk (show DRel a b (some ad) c1 A2 c2 A3 c3 (some bd) d1 B2 d2 B3 d3 w (diffI a.ints b.ints (i + 1)) v2 w3 from ⟨by rw [HY.out]; exact hR2, hB2, blk_grown H1.out.ba hg2 (Kd.R_ne H1.out.row H1.out.ba (by decide)), blk_grown H1.out.bb hg2 (Kd.R_ne H1.out.row H1.out.bb (by decide))⟩); clear hR2 hB2 hg2 hat2)
              go_roundw
              case rel => exact ⟨i + 1, by omega, by go_num, H3⟩
              case measure => simp [intOf]; omega
          · obtain rfl : i = a.ints.length := by omega
            have H2 := Aside0.mk (show DRel a b A1 c1 A2 c2 A3 c3 B1 d1 B2 d2 B3 d3 w (diffI a.ints b.ints a.ints.length ++ diffT a.texts b.texts 0) u6 wr from by
              have e : diffI a.ints b.ints a.ints.length ++ diffT a.texts b.texts 0 = diffI a.ints b.ints a.ints.length := List.append_nil _
              rw [e]; exact H0.out)
            have hdi := diffI_len a.ints b.ints a.ints.length
            clear H0
            go_wp2
            clear a1 q1
            go_loopw [8, 6] (fun v8 v6 W => ∃ i : Nat, i ≤ a.texts.length ∧ v8 = .int .i64 i ∧ Aside0 (DRel a b A1 c1 A2 c2 A3 c3 B1 d1 B2 d2 B3 d3 w (diffI a.ints b.ints a.ints.length ++ diffT a.texts b.texts i) v6 W)) (fun v8 _ _ => a.texts.length - (intOf v8).toNat)
            case atStart => exact ⟨0, by omega, rfl, H2⟩
            case round =>
              clear H2
              obtain ⟨i, hi, rfl, H0⟩ := hrel
              have a2 := (blk_cell H0.out.ba 2).trans rfl
              have q2 := (blk_cell H0.out.bb 2).trans rfl
              by_cases hlt : i < a.texts.length
              · obtain ⟨ad, rfl, x1⟩ := at_str (Kd.C_below HA.out.t H0.out.below) i hlt
                obtain ⟨bd, rfl, x2⟩ := at_str (Kd.C_below HBn.out.t H0.out.below) i (by rw [← H23.out.2]; exact hlt)
                by_cases he : str a.texts i = str b.texts i
                · have de : (!((str a.texts i).toList == (str b.texts i).toList)) = false := by rw [he]; simp
                  have H1 := Aside0.mk (show DRel a b A1 c1 (some ad) c2 A3 c3 B1 d1 (some bd) d2 B3 d3 w (diffI a.ints b.ints a.ints.length ++ diffT a.texts b.texts (i + 1)) _ wr.drew from by rw [diffT_no he]; exact H0.out.drew)
                  clear he
                  go_wp2
                  go_region
                  clear x1 x2 a2 q2
                  go_wp2
                  go_roundw
                  case rel => exact ⟨i + 1, by omega, by go_num, H1⟩
                  case measure => simp [intOf]; omega
                · have de : (!((str a.texts i).toList == (str b.texts i).toList)) = true := str_ne he
                  have HY := Aside0.mk (diffT_yes he)
                  have hdt := diffT_len a.texts b.texts i
                  clear he
                  obtain ⟨Av, cv, hv⟩ := Kd.R_slice H0.out.row
                  obtain ⟨L0, hL0⟩ : ∃ L, L = diffI a.ints b.ints a.ints.length ++ diffT a.texts b.texts i := ⟨_, rfl⟩
                  have hL0l : L0.length ≤ 3000000 := by rw [hL0, List.length_append]; omega
                  have HL0 := Aside0.mk hL0
                  rw [← hL0] at hv H0
                  subst hv
                  clear hL0 hdt
                  go_wp2
                  go_region
                  clear x1 a2 q2 x2
                  have H1 := Aside0.mk H0.out.drew
                  clear H0
                  generalize wr.drew = W2 at H1 ⊢
                  have q2 := (blk_cell H1.out.bb 2).trans rfl
                  obtain ⟨bd', he', x2⟩ := at_str (Kd.C_below HBn.out.t H1.out.below) i (by rw [← H23.out.2]; exact hlt)
                  injection he' with he'
                  subst he'
                  go_wp2_with (at_builtin; refine Kd.R_append kSet (w0 := w) w.heap.size rfl (.tmp 79) (.tmp 87) 58 84 (.agg #[.bool false, .int .i64 0, .int .i64 0, .string ByteArray.empty]) 40 rfl Tryd.underlying58 info_set rfl (by decide) (by omega) (.slice Av L0.length cv) L0 ⟨true, (i : Int), 0, str b.texts i⟩ [.bool true, .int .i64 (i : Int), .int .i64 0, .string (str b.texts i)] (fun _ => True) (fun _ => False) rfl (by go_simp) (kSet_mk _ _ _ _) (fun _ h => h.elim) (fun _ _ => trivial) H1.out.row H1.out.below H1.out.below.size (by omega) ?_; intro v2 w3 hR2 hB2 hg2 hat2; have H3 := Aside0.mk (show DRel a b A1 c1 (some ad) c2 A3 c3 B1 d1 (some bd) d2 B3 d3 w (diffI a.ints b.ints a.ints.length ++ diffT a.texts b.texts (i + 1)) v2 w3 from ⟨by rw [HY.out, ← List.append_assoc, ← HL0.out]; exact hR2, hB2, blk_grown H1.out.ba hg2 (Kd.R_ne H1.out.row H1.out.ba (by decide)), blk_grown H1.out.bb hg2 (Kd.R_ne H1.out.row H1.out.bb (by decide))⟩); clear hR2 hB2 hg2 hat2)
                  go_roundw
                  case rel => exact ⟨i + 1, by omega, by go_num, H3⟩
                  case measure => simp [intOf]; omega
              · obtain rfl : i = a.texts.length := by omega
                have HD : Aside0 (diffL a b = diffI a.ints b.ints a.ints.length ++ diffT a.texts b.texts a.texts.length) := ⟨by unfold diffL; rw [if_pos HAl.out]⟩
                go_wp2
                go_ret2
                obtain ⟨Av, cv, hv⟩ := Kd.R_slice H0.out.row
                exact ⟨Av, cv, by rw [HAl.out, HD.out, ← hv]; rfl, by rw [HD.out, ← hv]; exact H0.out.row, H0.out.below⟩
      · have hf : alike a b = false := decide_eq_false (fun h => h3 h.2.2)
        have HF := Aside0.mk hf
        have dk : (a.kind != b.kind) = false := by simp [h1]
        have dl : (a.texts.length != b.texts.length) = true := by simp [h3]
        have dl' : ((a.texts.length : Int) != (b.texts.length : Int)) = true := by simp; omega
        rw [← h2] at q1 HB HXa HXb a0 a1 a2 q0 q2 ⊢
        clear h1 h2 h3 hf
        go_enter Tryd.func83, Tryd.ntmps83
        go_wp2
        go_ret2
        exact FIN.out _ HF.out HB.out
    · have hf : alike a b = false := decide_eq_false (fun h => h2 h.2.1)
      have HF := Aside0.mk hf
      have dk : (a.kind != b.kind) = false := by simp [h1]
      have dl : (a.ints.length != b.ints.length) = true := by simp [h2]
      have dl' : ((a.ints.length : Int) != (b.ints.length : Int)) = true := by simp; omega
      clear h1 h2 hf
      go_enter Tryd.func83, Tryd.ntmps83
      go_wp2
      go_ret2
      exact FIN.out _ HF.out HB.out
  · have hf : alike a b = false := decide_eq_false (fun h => h1 h.1)
    have HF := Aside0.mk hf
    have dk : (a.kind != b.kind) = true := by simp [h1]
    clear h1 hf
    go_enter Tryd.func83, Tryd.ntmps83
    go_wp2
    go_ret2
    exact FIN.out _ HF.out HB.out
end Go.Proofs.YtglfebpgdghlfaaDoor.L
end
section
namespace Go.Proofs.YtglfebpgdghlfaaDoor.L
open Go.RowKit Go.ChangeShapes Go.WideShapes Go.Proofs.YtglfebpgdghlfaaDoorW.PrintWords Go.Proofs.YtglfebpgdghlfaaDoorW.PrintLast Go.Proofs.YtglfebpgdghlfaaDoorW.PrintMore
attribute [local go_sem] max2_int min2_int max_two min_two max_three min_three max_four min_four
def ownN (a b : Node) : Bool := decide (a.kind = b.kind ∧ a.ints = b.ints ∧ a.texts = b.texts)
theorem ownN_eq (a b : Node) : ownN a b = (alike a b && decide ((diffL a b).length = 0)) := by
  cases h : alike a b with
  | false =>
    refine decide_eq_false (fun hh => ?_)
    have : alike a b = true := decide_eq_true ⟨hh.1, by rw [hh.2.1], by rw [hh.2.2]⟩
    rw [h] at this; cases this
  | true =>
    have hk := (of_decide_eq_true h).1
    rw [Bool.true_and]
    unfold ownN
    refine decide_eq_decide.2 ⟨fun hh => ?_, fun hh => ?_⟩
    · rw [(diffL_nil h).2 hh.2]; rfl
    · exact ⟨hk, (diffL_nil h).1 (List.eq_nil_of_length_eq_zero hh)⟩
set_option maxRecDepth 100000 in
set_option maxHeartbeats 2000000 in
theorem own_any (a b : Node) (A1 : Option Addr) (c1 : Nat) (A2 : Option Addr) (c2 : Nat) (A3 : Option Addr) (c3 : Nat) (B1 : Option Addr) (d1 : Nat) (B2 : Option Addr) (d2 : Nat) (B3 : Option Addr) (d3 : Nat) (w : World) (h : NodeC w a A1 c1 A2 c2 A3 c3) (h' : NodeC w b B1 d1 B2 d2 B3 d3) (hs : Small a) :
    Calls Tryd.prog 42 #[.agg #[.int .i64 a.kind, .slice A1 a.ints.length c1, .slice A2 a.texts.length c2, .slice A3 a.kids.length c3], .agg #[.int .i64 b.kind, .slice B1 b.ints.length d1, .slice B2 b.texts.length d2, .slice B3 b.kids.length d3]] w fun e w' => e = .returned (.bool (ownN a b)) ∧ Below w.heap.size w w' := by
  have HA := Aside0.mk h
  have HBn := Aside0.mk h'
  have HSm := Aside0.mk hs
  have hun := Tryd.underlying26
  have HB := Aside0.mk (below_alloc (below_alloc (Below.refl w.heap.size w) (.cells #[.int .i64 a.kind, .slice A1 a.ints.length c1, .slice A2 a.texts.length c2, .slice A3 a.kids.length c3] 26)) (.cells #[.int .i64 b.kind, .slice B1 b.ints.length d1, .slice B2 b.texts.length d2, .slice B3 b.kids.length d3] 26))
  have HXa := Aside0.mk (show ((w.alloc (.cells #[.int .i64 a.kind, .slice A1 a.ints.length c1, .slice A2 a.texts.length c2, .slice A3 a.kids.length c3] 26)).alloc (.cells #[.int .i64 b.kind, .slice B1 b.ints.length d1, .slice B2 b.texts.length d2, .slice B3 b.kids.length d3] 26)).heap[w.heap.size]? = some (.cells #[.int .i64 a.kind, .slice A1 a.ints.length c1, .slice A2 a.texts.length c2, .slice A3 a.kids.length c3] 26 (0, 0)) from by
    have : (w.alloc (.cells #[.int .i64 a.kind, .slice A1 a.ints.length c1, .slice A2 a.texts.length c2, .slice A3 a.kids.length c3] 26)).heap[w.heap.size]? = some (.cells #[.int .i64 a.kind, .slice A1 a.ints.length c1, .slice A2 a.texts.length c2, .slice A3 a.kids.length c3] 26 (0, 0)) := by simpa using heap_alloc_new w _
    exact (Below.block (below_alloc (Below.refl _ _) _) _ (by simp)).trans this)
  have HXb := Aside0.mk (show ((w.alloc (.cells #[.int .i64 a.kind, .slice A1 a.ints.length c1, .slice A2 a.texts.length c2, .slice A3 a.kids.length c3] 26)).alloc (.cells #[.int .i64 b.kind, .slice B1 b.ints.length d1, .slice B2 b.texts.length d2, .slice B3 b.kids.length d3] 26)).heap[w.heap.size + 1]? = some (.cells #[.int .i64 b.kind, .slice B1 b.ints.length d1, .slice B2 b.texts.length d2, .slice B3 b.kids.length d3] 26 (0, 0)) from by
    have := heap_alloc_new (w.alloc (.cells #[.int .i64 a.kind, .slice A1 a.ints.length c1, .slice A2 a.texts.length c2, .slice A3 a.kids.length c3] 26)) (.cells #[.int .i64 b.kind, .slice B1 b.ints.length d1, .slice B2 b.texts.length d2, .slice B3 b.kids.length d3] 26)
    simpa using this)
  have a0 := (blk_cell HXa.out 0).trans rfl
  have a1 := (blk_cell HXa.out 1).trans rfl
  have a2 := (blk_cell HXa.out 2).trans rfl
  have q0 := (blk_cell HXb.out 0).trans rfl
  have q1 := (blk_cell HXb.out 1).trans rfl
  have q2 := (blk_cell HXb.out 2).trans rfl
  have a3 := (blk_cell HXa.out 3).trans rfl
  have q3 := (blk_cell HXb.out 3).trans rfl
  clear h h' hs
  go_enter Tryd.func42, Tryd.ntmps42
  go_wp2_with fail
  refine (diff_any a b A1 c1 A2 c2 A3 c3 B1 d1 B2 d2 B3 d3 _ (HA.out.below HB.out) (HBn.out.below HB.out) HSm.out).mono ?_
  rintro e w1 ⟨A, c, rfl, hR, hB⟩
  have HB1 := Aside0.mk (below_step HB.out hB)
  have hE := ownN_eq a b
  clear hR hB a0 a1 a2 a3 q0 q1 q2 q3
  cases hal : alike a b with
  | false =>
    have HE : Aside0 (ownN a b = false) := ⟨by rw [hE, hal]; rfl⟩
    clear hE hal
    go_wp2
    go_ret
    exact ⟨ret_bool HE.out.symm, HB1.out⟩
  | true =>
    by_cases hz : (diffL a b).length = 0
    · have HE : Aside0 (ownN a b = true) := ⟨by rw [hE, hal, decide_eq_true hz]; rfl⟩
      clear hE hal
      rw [hz]
      go_wp2
      go_ret
      exact ⟨ret_bool HE.out.symm, HB1.out⟩
    · have HE : Aside0 (ownN a b = false) := ⟨by rw [hE, hal, decide_eq_false hz]; rfl⟩
      obtain ⟨m, hm⟩ : ∃ m, (diffL a b).length = m + 1 := ⟨(diffL a b).length - 1, by omega⟩
      have d0 : ((m : Int) + 1 == 0) = false := by simp; omega
      clear hE hal hz
      rw [hm]
      go_wp2
      go_ret
      exact ⟨ret_bool HE.out.symm, HB1.out⟩
end Go.Proofs.YtglfebpgdghlfaaDoor.L
end
section
namespace Go.Proofs.YtglfebpgdghlfaaDoor.L
open Go.RowKit Go.ChangeShapes Go.WideShapes Go.Proofs.YtglfebpgdghlfaaDoorW.PrintWords Go.Proofs.YtglfebpgdghlfaaDoorW.PrintLast Go.Proofs.YtglfebpgdghlfaaDoorW.PrintMore
attribute [local go_sem] max2_int min2_int max_two min_two max_three min_three max_four min_four
def sameN (a b : Node) : Bool := decide (a.kind = b.kind ∧ a.ints = b.ints ∧ a.texts = b.texts ∧ a.kids = b.kids)
theorem sameN_iff {a b : Node} : sameN a b = true ↔ a = b := by
  unfold sameN
  constructor
  · intro h
    have h := of_decide_eq_true h
    cases a; cases b
    simp only at h
    obtain ⟨rfl, rfl, rfl, rfl⟩ := h
    rfl
  · rintro rfl; exact decide_eq_true ⟨rfl, rfl, rfl, rfl⟩
set_option maxRecDepth 100000 in
set_option maxHeartbeats 2000000 in
theorem same_any (a b : Node) (A1 : Option Addr) (c1 : Nat) (A2 : Option Addr) (c2 : Nat) (A3 : Option Addr) (c3 : Nat) (B1 : Option Addr) (d1 : Nat) (B2 : Option Addr) (d2 : Nat) (B3 : Option Addr) (d3 : Nat) (w : World) (h : NodeC w a A1 c1 A2 c2 A3 c3) (h' : NodeC w b B1 d1 B2 d2 B3 d3) (hs : Small a) :
    Calls Tryd.prog 17 #[.agg #[.int .i64 a.kind, .slice A1 a.ints.length c1, .slice A2 a.texts.length c2, .slice A3 a.kids.length c3], .agg #[.int .i64 b.kind, .slice B1 b.ints.length d1, .slice B2 b.texts.length d2, .slice B3 b.kids.length d3]] w fun e w' => e = .returned (.bool (sameN a b)) ∧ Below w.heap.size w w' := by
  have HA := Aside0.mk h
  have HBn := Aside0.mk h'
  have HSm := Aside0.mk hs
  have hs3 := hs.2.2
  have hun := Tryd.underlying26
  have HB := Aside0.mk (below_alloc (below_alloc (Below.refl w.heap.size w) (.cells #[.int .i64 a.kind, .slice A1 a.ints.length c1, .slice A2 a.texts.length c2, .slice A3 a.kids.length c3] 26)) (.cells #[.int .i64 b.kind, .slice B1 b.ints.length d1, .slice B2 b.texts.length d2, .slice B3 b.kids.length d3] 26))
  have HXa := Aside0.mk (show ((w.alloc (.cells #[.int .i64 a.kind, .slice A1 a.ints.length c1, .slice A2 a.texts.length c2, .slice A3 a.kids.length c3] 26)).alloc (.cells #[.int .i64 b.kind, .slice B1 b.ints.length d1, .slice B2 b.texts.length d2, .slice B3 b.kids.length d3] 26)).heap[w.heap.size]? = some (.cells #[.int .i64 a.kind, .slice A1 a.ints.length c1, .slice A2 a.texts.length c2, .slice A3 a.kids.length c3] 26 (0, 0)) from by
    have : (w.alloc (.cells #[.int .i64 a.kind, .slice A1 a.ints.length c1, .slice A2 a.texts.length c2, .slice A3 a.kids.length c3] 26)).heap[w.heap.size]? = some (.cells #[.int .i64 a.kind, .slice A1 a.ints.length c1, .slice A2 a.texts.length c2, .slice A3 a.kids.length c3] 26 (0, 0)) := by simpa using heap_alloc_new w _
    exact (Below.block (below_alloc (Below.refl _ _) _) _ (by simp)).trans this)
  have HXb := Aside0.mk (show ((w.alloc (.cells #[.int .i64 a.kind, .slice A1 a.ints.length c1, .slice A2 a.texts.length c2, .slice A3 a.kids.length c3] 26)).alloc (.cells #[.int .i64 b.kind, .slice B1 b.ints.length d1, .slice B2 b.texts.length d2, .slice B3 b.kids.length d3] 26)).heap[w.heap.size + 1]? = some (.cells #[.int .i64 b.kind, .slice B1 b.ints.length d1, .slice B2 b.texts.length d2, .slice B3 b.kids.length d3] 26 (0, 0)) from by
    have := heap_alloc_new (w.alloc (.cells #[.int .i64 a.kind, .slice A1 a.ints.length c1, .slice A2 a.texts.length c2, .slice A3 a.kids.length c3] 26)) (.cells #[.int .i64 b.kind, .slice B1 b.ints.length d1, .slice B2 b.texts.length d2, .slice B3 b.kids.length d3] 26)
    simpa using this)
  have a0 := (blk_cell HXa.out 0).trans rfl
  have a1 := (blk_cell HXa.out 1).trans rfl
  have a2 := (blk_cell HXa.out 2).trans rfl
  have q0 := (blk_cell HXb.out 0).trans rfl
  have q1 := (blk_cell HXb.out 1).trans rfl
  have q2 := (blk_cell HXb.out 2).trans rfl
  have a3 := (blk_cell HXa.out 3).trans rfl
  have q3 := (blk_cell HXb.out 3).trans rfl
  clear h h' hs
  go_enter Tryd.func17, Tryd.ntmps17
  go_wp2_with fail
  refine (own_any a b A1 c1 A2 c2 A3 c3 B1 d1 B2 d2 B3 d3 _ (HA.out.below HB.out) (HBn.out.below HB.out) HSm.out).mono ?_
  rintro e w1 ⟨rfl, hB⟩
  have HB1 := Aside0.mk (below_step HB.out hB)
  replace HXa := Aside0.mk ((hB.block _ (blk_lt HXa.out)).trans HXa.out)
  replace HXb := Aside0.mk ((hB.block _ (blk_lt HXb.out)).trans HXb.out)
  replace a3 := (blk_cell HXa.out 3).trans rfl
  replace q3 := (blk_cell HXb.out 3).trans rfl
  clear hB a0 a1 a2 q0 q1 q2
  cases how : ownN a b with
  | false =>
    have HE : Aside0 (sameN a b = false) := ⟨decide_eq_false (fun hh => by
      have : ownN a b = true := decide_eq_true ⟨hh.1, hh.2.1, hh.2.2.1⟩
      rw [how] at this; cases this)⟩
    clear how
    go_wp2
    go_ret
    exact ⟨ret_bool HE.out.symm, HB1.out⟩
  | true =>
    have HO := Aside0.mk (of_decide_eq_true how)
    clear how
    by_cases hl : a.kids.length = b.kids.length
    · have HLn := Aside0.mk hl
      rw [← hl] at q3 HXb
      clear hl
      go_wp2
      go_loopw [5] (fun v5 W => ∃ i : Nat, i ≤ a.kids.length ∧ v5 = .int .i64 i ∧ Aside0 (∀ j : Nat, j < i → rd a.kids (j : Int) = rd b.kids (j : Int)) ∧ Aside0 (Below w1.heap.size w1 W)) (fun v5 _ => a.kids.length - (intOf v5).toNat)
      case atStart => exact ⟨0, by omega, rfl, ⟨fun j h => by omega⟩, ⟨Below.refl _ _⟩⟩
      case round =>
        obtain ⟨i, hi, rfl, HJ, HW⟩ := hrel
        replace a3 := pw_cell_below HW.out a3
        replace q3 := pw_cell_below HW.out q3
        by_cases hlt : i < a.kids.length
        · obtain ⟨ad, rfl, x1⟩ := at_nat (Kd.C_below HA.out.k (below_step HB1.out HW.out)) i hlt
          obtain ⟨bd, rfl, x2⟩ := at_nat (Kd.C_below HBn.out.k (below_step HB1.out HW.out)) i (by rw [← HLn.out]; exact hlt)
          by_cases he : rd a.kids (i : Int) = rd b.kids (i : Int)
          · have de : (rd a.kids (i : Int) != rd b.kids (i : Int)) = false := by simp [he]
            have HJ2 := Aside0.mk (ext_lt HJ.out he)
            have HW2 := Aside0.mk (pw_below_drewN HW.out 1)
            clear he
            go_wp2
            go_region
            go_wp2
            go_roundw
            case rel => exact ⟨i + 1, by omega, by go_num, HJ2, HW2⟩
            case measure => simp [intOf]; omega
          · have de : (rd a.kids (i : Int) != rd b.kids (i : Int)) = true := by simp [he]
            have HE : Aside0 (sameN a b = false) := ⟨decide_eq_false (fun hh => he (by rw [hh.2.2.2]))⟩
            clear he
            go_wp2
            go_region
            go_wp2
            go_ret
            exact ⟨ret_bool HE.out.symm, pw_below_drewN (below_step HB1.out HW.out) 1⟩
        · obtain rfl : i = a.kids.length := by omega
          have HE : Aside0 (sameN a b = true) := ⟨decide_eq_true ⟨HO.out.1, HO.out.2.1, HO.out.2.2, List.ext_getElem HLn.out (fun j h1 h2 => by rw [← rd_eq h1, ← rd_eq h2]; exact HJ.out j h1)⟩⟩
          go_wp2
          go_ret
          exact ⟨ret_bool HE.out.symm, below_step HB1.out HW.out⟩
    · have HE : Aside0 (sameN a b = false) := ⟨decide_eq_false (fun hh => hl (by rw [hh.2.2.2]))⟩
      have dl : (a.kids.length != b.kids.length) = true := by simp [hl]
      have dl' : ((a.kids.length : Int) != (b.kids.length : Int)) = true := by simp; omega
      clear hl
      go_wp2
      go_ret
      exact ⟨ret_bool HE.out.symm, HB1.out⟩
end Go.Proofs.YtglfebpgdghlfaaDoor.L
end
section
namespace Go.Proofs.YtglfebpgdghlfaaDoor.L
open Go.RowKit Go.ChangeShapes Go.WideShapes Go.Proofs.YtglfebpgdghlfaaDoorW.PrintWords Go.Proofs.YtglfebpgdghlfaaDoorW.PrintLast Go.Proofs.YtglfebpgdghlfaaDoorW.PrintMore
attribute [local go_sem] max2_int min2_int max_two min_two max_three min_three max_four min_four
theorem nodes_ext {xs ys : List Node} (hl : xs.length = ys.length) (h : ∀ j : Nat, j < xs.length → nd xs j = nd ys j) : xs = ys := List.ext_getElem hl (fun j h1 h2 => by
  have := h j h1
  unfold nd at this
  rw [getD_eq _ h1, getD_eq _ h2] at this
  exact this)
end Go.Proofs.YtglfebpgdghlfaaDoor.L
end
section
namespace Go.Proofs.YtglfebpgdghlfaaDoor.L
open Go.RowKit Go.ChangeShapes Go.WideShapes Go.Proofs.YtglfebpgdghlfaaDoorW.PrintWords Go.Proofs.YtglfebpgdghlfaaDoorW.PrintLast Go.Proofs.YtglfebpgdghlfaaDoorW.PrintMore
attribute [local go_sem] max2_int min2_int max_two min_two max_three min_three max_four min_four
open Classical in
noncomputable def sameS (s t : Scene) : Bool := decide (s = t)
theorem sameS_yes {s t : Scene} (h : s = t) : sameS s t = true := by unfold sameS; simp [h]
theorem sameS_no {s t : Scene} (h : ¬ s = t) : sameS s t = false := by unfold sameS; simp [h]
theorem scene_ext {s t : Scene} (h1 : s.nodes = t.nodes) (h2 : s.root = t.root) : s = t := by cases s; cases t; simp only at h1 h2; subst h1 h2; rfl
set_option maxRecDepth 100000 in
set_option maxHeartbeats 4000000 in
theorem sameS_any (A : Option Addr) (c : Nat) (s : Scene) (B : Option Addr) (d : Nat) (t : Scene) (w : World) (h : kNode.C w A s.nodes.length s.nodes) (h' : kNode.C w B t.nodes.length t.nodes) (hs : ∀ i : Nat, i < s.nodes.length → Small (nd s.nodes i)) :
    Calls Tryd.prog 23 #[.agg #[.slice A s.nodes.length c, .int .i64 s.root], .agg #[.slice B t.nodes.length d, .int .i64 t.root]] w fun e w' => e = .returned (.bool (sameS s t)) ∧ Below w.heap.size w w' := by
  have HA := Aside0.mk h
  have HBn := Aside0.mk h'
  have HSm := Aside0.mk hs
  have b0 := h.2.1
  have HB := Aside0.mk (below_alloc (below_alloc (Below.refl w.heap.size w) (.cells #[.slice A s.nodes.length c, .int .i64 s.root] 39)) (.cells #[.slice B t.nodes.length d, .int .i64 t.root] 39))
  have HXa := Aside0.mk (show ((w.alloc (.cells #[.slice A s.nodes.length c, .int .i64 s.root] 39)).alloc (.cells #[.slice B t.nodes.length d, .int .i64 t.root] 39)).heap[w.heap.size]? = some (.cells #[.slice A s.nodes.length c, .int .i64 s.root] 39 (0, 0)) from by
    have : (w.alloc (.cells #[.slice A s.nodes.length c, .int .i64 s.root] 39)).heap[w.heap.size]? = some (.cells #[.slice A s.nodes.length c, .int .i64 s.root] 39 (0, 0)) := by simpa using heap_alloc_new w _
    exact (Below.block (below_alloc (Below.refl _ _) _) _ (by simp)).trans this)
  have HXb := Aside0.mk (show ((w.alloc (.cells #[.slice A s.nodes.length c, .int .i64 s.root] 39)).alloc (.cells #[.slice B t.nodes.length d, .int .i64 t.root] 39)).heap[w.heap.size + 1]? = some (.cells #[.slice B t.nodes.length d, .int .i64 t.root] 39 (0, 0)) from by
    have := heap_alloc_new (w.alloc (.cells #[.slice A s.nodes.length c, .int .i64 s.root] 39)) (.cells #[.slice B t.nodes.length d, .int .i64 t.root] 39)
    simpa using this)
  have hus := Tryd.underlying39
  have a0 := (blk_cell HXa.out 0).trans rfl
  have a1 := (blk_cell HXa.out 1).trans rfl
  have q0 := (blk_cell HXb.out 0).trans rfl
  have q1 := (blk_cell HXb.out 1).trans rfl
  have hun := Tryd.underlying26
  clear h h' hs
  by_cases hr : ¬ s.root = t.root
  · have HE : Aside0 (sameS s t = false) := ⟨sameS_no (fun e => hr (by rw [e]))⟩
    have dr : (s.root != t.root) = true := by simp [hr]
    clear hr
    go_enter Tryd.func23, Tryd.ntmps23
    go_wp2
    go_ret
    exact ⟨ret_bool HE.out.symm, HB.out⟩
  replace hr := Classical.byContradiction hr
  have HRo := Aside0.mk hr
  have dr : (s.root != t.root) = false := by simp [hr]
  clear hr
  by_cases hl : s.nodes.length = t.nodes.length
  · have HL := Aside0.mk hl
    rw [← hl] at q0 HXb HXa a0 a1 q1 HB ⊢
    clear hl
    go_enter Tryd.func23, Tryd.ntmps23
    go_wp2
    go_loopw [5] (fun v5 W => ∃ i : Nat, i ≤ s.nodes.length ∧ v5 = .int .i64 i ∧ Aside0 (∀ j : Nat, j < i → nd s.nodes j = nd t.nodes j) ∧ Aside0 (Below w.heap.size w W) ∧ Aside0 (W.cell? ⟨w.heap.size, 0, none⟩ = some (.slice A s.nodes.length c) ∧ W.cell? ⟨w.heap.size + 1, 0, none⟩ = some (.slice B s.nodes.length d))) (fun v5 _ => s.nodes.length - (intOf v5).toNat)
    case atStart => exact ⟨0, by omega, rfl, ⟨fun j h => by omega⟩, HB, ⟨a0, q0⟩⟩
    case round =>
      obtain ⟨i, hi, rfl, HJ, HW, HC⟩ := hrel
      clear a0 q0
      have a0 := HC.out.1
      have q0 := HC.out.2
      by_cases hlt : i < s.nodes.length
      · obtain ⟨ad, A1, c1, A2, c2, A3, c3, rfl, x0, x1, x2, x3, hN⟩ := at_node HA.out i hlt
        obtain ⟨bd, B1, d1, B2, d2, B3, d3, rfl, y0, y1, y2, y3, hM⟩ := at_node HBn.out i (by rw [← HL.out]; exact hlt)
        replace x0 := pw_cell_below HW.out x0
        replace x1 := pw_cell_below HW.out x1
        replace x2 := pw_cell_below HW.out x2
        replace x3 := pw_cell_below HW.out x3
        replace y0 := pw_cell_below HW.out y0
        replace y1 := pw_cell_below HW.out y1
        replace y2 := pw_cell_below HW.out y2
        replace y3 := pw_cell_below HW.out y3
        have HN := Aside0.mk hN
        have HM := Aside0.mk hM
        clear hN hM
        go_wp2
        go_region_held3 (fun W => W.cell? ⟨w.heap.size, 0, none⟩ = some (.slice (some ad) s.nodes.length c) ∧ W.cell? ⟨w.heap.size + 1, 0, none⟩ = some (.slice (some bd) s.nodes.length d) ∧ W.cell? (ad.add (i * 4)) = some (.int .i64 (nd s.nodes i).kind) ∧ W.cell? ⟨(ad.add (i * 4)).block, (ad.add (i * 4)).off + 1, none⟩ = some (.slice A1 (nd s.nodes i).ints.length c1) ∧ W.cell? ⟨(ad.add (i * 4)).block, (ad.add (i * 4)).off + 2, none⟩ = some (.slice A2 (nd s.nodes i).texts.length c2) ∧ W.cell? ⟨(ad.add (i * 4)).block, (ad.add (i * 4)).off + 3, none⟩ = some (.slice A3 (nd s.nodes i).kids.length c3) ∧
            W.cell? (bd.add (i * 4)) = some (.int .i64 (nd t.nodes i).kind) ∧ W.cell? ⟨(bd.add (i * 4)).block, (bd.add (i * 4)).off + 1, none⟩ = some (.slice B1 (nd t.nodes i).ints.length d1) ∧ W.cell? ⟨(bd.add (i * 4)).block, (bd.add (i * 4)).off + 2, none⟩ = some (.slice B2 (nd t.nodes i).texts.length d2) ∧ W.cell? ⟨(bd.add (i * 4)).block, (bd.add (i * 4)).off + 3, none⟩ = some (.slice B3 (nd t.nodes i).kids.length d3))
          (first
            | (go_split_ands
               refine ⟨?_, ?_, ?_, ?_, ?_, ?_, ?_, ?_, ?_, ?_⟩
               all_goals first
                 | with_reducible assumption
                 | with_reducible exact pw_cell_below hB (by assumption)
                 | (simp [*]; done)))
          (first
            | (go_at_call 17; refine (same_any (nd s.nodes i) (nd t.nodes i) A1 c1 A2 c2 A3 c3 B1 d1 B2 d2 B3 d3 _ (HN.out.below (below_drew HW.out)) (HM.out.below (below_drew HW.out)) (HSm.out i hlt)).mono ?_; rintro e w2 ⟨rfl, hB2⟩; have hB := hB2))
        have HB2 := Aside0.mk (below_step (below_drew HW.out) hB2)
        have HC2 := Aside0.mk (And.intro (pw_cell_below hB2 (show wr.drew.cell? _ = _ from a0)) (pw_cell_below hB2 (show wr.drew.cell? _ = _ from q0)))
        clear x0 x1 x2 x3 y0 y1 y2 y3 a0 q0
        cases hc : sameN (nd s.nodes i) (nd t.nodes i) with
        | true =>
          have HJ2 := Aside0.mk (ext_lt HJ.out (sameN_iff.1 hc))
          clear hc
          go_wp2
          go_roundw
          case rel => exact ⟨i + 1, by omega, by go_num, HJ2, HB2, HC2⟩
          case measure => simp [intOf]; omega
        | false =>
          have HE : Aside0 (sameS s t = false) := ⟨sameS_no (fun e => by
            have : sameN (nd s.nodes i) (nd t.nodes i) = true := sameN_iff.2 (by rw [e])
            rw [hc] at this; cases this)⟩
          clear hc
          go_wp2
          go_ret
          exact ⟨ret_bool HE.out.symm, HB2.out⟩
      · obtain rfl : i = s.nodes.length := by omega
        have HE : Aside0 (sameS s t = true) := ⟨sameS_yes (scene_ext (nodes_ext HL.out HJ.out) HRo.out)⟩
        go_wp2
        go_ret
        exact ⟨ret_bool HE.out.symm, HW.out⟩
  · have HE : Aside0 (sameS s t = false) := ⟨sameS_no (fun e => hl (by rw [e]))⟩
    have dl : (s.nodes.length != t.nodes.length) = true := by simp [hl]
    have dl' : ((s.nodes.length : Int) != (t.nodes.length : Int)) = true := by simp; omega
    clear hl
    go_enter Tryd.func23, Tryd.ntmps23
    go_wp2
    go_ret
    exact ⟨ret_bool HE.out.symm, HB.out⟩
end Go.Proofs.YtglfebpgdghlfaaDoor.L
end
section
namespace Go.Proofs.YtglfebpgdghlfaaDoor.L
open Go.RowKit Go.ChangeShapes Go.WideShapes Go.Proofs.YtglfebpgdghlfaaDoorW.PrintWords Go.Proofs.YtglfebpgdghlfaaDoorW.PrintLast Go.Proofs.YtglfebpgdghlfaaDoorW.PrintMore
attribute [local go_sem] max2_int min2_int max_two min_two max_three min_three max_four min_four
def edgesTo (ns : List Node) : Nat → Int
  | 0 => 0
  | i + 1 => IntKind.i64.wrap (edgesTo ns i + ((nd ns i).kids.length : Int))
def edgesW (ns : List Node) : Int := edgesTo ns ns.length
set_option maxRecDepth 100000 in
set_option maxHeartbeats 2000000 in
theorem edges_any (A : Option Addr) (c : Nat) (s : Scene) (w : World) (h : kNode.C w A s.nodes.length s.nodes) :
    Calls Tryd.prog 43 #[.agg #[.slice A s.nodes.length c, .int .i64 s.root]] w fun e w' => e = .returned (.int .i64 (edgesW s.nodes)) ∧ Below w.heap.size w w' := by
  have HR := Aside0.mk h
  have b0 := h.2.1
  have HB := Aside0.mk (below_alloc (Below.refl w.heap.size w) (.cells #[.slice A s.nodes.length c, .int .i64 s.root] 39))
  have k0 := box_cell w _ rfl #[.slice A s.nodes.length c, .int .i64 s.root] 39 0 _ rfl
  have hu := Tryd.underlying39
  have hun := Tryd.underlying26
  clear h
  go_enter Tryd.func43, Tryd.ntmps43
  go_wp2
  go_loopw [4, 3] (fun v4 v3 W => ∃ i : Nat, i ≤ s.nodes.length ∧ v4 = .int .i64 i ∧ v3 = .int .i64 (edgesTo s.nodes i) ∧ W = w.alloc (.cells #[.slice A s.nodes.length c, .int .i64 s.root] 39)) (fun v4 _ _ => s.nodes.length - (intOf v4).toNat)
  case atStart => exact ⟨0, by omega, rfl, rfl, by first | rfl | trivial⟩
  case round =>
    obtain ⟨i, hi, rfl, rfl, rfl⟩ := hrel
    by_cases hlt : i < s.nodes.length
    · obtain ⟨adn, A1, c1, A2, c2, A3, c3, rfl, x0, x1, x2, x3, hN⟩ := at_node HR.out i hlt
      replace x3 := pw_cell_below HB.out x3
      have HE := Aside0.mk (show edgesTo s.nodes (i + 1) = IntKind.i64.wrap (edgesTo s.nodes i + ((nd s.nodes i).kids.length : Int)) from rfl)
      clear hN x0 x1 x2
      generalize edgesTo s.nodes i = a at HE ⊢
      go_wp2
      go_roundw
      case rel => exact ⟨i + 1, by omega, by go_num, by rw [HE.out, i64_w], by first | rfl | trivial⟩
      case measure => simp [intOf]; omega
    · obtain rfl : i = s.nodes.length := by omega
      go_wp2
      go_ret
      exact ⟨rfl, HB.out⟩
end Go.Proofs.YtglfebpgdghlfaaDoor.L
end
section
namespace Go.Proofs.YtglfebpgdghlfaaDoor.L
open Go.RowKit Go.ChangeShapes Go.WideShapes Go.Proofs.YtglfebpgdghlfaaDoorW.PrintWords Go.Proofs.YtglfebpgdghlfaaDoorW.PrintLast Go.Proofs.YtglfebpgdghlfaaDoorW.PrintMore
attribute [local go_sem] max2_int min2_int max_two min_two max_three min_three max_four min_four
def greatS (s : Scene) : Bool := decide (60 < s.nodes.length ∨ 300 < edgesW s.nodes ∨ ∃ j, j < s.nodes.length ∧ greatN (nd s.nodes j) = true)
set_option maxRecDepth 100000 in
set_option maxHeartbeats 2000000 in
theorem greatS_any (A : Option Addr) (c : Nat) (s : Scene) (w : World) (h : kNode.C w A s.nodes.length s.nodes) :
    Calls Tryd.prog 18 #[.agg #[.slice A s.nodes.length c, .int .i64 s.root]] w fun e w' => e = .returned (.bool (greatS s)) ∧ Below w.heap.size w w' := by
  have HR := Aside0.mk h
  have b0 := h.2.1
  have HB := Aside0.mk (below_alloc (Below.refl w.heap.size w) (.cells #[.slice A s.nodes.length c, .int .i64 s.root] 39))
  have k0 := box_cell w _ rfl #[.slice A s.nodes.length c, .int .i64 s.root] 39 0 _ rfl
  have k1 := box_cell w _ rfl #[.slice A s.nodes.length c, .int .i64 s.root] 39 1 _ rfl
  have hu := Tryd.underlying39
  have hun := Tryd.underlying26
  clear h
  by_cases h1 : 60 < s.nodes.length
  · have HE : Aside0 (greatS s = true) := ⟨decide_eq_true (.inl h1)⟩
    have d1 : decide (60 < (s.nodes.length : Int)) = true := decide_eq_true (by omega)
    clear h1
    go_enter Tryd.func18, Tryd.ntmps18
    go_wp2
    go_ret
    exact ⟨ret_bool HE.out.symm, HB.out⟩
  have H1 := Aside0.mk h1
  have d1 : decide (60 < (s.nodes.length : Int)) = false := decide_eq_false (by omega)
  clear h1
  go_enter Tryd.func18, Tryd.ntmps18
  go_wp2_with fail
  refine (edges_any A c s _ (Kd.C_below HR.out HB.out)).mono ?_
  rintro e w1 ⟨rfl, hB1⟩
  have HB1 := Aside0.mk (below_step HB.out hB1)
  replace k0 := pw_cell_below hB1 k0
  clear hB1 k1 d1
  by_cases h2 : 300 < edgesW s.nodes
  · have HE : Aside0 (greatS s = true) := ⟨decide_eq_true (.inr (.inl h2))⟩
    have d2 : decide (300 < edgesW s.nodes) = true := decide_eq_true h2
    clear h2
    go_wp2
    go_ret
    exact ⟨ret_bool HE.out.symm, HB1.out⟩
  have H2 := Aside0.mk h2
  have d2 : decide (300 < edgesW s.nodes) = false := decide_eq_false h2
  clear h2
  go_wp2
  clear d2
  go_loopw [3] (fun v3 W => ∃ i : Nat, i ≤ s.nodes.length ∧ v3 = .int .i64 i ∧ Aside0 (∀ j : Nat, j < i → ¬ greatN (nd s.nodes j) = true) ∧ Aside0 (Below w.heap.size w W ∧ W.cell? ⟨w.heap.size, 0, none⟩ = some (.slice A s.nodes.length c))) (fun v3 _ => s.nodes.length - (intOf v3).toNat)
  case atStart => exact ⟨0, by omega, rfl, ⟨fun j h => by omega⟩, ⟨HB1.out, k0⟩⟩
  case round =>
    clear k0
    obtain ⟨i, hi, rfl, HJ, HW⟩ := hrel
    have k0 := HW.out.2
    by_cases hlt : i < s.nodes.length
    · obtain ⟨adn, A1, c1, A2, c2, A3, c3, rfl, x0, x1, x2, x3, hN⟩ := at_node HR.out i hlt
      replace x0 := pw_cell_below HW.out.1 x0
      replace x1 := pw_cell_below HW.out.1 x1
      replace x2 := pw_cell_below HW.out.1 x2
      replace x3 := pw_cell_below HW.out.1 x3
      have HN := Aside0.mk hN
      clear hN
      go_wp2_with fail
      refine (great_any (nd s.nodes i) A1 c1 A2 c2 A3 c3 _ (HN.out.below HW.out.1)).mono ?_
      rintro e w2 ⟨rfl, hB2⟩
      have HB2 := Aside0.mk (And.intro (below_step HW.out.1 hB2) (pw_cell_below hB2 k0))
      clear hB2 k0 x0 x1 x2 x3
      cases hg : greatN (nd s.nodes i) with
      | true =>
        have HE : Aside0 (greatS s = true) := ⟨decide_eq_true (.inr (.inr ⟨i, hlt, hg⟩))⟩
        clear hg
        go_wp2
        go_ret
        exact ⟨ret_bool HE.out.symm, HB2.out.1⟩
      | false =>
        have HJ2 := Aside0.mk (ext_lt HJ.out (show ¬ greatN (nd s.nodes i) = true by rw [hg]; simp))
        clear hg
        go_wp2
        go_roundw
        case rel => exact ⟨i + 1, by omega, by go_num, HJ2, HB2⟩
        case measure => simp [intOf]; omega
    · obtain rfl : i = s.nodes.length := by omega
      have HE : Aside0 (greatS s = false) := ⟨decide_eq_false (fun h => by
        rcases h with h | h | ⟨j, hj, h⟩
        · exact H1.out h
        · have := H2.out; omega
        · exact HJ.out j hj h)⟩
      go_wp2
      go_ret
      exact ⟨ret_bool HE.out.symm, HW.out.1⟩
end Go.Proofs.YtglfebpgdghlfaaDoor.L
end
section
namespace Go.Proofs.YtglfebpgdghlfaaDoor.L
open Go.RowKit Go.ChangeShapes Go.WideShapes Go.Proofs.YtglfebpgdghlfaaDoorW.PrintWords Go.Proofs.YtglfebpgdghlfaaDoorW.PrintLast Go.Proofs.YtglfebpgdghlfaaDoorW.PrintMore
attribute [local go_sem] max2_int min2_int max_two min_two max_three min_three max_four min_four
def isPl (n : Nat) (k : Int) : Bool := decide (0 ≤ k ∧ k < (n : Int))
set_option maxRecDepth 100000 in
set_option maxHeartbeats 1000000 in
theorem place_any (A : Option Addr) (c n : Nat) (r k : Int) (w : World) :
    Calls Tryd.prog 47 #[.agg #[.slice A n c, .int .i64 r], .int .i64 k] w fun e w' => e = .returned (.bool (isPl n k)) ∧ Below w.heap.size w w' := by
  have HB := Aside0.mk (below_alloc (Below.refl w.heap.size w) (.cells #[.slice A n c, .int .i64 r] 39))
  have k0 := box_cell w _ rfl #[.slice A n c, .int .i64 r] 39 0 _ rfl
  have hu := Tryd.underlying39
  by_cases h0 : 0 ≤ k
  · by_cases h1 : k < (n : Int)
    · have HE : Aside0 (isPl n k = true) := ⟨decide_eq_true ⟨h0, h1⟩⟩
      have d0 : decide (0 ≤ k) = true := decide_eq_true h0
      have d1 : decide (k < (n : Int)) = true := decide_eq_true h1
      clear h0 h1
      go_enter Tryd.func47, Tryd.ntmps47
      go_wp2
      go_ret
      exact ⟨ret_bool HE.out.symm, HB.out⟩
    · have HE : Aside0 (isPl n k = false) := ⟨decide_eq_false (fun h => h1 h.2)⟩
      have d0 : decide (0 ≤ k) = true := decide_eq_true h0
      have d1 : decide (k < (n : Int)) = false := decide_eq_false h1
      clear h0 h1
      go_enter Tryd.func47, Tryd.ntmps47
      go_wp2
      go_ret
      exact ⟨ret_bool HE.out.symm, HB.out⟩
  · have HE : Aside0 (isPl n k = false) := ⟨decide_eq_false (fun h => h0 h.1)⟩
    have d0 : decide (0 ≤ k) = false := decide_eq_false h0
    clear h0
    go_enter Tryd.func47, Tryd.ntmps47
    go_wp2
    go_ret
    exact ⟨ret_bool HE.out.symm, HB.out⟩
end Go.Proofs.YtglfebpgdghlfaaDoor.L
end
section
namespace Go.Proofs.YtglfebpgdghlfaaDoor.L
open Go.RowKit Go.ChangeShapes Go.WideShapes Go.Proofs.YtglfebpgdghlfaaDoorW.PrintWords Go.Proofs.YtglfebpgdghlfaaDoorW.PrintLast Go.Proofs.YtglfebpgdghlfaaDoorW.PrintMore
attribute [local go_sem] max2_int min2_int max_two min_two max_three min_three max_four min_four
theorem isPl_no {n : Nat} {k : Int} : isPl n k = !noPlace n k := by
  unfold isPl noPlace
  by_cases h0 : 0 ≤ k
  · by_cases h1 : k < (n : Int)
    · rw [decide_eq_true (And.intro h0 h1), decide_eq_false (by omega : ¬ k < 0), decide_eq_false (by omega : ¬ (n : Int) ≤ k)]; rfl
    · rw [decide_eq_false (fun h => h1 h.2), decide_eq_false (by omega : ¬ k < 0), decide_eq_true (by omega : (n : Int) ≤ k)]; rfl
  · rw [decide_eq_false (fun h => h0 h.1), decide_eq_true (by omega : k < 0)]; rfl
set_option maxRecDepth 100000 in
set_option maxHeartbeats 4000000 in
theorem rrefs_any (A : Option Addr) (c : Nat) (s : Scene) (w : World) (h : kNode.C w A s.nodes.length s.nodes) :
    Calls Tryd.prog 48 #[.agg #[.slice A s.nodes.length c, .int .i64 s.root]] w fun e w' => e = .returned (.int .i64 (refsAt s.nodes)) ∧ Below w.heap.size w w' := by
  have HR := Aside0.mk h
  have b0 := h.2.1
  have HB := Aside0.mk (below_alloc (Below.refl w.heap.size w) (.cells #[.slice A s.nodes.length c, .int .i64 s.root] 39))
  have k0 := box_cell w _ rfl #[.slice A s.nodes.length c, .int .i64 s.root] 39 0 _ rfl
  have k1 := box_cell w _ rfl #[.slice A s.nodes.length c, .int .i64 s.root] 39 1 _ rfl
  have HK := Aside0.mk (And.intro HB.out (And.intro k0 k1))
  have hu := Tryd.underlying39
  have hun := Tryd.underlying26
  clear h
  go_enter Tryd.func48, Tryd.ntmps48
  go_wp2
  clear k0 k1
  go_loopw [3] (fun v3 W => ∃ i : Nat, i ≤ s.nodes.length ∧ v3 = .int .i64 i ∧ Aside0 (∀ j, j < i → kidsBad s.nodes.length (nd s.nodes j).kids = false) ∧ Aside0 (Below w.heap.size w W ∧ W.cell? ⟨w.heap.size, 0, none⟩ = some (.slice A s.nodes.length c) ∧ W.cell? ⟨w.heap.size, 1, none⟩ = some (.int .i64 s.root))) (fun v3 _ => s.nodes.length - (intOf v3).toNat)
  case atStart => exact ⟨0, by omega, rfl, ⟨fun j h => by omega⟩, HK⟩
  case round =>
    clear HK
    obtain ⟨i, hi, rfl, HJ, HK⟩ := hrel
    have k0 := HK.out.2.1
    by_cases hlt : i < s.nodes.length
    · obtain ⟨adn, A1, c1, A2, c2, A3, c3, rfl, y0, y1, y2, y3, hN⟩ := at_node HR.out i hlt
      have HN := Aside0.mk hN.k
      have HY := Aside0.mk y3
      have b3 := hN.k.2.1
      clear hN y0 y1 y2 y3
      go_wp2
      go_loopw [4] (fun v4 W => ∃ j : Nat, j ≤ (nd s.nodes i).kids.length ∧ v4 = .int .i64 j ∧ Aside0 (∀ q, q < j → noPlace s.nodes.length (rd (nd s.nodes i).kids (q : Int)) = false) ∧ Aside0 (Below w.heap.size w W ∧ W.cell? ⟨w.heap.size, 0, none⟩ = some (.slice (some adn) s.nodes.length c) ∧ W.cell? ⟨w.heap.size, 1, none⟩ = some (.int .i64 s.root))) (fun v4 _ => (nd s.nodes i).kids.length - (intOf v4).toNat)
      case atStart => exact ⟨0, by omega, rfl, ⟨fun j h => by omega⟩, HK⟩
      case round =>
        clear HK k0
        obtain ⟨j, hj, rfl, HQ, HK⟩ := hrel
        have k0 := HK.out.2.1
        have k1 := HK.out.2.2
        have x3 := pw_cell_below HK.out.1 HY.out
        by_cases hjl : j < (nd s.nodes i).kids.length
        · obtain ⟨adk, rfl, xk⟩ := at_nat (Kd.C_below HN.out HK.out.1) j hjl
          go_wp2
          go_region_held3 (fun W => W.cell? ⟨w.heap.size, 0, none⟩ = some (.slice (some adn) s.nodes.length c) ∧ W.cell? ⟨w.heap.size, 1, none⟩ = some (.int .i64 s.root) ∧ W.cell? ⟨(adn.add (i * 4)).block, (adn.add (i * 4)).off + 3, none⟩ = some (.slice (some adk) (nd s.nodes i).kids.length c3) ∧ W.cell? (adk.add j) = some (.int .i64 (rd (nd s.nodes i).kids (j : Int))))
            (first
              | (go_split_ands
                 refine ⟨?_, ?_, ?_, ?_⟩
                 all_goals first
                   | with_reducible assumption
                   | with_reducible exact pw_cell_below hB (by assumption)
                   | (simp [*]; done)))
            (first
              | (go_at_call 47; refine (place_any (some adn) c s.nodes.length s.root (rd (nd s.nodes i).kids (j : Int)) _).mono ?_; rintro e w2 ⟨rfl, hB2⟩; have hB := hB2))
          have HK2 := Aside0.mk (And.intro (below_step (below_drew HK.out.1) hB2) (And.intro (pw_cell_below hB2 (show wr.drew.cell? _ = _ from k0)) (pw_cell_below hB2 (show wr.drew.cell? _ = _ from k1))))
          rw [isPl_no]
          clear k0 k1 x3 xk
          cases hp : noPlace s.nodes.length (rd (nd s.nodes i).kids (j : Int)) with
          | true =>
            have HE : Aside0 (refsAt s.nodes = (i : Int)) := ⟨by unfold refsAt; rw [refsFrom_at s.nodes 0 i hlt HJ.out (kidsBad_at hjl hp)]; simp⟩
            clear hp
            go_wp2
            go_ret
            exact ⟨ret_int HE.out.symm, HK2.out.1⟩
          | false =>
            have HQ2 := Aside0.mk (ext_lt HQ.out hp)
            clear hp
            go_wp2
            go_roundw
            case rel => exact ⟨j + 1, by omega, by go_num, HQ2, HK2⟩
            case measure => simp [intOf]; omega
        · obtain rfl : j = (nd s.nodes i).kids.length := by omega
          have HJ2 := Aside0.mk (ext_lt HJ.out (kidsBad_no (Nat.le_refl _) HQ.out))
          go_wp2
          go_roundw
          case rel => exact ⟨i + 1, by omega, by go_num, HJ2, HK⟩
          case measure => simp [intOf]; omega
    · obtain rfl : i = s.nodes.length := by omega
      have HE : Aside0 (refsAt s.nodes = -1) := ⟨refsFrom_no s.nodes 0 HJ.out⟩
      go_wp2
      go_ret
      exact ⟨ret_int HE.out.symm, HK.out.1⟩
end Go.Proofs.YtglfebpgdghlfaaDoor.L
end
