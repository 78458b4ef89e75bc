/- Part 3 of the texts that YtglfebpgdghlfaaDoorRowUN rests on, joined by a program: what its functions come to. Conditions: those that each theorem states. -/
import Derived.Test.YtglfebpgdghlfaaDoorQnb
import Derived.Deep.LoopGhost
import Derived.Deep.RegionHeld3
set_option linter.unusedVariables false
set_option linter.unusedSimpArgs false
section
namespace Go.Proofs.YtglfebpgdghlfaaDoor.L
open Go.RowKit Go.ChangeShapes Go.WideShapes Go.Proofs.YtglfebpgdghlfaaDoorW.PrintWords Go.Proofs.YtglfebpgdghlfaaDoorW.PrintLast Go.Proofs.YtglfebpgdghlfaaDoorW.PrintMore
attribute [local go_sem] max2_int min2_int max_two min_two max_three min_three max_four min_four
theorem nodup_len {L : List Int} {n : Nat} (hL : L.Nodup) (h : ∀ x ∈ L, 0 ≤ x ∧ x < (n : Int)) : L.length ≤ n := by
  have h1 := count_le (l := (List.range n).map (fun p : Nat => (p : Int))) hL
  rw [List.length_map, List.length_range] at h1
  have h2 : ∀ M : List Int, (∀ x ∈ M, 0 ≤ x ∧ x < (n : Int)) → M.length ≤ (M.map (fun c => ((List.range n).map (fun p : Nat => (p : Int))).count c)).sum := fun M => by
    induction M with
    | nil => intro _; exact Nat.zero_le _
    | cons a r ih =>
      intro hM
      have ha := hM a (by simp)
      have hc : 0 < ((List.range n).map (fun p : Nat => (p : Int))).count a := List.count_pos_iff.2 (List.mem_map.2 ⟨a.toNat, List.mem_range.2 (by omega), by omega⟩)
      have := ih (fun x hx => hM x (by simp [hx]))
      rw [List.map_cons, List.sum_cons, List.length_cons]
      omega
  exact Nat.le_trans (h2 L h) h1
theorem info_row : (Tryd.prog.info? 24).map (fun i => (i.zero, i.size, i.bytes)) = some (some (.slice none 0 0), 1, 24) := by kernel_rfl
def O1 (ns : List Node) (w : World) (gt ct go co : Nat) (v : Value) (i j b : Nat) (W : World) : Prop := ∃ t op, PInv ns t op i j b ∧ OM w ns.length gt ct go co v t op (leaves ns i) W
structure O2 (ns : List Node) (w : World) (gt ct go co : Nat) (v : Value) (t : List (List Int)) (op out : List Int) (i j : Nat) (W : World) : Prop where
  pars : ParsOk ns t
  len : ∀ c : Nat, c < ns.length → (row t c).length ≤ 1000000
  inv : OInv ns t op out i j
  om : OM w ns.length gt ct go co v t op out W
theorem O1.node {ns : List Node} {w W : World} {gt ct go co : Nat} {v : Value} {i : Nat} (h : O1 ns w gt ct go co v i 0 i W) (hi : i < ns.length) : (∃ x, W.cell? ⟨go, i, none⟩ = some x) ∧ W.frozen? ⟨go, i, none⟩ = false ∧ O1 ns w gt ct go co v i 0 (i + 1) (W.setCell ⟨go, i, none⟩ (.int .i64 ((nd ns i).kids.length : Int))) := by
  obtain ⟨t, op, h1, h2⟩ := h
  obtain ⟨c1, c2, c3⟩ := h2.count i hi ((nd ns i).kids.length : Int)
  exact ⟨⟨_, c1⟩, c2, t, _, by have := h1.count hi; rwa [kids_nat] at this, c3⟩
theorem O1.later {ns : List Node} {w W W1 : World} {gt ct go co : Nat} {v : Value} {i j b : Nat} (h : O1 ns w gt ct go co v i j b W) (hb : Below W.heap.size W W1) : O1 ns w gt ct go co v i j b W1 := by
  obtain ⟨t, op, h1, h2⟩ := h
  exact ⟨t, op, h1, h2.later hb⟩
theorem O1.below {ns : List Node} {w W : World} {gt ct go co : Nat} {v : Value} {i j b : Nat} (h : O1 ns w gt ct go co v i j b W) : Below w.heap.size w W := by
  obtain ⟨t, op, h1, h2⟩ := h
  exact h2.below
theorem O1.lend {ns : List Node} {w W : World} {gt ct go co : Nat} {v : Value} {i j k : Nat} (h : O1 ns w gt ct go co v i j (i + 1) W) (hi : i < ns.length) (hj : j < (nd ns i).kids.length) (hk : rd (nd ns i).kids (j : Int) = (k : Int)) (hkn : k < ns.length) :
    ∃ (A : Option Addr) (c : Nat) (r : List Int), W.cell? ⟨gt, k, none⟩ = some (.slice A r.length c) ∧ r.length ≤ pre ns i + j ∧ (Kd.int .i64).R 3 W w.heap.size (fun _ => True) (.slice A r.length c) r ∧
      ∀ (W1 : World) (v1 : Value), W.grownBy W1 (Value.slice A r.length c).ownBlock → (Kd.int .i64).R 3 W1 w.heap.size (fun _ => True) v1 (r ++ [(i : Int)]) → Below w.heap.size w W1 → (v1.ownBlock = (Value.slice A r.length c).ownBlock ∨ ∃ b, v1.ownBlock = some b ∧ W.heap.size ≤ b) →
        (∃ x, W1.cell? ⟨gt, k, none⟩ = some x) ∧ W1.frozen? ⟨gt, k, none⟩ = false ∧ O1 ns w gt ct go co v i (j + 1) (i + 1) (W1.setCell ⟨gt, k, none⟩ v1) := by
  obtain ⟨t, op, h1, h2⟩ := h
  obtain ⟨vk, hc, hR, hback⟩ := h2.lend k hkn
  obtain ⟨A, c, rfl⟩ := Kd.R_slice hR
  refine ⟨A, c, row t k, hc, h1.len k hkn, hR, fun W1 v1 hg hR1 hB hat => ?_⟩
  obtain ⟨d1, d2, hO⟩ := hback W1 v1 _ hg hR1 hB hat
  exact ⟨⟨_, d1⟩, d2, _, _, h1.edge hi (by rw [kids_nat]; exact hj) (by rw [kids_nat]; exact hk) hkn, hO⟩
theorem O1.rowDone {ns : List Node} {w W : World} {gt ct go co : Nat} {v : Value} {i : Nat} (h : O1 ns w gt ct go co v i (nd ns i).kids.length (i + 1) W) (hi : i < ns.length) : W.cell? ⟨go, i, none⟩ = some (.int .i64 ((nd ns i).kids.length : Int)) ∧
    ∃ t op, PInv ns t op (i + 1) 0 (i + 1) ∧ OM w ns.length gt ct go co v t op (leaves ns i) W := by
  obtain ⟨t, op, h1, h2⟩ := h
  have hc := (h2.count i hi 0).1
  rw [h1.op i (by omega) hi, kids_nat] at hc
  rw [← kids_nat] at h1
  exact ⟨hc, t, op, h1.node, h2⟩
theorem O1.leaf {ns : List Node} {w W : World} {gt ct go co : Nat} {v : Value} {i : Nat} (h : ∃ t op, PInv ns t op (i + 1) 0 (i + 1) ∧ OM w ns.length gt ct go co v t op (leaves ns i) W) (hk : ¬ (nd ns i).kids.length = 0) : O1 ns w gt ct go co v (i + 1) 0 (i + 1) W := by
  obtain ⟨t, op, h1, h2⟩ := h
  exact ⟨t, op, h1, by rw [leaves_succ_no (by rw [kids_nat]; exact hk)]; exact h2⟩
theorem O1.leafPush {ns : List Node} {w W W1 : World} {gt ct go co : Nat} {v v1 : Value} {i : Nat} (h : ∃ t op, PInv ns t op (i + 1) 0 (i + 1) ∧ OM w ns.length gt ct go co v t op (leaves ns i) W) (hk : (nd ns i).kids.length = 0)
    (hR : (Kd.int .i64).R 3 W1 w.heap.size (fun _ => True) v1 (leaves ns i ++ [(i : Int)])) (hB : Below w.heap.size w W1) (hg : W.grownBy W1 v.ownBlock) (hat : v1.ownBlock = v.ownBlock ∨ ∃ b, v1.ownBlock = some b ∧ W.heap.size ≤ b) : O1 ns w gt ct go co v1 (i + 1) 0 (i + 1) W1 := by
  obtain ⟨t, op, h1, h2⟩ := h
  exact ⟨t, op, h1, by rw [leaves_succ_yes (by rw [kids_nat]; exact hk)]; exact h2.push hR hB hg hat⟩
theorem O1.last {ns : List Node} {w W : World} {gt ct go co : Nat} {v : Value} (h : O1 ns w gt ct go co v ns.length 0 ns.length W) (hM : rows ns ≤ 1000000) : ∃ t op, O2 ns w gt ct go co v t op (leaves ns ns.length) 0 0 W := by
  obtain ⟨t, op, h1, h2⟩ := h
  exact ⟨t, op, h1.pars, fun c hc => Nat.le_trans (h1.len c hc) (Nat.le_trans (pre_le (Nat.le_refl _)) hM), h1.ends, h2⟩
section
variable {ns : List Node} {w W W1 : World} {gt ct go co : Nat} {v v1 : Value} {t : List (List Int)} {op out : List Int} {i j : Nat}
theorem O2.row_at (h : O2 ns w gt ct go co v t op out i j W) (c : Nat) (hc : c < ns.length) : ∃ A c', W.cell? ⟨gt, c, none⟩ = some (.slice A (row t c).length c') ∧ (Kd.int .i64).C W A (row t c).length (row t c) := grid_read h.om.tab c hc
theorem O2.gt_ne (h : O2 ns w gt ct go co v t op out i j W) : gt < W.heap.size ∧ gt ≠ go ∧ some gt ≠ v.ownBlock := ⟨Kd.S_lt h.om.tab gt rfl, (Kd.S_R h.om.tab).1 gt rfl⟩
theorem O2.cnt (h : O2 ns w gt ct go co v t op out i j W) {p : Nat} (hi : i < out.length) (hj : j < (rowOf t (rd out (i : Int))).length) (hp : rd (rowOf t (rd out (i : Int))) (j : Int) = (p : Int)) (hpn : p < ns.length) : 1 ≤ rd op (p : Int) ∧ rd op (p : Int) ≤ ((kids ns p).length : Int) := by
  have h1 := h.inv.next_le h.pars hi hj hp hpn
  have h2 := h.inv.op p hpn
  omega
theorem O2.strike (h : O2 ns w gt ct go co v t op out i j W) {p : Nat} (hi : i < out.length) (hj : j < (rowOf t (rd out (i : Int))).length) (hp : rd (rowOf t (rd out (i : Int))) (j : Int) = (p : Int)) (hpn : p < ns.length) (hne : ¬ rd op (p : Int) - 1 = 0) :
    O2 ns w gt ct go co v t (op.set p (rd op (p : Int) - 1)) out i (j + 1) (W.setCell ⟨go, p, none⟩ (.int .i64 (rd op (p : Int) - 1))) :=
  ⟨h.pars, h.len, h.inv.strike h.pars hi hj hp hpn hne, (h.om.count p hpn _).2.2⟩
theorem O2.free (h : O2 ns w gt ct go co v t op out i j W) {p : Nat} (hi : i < out.length) (hj : j < (rowOf t (rd out (i : Int))).length) (hp : rd (rowOf t (rd out (i : Int))) (j : Int) = (p : Int)) (hpn : p < ns.length) (hz : rd op (p : Int) - 1 = 0)
    (hR : (Kd.int .i64).R 3 W1 w.heap.size (fun _ => True) v1 (out ++ [(p : Int)])) (hB : Below w.heap.size w W1) (hg : (W.setCell ⟨go, p, none⟩ (.int .i64 (rd op (p : Int) - 1))).grownBy W1 v.ownBlock) (hat : v1.ownBlock = v.ownBlock ∨ ∃ b, v1.ownBlock = some b ∧ (W.setCell ⟨go, p, none⟩ (.int .i64 (rd op (p : Int) - 1))).heap.size ≤ b) :
    O2 ns w gt ct go co v1 t (op.set p (rd op (p : Int) - 1)) (out ++ [(p : Int)]) i (j + 1) W1 :=
  ⟨h.pars, h.len, h.inv.free h.pars hi hj hp hpn hz, (h.om.count p hpn _).2.2.push hR hB hg hat⟩
end
structure O3 (ns : List Node) (w : World) (gt ct go co : Nat) (Ar : Option Addr) (cr c0 : Nat) (v : Value) (t : List (List Int)) (op out : List Int) (i j : Nat) (W : World) : Prop where
  o : O2 ns w gt ct go co v t op out i j W
  at_ : rd out (i : Int) = (c0 : Int)
  lt : i < out.length
  cell : W.cell? ⟨gt, c0, none⟩ = some (.slice Ar (row t c0).length cr)
section
variable {ns : List Node} {w W W1 : World} {gt ct go co : Nat} {Ar : Option Addr} {cr c0 : Nat} {v v1 : Value} {t : List (List Int)} {op out : List Int} {i j : Nat}
theorem O3.eq (h : O3 ns w gt ct go co Ar cr c0 v t op out i j W) : rowOf t (rd out (i : Int)) = row t c0 := by rw [h.at_, rowOf_nat]
theorem O3.reads (h : O3 ns w gt ct go co Ar cr c0 v t op out i j W) (hc : c0 < ns.length) : (Kd.int .i64).C W Ar (row t c0).length (row t c0) := by
  obtain ⟨A, c', h1, h2⟩ := h.o.row_at c0 hc
  rw [h.cell] at h1
  injection h1 with h1
  injection h1 with h1
  rw [h1]; exact h2
theorem O3.strike (h : O3 ns w gt ct go co Ar cr c0 v t op out i j W) {p : Nat} (hj : j < (row t c0).length) (hp : rd (row t c0) (j : Int) = (p : Int)) (hpn : p < ns.length) (hne : ¬ rd op (p : Int) - 1 = 0) :
    O3 ns w gt ct go co Ar cr c0 v t (op.set p (rd op (p : Int) - 1)) out i (j + 1) (W.setCell ⟨go, p, none⟩ (.int .i64 (rd op (p : Int) - 1))) :=
  ⟨h.o.strike h.lt (by rw [h.eq]; exact hj) (by rw [h.eq]; exact hp) hpn hne, h.at_, h.lt, far_set h.cell _ _ (Ne.symm h.o.gt_ne.2.1) _⟩
theorem O3.free (h : O3 ns w gt ct go co Ar cr c0 v t op out i j W) {p : Nat} (hj : j < (row t c0).length) (hp : rd (row t c0) (j : Int) = (p : Int)) (hpn : p < ns.length) (hz : rd op (p : Int) - 1 = 0)
    (hR : (Kd.int .i64).R 3 W1 w.heap.size (fun _ => True) v1 (out ++ [(p : Int)])) (hB : Below w.heap.size w W1) (hg : (W.setCell ⟨go, p, none⟩ (.int .i64 (rd op (p : Int) - 1))).grownBy W1 v.ownBlock) (hat : v1.ownBlock = v.ownBlock ∨ ∃ b, v1.ownBlock = some b ∧ (W.setCell ⟨go, p, none⟩ (.int .i64 (rd op (p : Int) - 1))).heap.size ≤ b) :
    O3 ns w gt ct go co Ar cr c0 v1 t (op.set p (rd op (p : Int) - 1)) (out ++ [(p : Int)]) i (j + 1) W1 := by
  refine ⟨h.o.free h.lt (by rw [h.eq]; exact hj) (by rw [h.eq]; exact hp) hpn hz hR hB hg hat, ?_, by rw [List.length_append]; have := h.lt; omega, ?_⟩
  · rw [← h.at_]
    unfold rd
    rw [Int.toNat_natCast, List.getD_eq_getElem?_getD, List.getD_eq_getElem?_getD, List.getElem?_append_left h.lt]
  · have h1 := far_set h.cell go p (Ne.symm h.o.gt_ne.2.1) (.int .i64 (rd op (p : Int) - 1))
    rw [← h1]
    unfold World.cell?
    rw [hg.block gt (by have := h.o.gt_ne.1; simpa using this) h.o.gt_ne.2.2]
theorem O3.next (h : O3 ns w gt ct go co Ar cr c0 v t op out i (row t c0).length W) : O2 ns w gt ct go co v t op out (i + 1) 0 W :=
  ⟨h.o.pars, h.o.len, OInv.row (by have := h.o.inv; rwa [← h.eq] at this) h.lt, h.o.om⟩
end
theorem O1.start {ns : List Node} {w w1 w2 : World} {gt ct go co : Nat} (hS : Kd.S kGrid 24 w1 w.heap.size (fun _ => True) (.slice (some ⟨gt, 0, none⟩) ns.length ct) (List.replicate ns.length [])) (hR : (Kd.int .i64).R 3 w2 w.heap.size (fun _ => True) (.slice (some ⟨go, 0, none⟩) ns.length co) (List.replicate ns.length 0))
    (hg : w1.grownBy w2 none) (hgo : w1.heap.size ≤ go) (hB : Below w.heap.size w w2) : O1 ns w gt ct go co (.slice none 0 0) 0 0 0 w2 :=
  ⟨_, _, PInv.start ns, Kd.S_mono (Kd.S_grown (Kd.S_bound hS) hg (fun q _ => by simp)) (fun q hq => ⟨by have := hq.2.2.1; omega, by simp [Value.ownBlock]⟩), hR, Kd.R_nil _ _ _ _ _, fun q hq => by simp [Value.ownBlock] at hq, hB⟩
set_option maxRecDepth 100000 in
set_option maxHeartbeats 8000000 in
theorem order_any (A : Option Addr) (c : Nat) (s : Scene) (w : World) (h : kNode.C w A s.nodes.length s.nodes) (hp : Places s.nodes) (hn : 0 < s.nodes.length) (hM : rows s.nodes ≤ 1000000) :
    Calls Tryd.prog 86 #[.agg #[.slice A s.nodes.length c, .int .i64 s.root]] w fun e w' => ∃ L A c, e = .returned (.slice A (L : List Int).length c) ∧ Topo s.nodes L ∧ (Kd.int .i64).R 3 w' w.heap.size (fun _ => True) (.slice A L.length c) L ∧ Below w.heap.size w w' := by
  have HR := Aside0.mk h
  have HP := Aside0.mk hp
  have HM := Aside0.mk hM
  have hnM : s.nodes.length ≤ 1000000 := by
    have h1 : ∀ i, i ≤ pre s.nodes i := fun i => by
      induction i with
      | zero => exact Nat.zero_le _
      | succ i ih => rw [pre_succ, wt]; omega
    exact Nat.le_trans (h1 _) hM
  have HB := Aside0.mk (Below.refl w.heap.size w)
  clear h hp hM
  have HX := Aside0.mk (show (w.alloc (.cells #[.slice A s.nodes.length c, .int .i64 s.root] 39)).heap[w.heap.size]? = some (.cells #[.slice A s.nodes.length c, .int .i64 s.root] 39 (0, 0)) from by simpa using heap_alloc_new w _)
  go_enter Tryd.func86, Tryd.ntmps86
  go_wp2_with (first
    | (refine Kd.S_make kGrid (w0 := w) w.heap.size 24 rfl (N := 16) rfl 143 _ _ rfl (s.nodes.length : Int) rfl rfl Tryd.underlying143 (.slice none 0 0) 24 info_row rfl (by decide) (by omega) [] (ok := fun _ => True) (okp := fun _ => True) ⟨_, rfl, Kd.R_nil _ _ _ _ _⟩ (fun _ hk => hk) trivial (by omega) (by omega) (below_alloc HB.out _) (below_alloc HB.out _).size ?_; intro v1 w1 ho hb1 hg1 _; rw [Int.toNat_natCast] at ho; obtain ⟨gt, ct, hv1, -, hgt, -⟩ := Kd.S_form ho (by rw [List.length_replicate]; exact hn); rw [List.length_replicate] at hv1; subst hv1; have HO := Aside0.mk ho; have HB1 := Aside0.mk hb1; have HX1 := Aside0.mk (blk_grown HX.out hg1 (by simp)); have hbx : w1.cell? ⟨w.heap.size, 0, none⟩ = some (.slice A s.nodes.length c) := (blk_cell HX1.out 0).trans rfl; clear ho hb1 hg1)
    | (refine Kd.R_make (Kd.int .i64) (w0 := w) w.heap.size 3 rfl (N := 20) rfl 24 _ _ rfl (s.nodes.length : Int) rfl rfl Tryd.underlying24 (.int .i64 0) 8 info_int rfl (by decide) (by omega) 0 (ok := fun _ => True) (okp := fun _ => True) rfl (fun _ hk => hk) trivial (by omega) (by omega) HB1.out HB1.out.size ?_; intro v2 w2 ho2 hb2 hg2 hn2; rw [Int.toNat_natCast] at ho2; obtain ⟨go, co, hv2, -, hgo, -⟩ := Kd.R_form ho2 (by rw [List.length_replicate]; exact hn); rw [List.length_replicate] at hv2; subst hv2; have HI := Aside0.mk (O1.start HO.out ho2 hg2 (by obtain ⟨b, h1, h2⟩ := hn2; simp [Value.ownBlock] at h1; omega) hb2); have hbx2 : w2.cell? ⟨w.heap.size, 0, none⟩ = some (.slice A s.nodes.length c) := (blk_cell (blk_grown HX1.out hg2 (by simp)) 0).trans rfl; clear ho2 hb2 hg2 hn2 hbx))
  clear HO HB1 HX1 hgt hgo hbx2
  go_loopw [5, 24] (fun v5 v24 W => ∃ i : Nat, i ≤ s.nodes.length ∧ v24 = .int .i64 i ∧ Aside0 (O1 s.nodes w gt ct go co v5 i 0 i W)) (fun _ v24 _ => s.nodes.length - (intOf v24).toNat)
  case atStart => exact ⟨0, by omega, rfl, HI⟩
  case round =>
    clear HI
    obtain ⟨i, hi, rfl, HI⟩ := hrel
    by_cases hlt : i < s.nodes.length
    · obtain ⟨adn, A1, c1, A2, c2, A3, c3, rfl, x0, x1, x2, x3, hN⟩ := at_node HR.out i hlt
      replace x0 := pw_cell_below HI.out.below x0
      replace x1 := pw_cell_below HI.out.below x1
      replace x2 := pw_cell_below HI.out.below x2
      replace x3 := pw_cell_below HI.out.below x3
      have HN := Aside0.mk hN.k
      have hlen : (nd s.nodes i).kids.length ≤ 1000000 := by
        have h1 := pre_succ s.nodes i
        have h2 := pre_le (ns := s.nodes) (i := i + 1) (by omega)
        have := HM.out
        rw [wt] at h1
        omega
      obtain ⟨⟨x, hcx⟩, hfx, -⟩ := (HI.out.later (below_alloc (Below.refl _ _) (.cells #[.int .i64 (nd s.nodes i).kind, .slice A1 (nd s.nodes i).ints.length c1, .slice A2 (nd s.nodes i).texts.length c2, .slice A3 (nd s.nodes i).kids.length c3] 26))).node hlt
      have HI1 := Aside0.mk ((HI.out.node hlt).2.2.later (below_alloc (Below.refl _ _) (.cells #[.int .i64 (nd s.nodes i).kind, .slice A1 (nd s.nodes i).ints.length c1, .slice A2 (nd s.nodes i).texts.length c2, .slice A3 (nd s.nodes i).kids.length c3] 26)))
      have hgo : go < wr.heap.size := by obtain ⟨_, _, _, h⟩ := HI.out; exact h.go_lt
      have hbk : ((wr.alloc (.cells #[.int .i64 (nd s.nodes i).kind, .slice A1 (nd s.nodes i).ints.length c1, .slice A2 (nd s.nodes i).texts.length c2, .slice A3 (nd s.nodes i).kids.length c3] 26)).setCell ⟨go, i, none⟩ (.int .i64 ((nd s.nodes i).kids.length : Int))).cell? ⟨wr.heap.size, 3, none⟩ = some (.slice A3 (nd s.nodes i).kids.length c3) := far_set (box_cell _ _ rfl _ _ 3 _ rfl) _ _ (by show go ≠ wr.heap.size; omega) _
      clear hN
      go_wp2
      clear hbk hfx hcx
      generalize (wr.setCell ⟨go, i, none⟩ (.int .i64 ((nd s.nodes i).kids.length : Int))).alloc (.cells #[.int .i64 (nd s.nodes i).kind, .slice A1 (nd s.nodes i).ints.length c1, .slice A2 (nd s.nodes i).texts.length c2, .slice A3 (nd s.nodes i).kids.length c3] 26) = W1 at HI1 ⊢
      go_loopw [38] (fun v38 W => ∃ j : Nat, j ≤ (nd s.nodes i).kids.length ∧ v38 = .int .i64 j ∧ Aside0 (O1 s.nodes w gt ct go co u5 i j (i + 1) W)) (fun v38 _ => (nd s.nodes i).kids.length - (intOf v38).toNat)
      case atStart => exact ⟨0, by omega, rfl, HI1⟩
      case round =>
        clear HI HI1 x0 x1 x2 x3
        obtain ⟨j, hj, rfl, HJ⟩ := hrel
        by_cases hjl : j < (nd s.nodes i).kids.length
        · obtain ⟨adk, rfl, hxk⟩ := at_nat (Kd.C_below HN.out HJ.out.below) j hjl
          have HQ := Aside0.mk (HP.out i hlt _ (rd_mem hjl))
          obtain ⟨k, hk⟩ : ∃ k : Nat, rd (nd s.nodes i).kids (j : Int) = (k : Int) := ⟨(rd (nd s.nodes i).kids (j : Int)).toNat, by have := HQ.out.1; omega⟩
          have hkn : k < s.nodes.length := by have := HQ.out.2; omega
          obtain ⟨Ak, ck, r, hck, hrl, hrR, hback⟩ := HJ.out.lend hlt hjl hk hkn
          have HRow := Aside0.mk hrR
          have HBack := Aside0.mk hback
          have hrl2 : r.length ≤ 1000000 := by
            have h2 := pre_succ s.nodes i
            have h3 := pre_le (ns := s.nodes) (i := i + 1) (by omega)
            have := HM.out
            rw [wt] at h2
            omega
          rw [hk] at hxk
          clear hk hrR hback hrl
          go_wp2_with (at_builtin; refine Kd.R_append (Kd.int .i64) (w0 := w) w.heap.size rfl (.tmp 47) (.tmp 49) 24 3 (.int .i64 0) 8 rfl Tryd.underlying24 info_int rfl (by decide) (by omega) (.slice Ak r.length ck) r (i : Int) [.int .i64 (i : Int)] (fun _ => True) (fun _ => False) rfl (by go_simp) rfl (fun _ h => h.elim) (fun _ _ => trivial) HRow.out HJ.out.below HJ.out.below.size (by omega) ?_; intro v2 w2 hR2 hB2 hg2 hat2; obtain ⟨A2', c2', rfl⟩ := Kd.R_slice hR2; obtain ⟨⟨x2, hx2⟩, hf2, hO2⟩ := HBack.out w2 _ hg2 hR2 hB2 hat2; simp only [List.length_append, List.length_singleton] at hO2; have HO2 := Aside0.mk hO2; clear hR2 hB2 hg2 hat2 hO2)
          go_roundw
          case rel => exact ⟨j + 1, by omega, by go_num, HO2⟩
          case measure => simp [intOf]; omega
        · obtain rfl : j = (nd s.nodes i).kids.length := by omega
          obtain ⟨hz, hO⟩ := HJ.out.rowDone hlt
          have HO := Aside0.mk hO
          clear hO
          by_cases h0 : (nd s.nodes i).kids.length = 0
          · have hz1 : (((nd s.nodes i).kids.length : Int) == 0) = true := by simp [h0]
            have HZ := Aside0.mk h0
            have hRo : (Kd.int .i64).R 3 wr w.heap.size (fun _ => True) u5 (leaves s.nodes i) := by obtain ⟨_, _, _, h⟩ := HO.out; exact h.out
            obtain ⟨Ao, ao, rfl⟩ := Kd.R_slice hRo
            have HRo := Aside0.mk hRo
            have hll := leaves_len s.nodes i
            clear h0 hRo
            go_wp2_with (at_builtin; refine Kd.R_append (Kd.int .i64) (w0 := w) w.heap.size rfl (.tmp 58) (.tmp 60) 24 3 (.int .i64 0) 8 rfl Tryd.underlying24 info_int rfl (by decide) (by omega) (.slice Ao (leaves s.nodes i).length ao) (leaves s.nodes i) (i : Int) [.int .i64 (i : Int)] (fun _ => True) (fun _ => False) rfl (by go_simp) rfl (fun _ h => h.elim) (fun _ _ => trivial) HRo.out HJ.out.below HJ.out.below.size (by omega) ?_; intro v2 w2 hR2 hB2 hg2 hat2; have HO2 := Aside0.mk (O1.leafPush HO.out HZ.out hR2 hB2 hg2 hat2); clear hR2 hB2 hg2 hat2)
            go_roundw
            case rel => exact ⟨i + 1, by omega, by go_num, HO2⟩
            case measure => simp [intOf]; omega
          · have hz1 : (((nd s.nodes i).kids.length : Int) == 0) = false := by simp [h0]
            have HO2 := Aside0.mk (O1.leaf HO.out h0)
            clear h0
            go_wp2
            go_roundw
            case rel => exact ⟨i + 1, by omega, by go_num, HO2⟩
            case measure => simp [intOf]; omega
    · obtain rfl : i = s.nodes.length := by omega
      obtain ⟨t, op, hO⟩ := HI.out.last HM.out
      have HO := Aside0.mk hO
      clear HI hO
      go_wp2
      go_loopw [5, 10] (fun v5 v10 W => ∃ (i : Nat) (op out : List Int), v10 = .int .i64 i ∧ Aside0 (O2 s.nodes w gt ct go co v5 t op out i 0 W)) (fun _ v10 _ => s.nodes.length - (intOf v10).toNat)
      case atStart => exact ⟨0, _, _, rfl, HO⟩
      case round =>
        clear HO
        obtain ⟨i, op, out, rfl, HO⟩ := hrel
        obtain ⟨Ao, ao, rfl⟩ := Kd.R_slice HO.out.om.out
        have hon := nodup_len HO.out.inv.nd HO.out.inv.pl
        by_cases hil : i < out.length
        · have hro := Kd.R_reads' HO.out.om.out
          obtain ⟨ado, rfl, hxo⟩ := at_nat hro.2.2 i hil
          have HQ := Aside0.mk (HO.out.inv.pl _ (rd_mem hil))
          obtain ⟨c0, hc0⟩ : ∃ k : Nat, rd out (i : Int) = (k : Int) := ⟨(rd out (i : Int)).toNat, by have := HQ.out.1; omega⟩
          have hcn : c0 < s.nodes.length := by have := HQ.out.2; omega
          obtain ⟨Ar, cr, hrc, hrC⟩ := HO.out.row_at c0 hcn
          have HO3 := Aside0.mk (O3.mk HO.out hc0 hil hrc)
          have hrl := HO.out.len c0 hcn
          rw [hc0] at hxo
          clear hro hc0 hrC
          go_wp2
          go_loopw [5, 77] (fun v5 v77 W => ∃ (j : Nat) (op out : List Int), v77 = .int .i64 j ∧ j ≤ (row t c0).length ∧ Aside0 (O3 s.nodes w gt ct go co Ar cr c0 v5 t op out i j W)) (fun _ v77 _ => (row t c0).length - (intOf v77).toNat)
          case atStart => exact ⟨0, _, _, rfl, by omega, HO3⟩
          case round =>
            clear HO HO3 hxo hrc hon hil
            obtain ⟨j, op1, out1, rfl, hj, HO⟩ := hrel
            obtain ⟨Ap, ap, rfl⟩ := Kd.R_slice HO.out.o.om.out
            by_cases hjl : j < (row t c0).length
            · obtain ⟨adr, rfl, hxr⟩ := at_nat (HO.out.reads hcn) j hjl
              have HQ := Aside0.mk (HO.out.o.pars.2.1 c0 hcn (rd (row t c0) (j : Int)) (by rw [rowOf_nat]; exact rd_mem hjl))
              obtain ⟨p, hp⟩ : ∃ k : Nat, rd (row t c0) (j : Int) = (k : Int) := ⟨(rd (row t c0) (j : Int)).toNat, by have := HQ.out.1; omega⟩
              have hpn : p < s.nodes.length := by have := HQ.out.2; omega
              have hcnt := HO.out.o.cnt HO.out.lt (by rw [HO.out.eq]; exact hjl) (by rw [HO.out.eq]; exact hp) hpn
              have hkl : (kids s.nodes p).length ≤ 1000000 := by
                have h1 := pre_succ s.nodes p
                have h2 := pre_le (ns := s.nodes) (i := p + 1) (by omega)
                have := HM.out
                rw [wt] at h1
                rw [kids_nat]
                omega
              obtain ⟨k1, k2, -⟩ := HO.out.o.om.count p hpn (rd op1 (p : Int) - 1)
              have hon := nodup_len HO.out.o.inv.nd HO.out.o.inv.pl
              have HP2 := Aside0.mk hp
              rw [hp] at hxr
              clear hp
              by_cases hz : rd op1 (p : Int) - 1 = 0
              · have hz1 : (rd op1 (p : Int) - 1 == 0) = true := by simpa using hz
                have HZ := Aside0.mk hz
                have HF := Aside0.mk (HO.out.o.om.count p hpn (rd op1 (p : Int) - 1)).2.2
                have HG := Aside0.mk (fun W1 v1 hR hB hg hat => HO.out.free (W1 := W1) (v1 := v1) hjl HP2.out hpn HZ.out hR hB hg hat)
                clear hz
                go_wp2_with (at_builtin; refine Kd.R_append (Kd.int .i64) (w0 := w) w.heap.size rfl (.tmp 92) (.tmp 94) 24 3 (.int .i64 0) 8 rfl Tryd.underlying24 info_int rfl (by decide) (by omega) (.slice Ap out1.length ap) out1 (p : Int) [.int .i64 (p : Int)] (fun _ => True) (fun _ => False) rfl (by go_simp) rfl (fun _ h => h.elim) (fun _ _ => trivial) HF.out.out HF.out.below HF.out.below.size (by omega) ?_; intro v3 w3 hR3 hB3 hg3 hat3; have HN := Aside0.mk (HG.out _ _ hR3 hB3 hg3 hat3); clear hR3 hB3 hg3 hat3)
                go_roundw
                case rel => exact ⟨j + 1, _, _, by go_num, by omega, HN⟩
                case measure => simp [intOf]; omega
              · have hz1 : (rd op1 (p : Int) - 1 == 0) = false := by simpa using hz
                have HN := Aside0.mk (HO.out.strike hjl HP2.out hpn hz)
                clear hz
                go_wp2
                go_roundw
                case rel => exact ⟨j + 1, _, _, by go_num, by omega, HN⟩
                case measure => simp [intOf]; omega
            · obtain rfl : j = (row t c0).length := by omega
              have HN := Aside0.mk HO.out.next
              have hon := nodup_len HO.out.o.inv.nd HO.out.o.inv.pl
              have hlt := HO.out.lt
              go_wp2
              go_roundw
              case rel => exact ⟨i + 1, _, _, by go_num, HN⟩
              case measure => simp [intOf]; omega
        · have HT := Aside0.mk (OInv.topo HO.out.pars HO.out.inv (by omega))
          go_wp2
          go_ret
          exact ⟨_, _, _, rfl, HT.out, HO.out.om.out, HO.out.om.below⟩
end Go.Proofs.YtglfebpgdghlfaaDoor.L
end
section
namespace Go.Proofs.YtglfebpgdghlfaaDoor.L
open Go.RowKit Go.ChangeShapes Go.WideShapes Go.Proofs.YtglfebpgdghlfaaDoorW.PrintWords Go.Proofs.YtglfebpgdghlfaaDoorW.PrintLast Go.Proofs.YtglfebpgdghlfaaDoorW.PrintMore
attribute [local go_sem] max2_int min2_int max_two min_two max_three min_three max_four min_four
theorem range_in {L : List Int} {n : Nat} (hL : L.Nodup) (h : ∀ x ∈ L, 0 ≤ x ∧ x < (n : Int)) (hl : n ≤ L.length) (p : Nat) (hp : p < n) : (p : Int) ∈ L := by
  apply Classical.byContradiction
  intro hn
  have := nodup_len (n := n) (L := L ++ [(p : Int)]) (List.nodup_append.2 ⟨hL, by simp, fun a ha b hb e => by rw [List.mem_singleton.1 hb] at e; exact hn (e ▸ ha)⟩) (fun x hx => by
    rcases List.mem_append.1 hx with hx | hx
    · exact h x hx
    · rw [List.mem_singleton.1 hx]; omega)
  rw [List.length_append, List.length_singleton] at this
  omega
theorem Topo.whole {ns : List Node} {L : List Int} (h : Topo ns L) (hl : ¬ L.length < ns.length) (p : Nat) (hp : p < ns.length) : ¬ Cyc ns p := h.acyclic (range_in h.nd h.pl (by omega)) p hp
theorem Topo.part {ns : List Node} {L : List Int} (hP : Places ns) (h : Topo ns L) (hl : L.length < ns.length) : ¬ ∀ p : Nat, p < ns.length → ¬ Cyc ns p := fun hc => by
  have h1 := h.cyclic hP hc
  have h2 := count_sum h.nd ((List.range ns.length).map (fun p : Nat => (p : Int)))
  have h3 : (((List.range ns.length).map (fun p : Nat => (p : Int))).filter (fun x => L.contains x)) = (List.range ns.length).map (fun p : Nat => (p : Int)) := List.filter_eq_self.2 (fun x hx => by
    obtain ⟨q, hq, rfl⟩ := List.mem_map.1 hx
    simpa using h1 q (List.mem_range.1 hq))
  rw [h3, List.length_map, List.length_range] at h2
  have h4 : ∀ M : List Int, (M.map (fun c => ((List.range ns.length).map (fun p : Nat => (p : Int))).count c)).sum ≤ M.length := fun M => by
    induction M with
    | nil => exact Nat.le_refl _
    | cons a r ih =>
      have hnd : ((List.range ns.length).map (fun p : Nat => (p : Int))).Nodup := List.Pairwise.map _ (fun a b hab h => hab (by omega)) List.nodup_range
      have := List.nodup_iff_count.1 hnd a
      rw [List.map_cons, List.sum_cons, List.length_cons]
      omega
  have := h4 L
  omega
theorem visF_bool {vs : List Int} {l : List Int} {ns : List Node} (h : ∀ k, k ∈ vs ↔ Rch ns l k) {x : Int} {y : Bool} (hy : y = true ↔ Rch ns l x) : (visF vs (.int .i64 x)).getD (.bool false) = .bool y := by
  cases y
  · exact visF_out (fun hm => by have := hy.2 ((h x).1 hm); cases this)
  · exact visF_in ((h x).2 (hy.1 rfl))
theorem bool_of (p : Prop) : ∃ y : Bool, y = true ↔ p := by
  by_cases h : p
  · exact ⟨true, fun _ => h, fun _ => rfl⟩
  · exact ⟨false, (fun h' => by cases h'), fun h' => absurd h' h⟩
theorem kids_len {ns : List Node} {i : Nat} (hi : i < ns.length) : (nd ns i).kids.length ≤ rows ns := by
  have h1 := pre_succ ns i
  have h2 := pre_le (ns := ns) (i := i + 1) (by omega)
  rw [wt] at h1
  omega
def CheckPost (s : Scene) (w : World) (e : Ending) (w' : World) : Prop := e = .returned (.tuple #[.int .i64 (gcheck s).1, .int .i64 (gcheck s).2]) ∧ Below w.heap.size w w'
theorem gcheck_root {s : Scene} (h : s.root < 0 ∨ (s.nodes.length : Int) ≤ s.root) : gcheck s = (13, -1) := by unfold gcheck; rw [if_pos h]
theorem gcheck_refs {s : Scene} (h0 : ¬ (s.root < 0 ∨ (s.nodes.length : Int) ≤ s.root)) (h : 0 ≤ refsAt s.nodes) : gcheck s = (13, refsAt s.nodes) := by unfold gcheck; rw [if_neg h0, if_pos h]
theorem gcheck_cyc {s : Scene} (h0 : ¬ (s.root < 0 ∨ (s.nodes.length : Int) ≤ s.root)) (h : ¬ 0 ≤ refsAt s.nodes) {k : Nat} (hk : k < s.nodes.length) (hn : ∀ j, j < k → ¬ Cyc s.nodes (j : Int)) (hc : Cyc s.nodes (k : Int)) : gcheck s = (14, (k : Int)) := by
  have e : cycAt s.nodes = (k : Int) := by unfold cycAt; rw [firstP_at _ 0 k hk (fun j hj => by simpa using hn j hj) (by simpa using hc)]; simp
  unfold gcheck
  rw [if_neg h0, if_neg h, e, if_pos (by omega)]
theorem gcheck_loose {s : Scene} (h0 : ¬ (s.root < 0 ∨ (s.nodes.length : Int) ≤ s.root)) (h : ¬ 0 ≤ refsAt s.nodes) (hc : ∀ j : Nat, j < s.nodes.length → ¬ Cyc s.nodes (j : Int)) {k : Nat} (hk : k < s.nodes.length) (hn : ∀ j : Nat, j < k → Rch s.nodes [s.root] (j : Int)) (hl : ¬ Rch s.nodes [s.root] (k : Int)) : gcheck s = (15, (k : Int)) := by
  have e1 : cycAt s.nodes = -1 := by unfold cycAt; exact firstP_no _ _ (fun j hj => by simpa using hc j hj)
  have e : looseAt s = (k : Int) := by unfold looseAt; rw [firstP_at _ 0 k hk (fun j hj => by simpa using hn j hj) (by simpa using hl)]; simp
  unfold gcheck
  rw [if_neg h0, if_neg h, e1, if_neg (by omega), e, if_pos (by omega)]
theorem gcheck_ok {s : Scene} (h0 : ¬ (s.root < 0 ∨ (s.nodes.length : Int) ≤ s.root)) (h : ¬ 0 ≤ refsAt s.nodes) (hc : ∀ j : Nat, j < s.nodes.length → ¬ Cyc s.nodes (j : Int)) (hn : ∀ j : Nat, j < s.nodes.length → Rch s.nodes [s.root] (j : Int)) : gcheck s = (0, 0) :=
  gcheck_zero ⟨by omega, by omega, Places.of_refs ((refsAt_lt _).resolve_right h), hc, hn⟩
theorem ret_two {a b c d : Int} (h : (a, b) = (c, d)) : Ending.returned (.tuple #[.int .i64 a, .int .i64 b]) = .returned (.tuple #[.int .i64 c, .int .i64 d]) := by rw [(Prod.mk.inj h).1, (Prod.mk.inj h).2]
set_option maxRecDepth 100000 in
set_option maxHeartbeats 8000000 in
theorem gcheck_any (A : Option Addr) (c : Nat) (s : Scene) (w : World) (h : kNode.C w A s.nodes.length s.nodes) (hM : rows s.nodes ≤ 400000) :
    Calls Tryd.prog 45 #[.agg #[.slice A s.nodes.length c, .int .i64 s.root]] w (CheckPost s w) := by
  have HR := Aside0.mk h
  have HM := Aside0.mk hM
  have b0 := h.2.1
  have HB := Aside0.mk (below_alloc (Below.refl w.heap.size w) (.cells #[.slice A s.nodes.length c, .int .i64 s.root] 39))
  have HC0 := Aside0.mk (And.intro (box_cell w _ rfl #[.slice A s.nodes.length c, .int .i64 s.root] 39 0 _ rfl) (box_cell w _ rfl #[.slice A s.nodes.length c, .int .i64 s.root] 39 1 _ rfl))
  have hu := Tryd.underlying39
  clear h hM
  by_cases hr1 : s.root < 0
  · have HE := Aside0.mk (gcheck_root (.inl hr1))
    have d1 : decide (s.root < 0) = true := decide_eq_true hr1
    clear hr1
    go_enter Tryd.func45, Tryd.ntmps45
    go_wp2
    go_ret2
    exact ⟨ret_two HE.out.symm, by repeat (first | with_reducible exact HB.out | with_reducible apply below_alloc | with_reducible apply pw_below_drewN | with_reducible apply below_drew1 | (with_reducible refine below_set ?_ (by first | omega | (simp; omega))))⟩
  have d1 : decide (s.root < 0) = false := decide_eq_false hr1
  by_cases hr2 : (s.nodes.length : Int) ≤ s.root
  · have HE := Aside0.mk (gcheck_root (.inr hr2))
    have d2 : decide ((s.nodes.length : Int) ≤ s.root) = true := decide_eq_true hr2
    clear hr1 hr2
    go_enter Tryd.func45, Tryd.ntmps45
    go_wp2
    go_ret2
    exact ⟨ret_two HE.out.symm, by repeat (first | with_reducible exact HB.out | with_reducible apply below_alloc | with_reducible apply pw_below_drewN | with_reducible apply below_drew1 | (with_reducible refine below_set ?_ (by first | omega | (simp; omega))))⟩
  have d2 : decide ((s.nodes.length : Int) ≤ s.root) = false := decide_eq_false hr2
  have H0 : Aside0 (¬ (s.root < 0 ∨ (s.nodes.length : Int) ≤ s.root)) := ⟨fun h => by omega⟩
  have hn0 : 0 < s.nodes.length := by omega
  clear hr1 hr2
  go_enter Tryd.func45, Tryd.ntmps45
  go_wp2_with fail
  refine (refs_any A c s _ (Kd.C_below HR.out HB.out)).mono ?_
  rintro e w1 ⟨rfl, hB1⟩
  have HB1 := Aside0.mk (below_step HB.out hB1)
  have HC1 := Aside0.mk (And.intro (pw_cell_below hB1 HC0.out.1) (pw_cell_below hB1 HC0.out.2))
  clear hB1
  by_cases hf : 0 ≤ refsAt s.nodes
  · have HE := Aside0.mk (gcheck_refs H0.out hf)
    have d3 : decide (0 ≤ refsAt s.nodes) = true := decide_eq_true hf
    clear hf
    go_wp2
    go_ret2
    exact ⟨ret_two HE.out.symm, HB1.out⟩
  have d3 : decide (0 ≤ refsAt s.nodes) = false := decide_eq_false hf
  have HF := Aside0.mk hf
  have HP := Aside0.mk (Places.of_refs ((refsAt_lt s.nodes).resolve_right hf))
  clear hf
  have k0 := HC1.out.1
  have k1 := HC1.out.2
  go_wp2
  go_region_held3 (fun W => W.cell? ⟨w.heap.size, 0, none⟩ = some (.slice A s.nodes.length c) ∧ W.cell? ⟨w.heap.size, 1, none⟩ = some (.int .i64 s.root))
    (first
      | (go_split_ands
         refine ⟨?_, ?_⟩
         all_goals first
           | with_reducible exact pw_cell_below hB2 (by assumption)
           | with_reducible assumption
           | (simp [*]; done)))
    (first | (go_at_call 86; refine (order_any A c s _ (Kd.C_below HR.out (below_drew1 HB1.out)) HP.out hn0 (by have := HM.out; omega)).mono ?_; rintro e w2 ⟨L, AL, cL, rfl, hT, hR2, hB2⟩; have HT := Aside0.mk hT; have HB2 := Aside0.mk (below_step (below_drew1 HB1.out) hB2); clear hT hR2))
  have HC2 := Aside0.mk (And.intro (pw_cell_below hB2 (show (w1.drew).cell? _ = _ from k0)) (pw_cell_below hB2 (show (w1.drew).cell? _ = _ from k1)))
  clear hB2 k0 k1
  by_cases hl : L.length < s.nodes.length
  · have dl : decide (L.length < s.nodes.length) = true := decide_eq_true hl
    rw [dl]
    have HX := Aside0.mk (HT.out.part HP.out hl)
    clear hl dl
    have k0 := HC2.out.1
    go_wp2
    clear k0
    go_loopw [5, 35] (fun _ v35 W => ∃ i : Nat, i ≤ s.nodes.length ∧ v35 = .int .i64 i ∧ Aside0 (∀ j, j < i → ¬ Cyc s.nodes (j : Int)) ∧ Aside0 (Below w2.heap.size w2 W)) (fun _ v35 _ => s.nodes.length - (intOf v35).toNat)
    case atStart => exact ⟨0, by omega, rfl, ⟨fun j hj => by omega⟩, ⟨Below.refl _ _⟩⟩
    case round =>
      obtain ⟨i, hi, rfl, HN, HBi⟩ := hrel
      by_cases hlt : i < s.nodes.length
      · have HBw := Aside0.mk (below_step HB2.out HBi.out)
        have k0 := pw_cell_below HBi.out HC2.out.1
        have k1 := pw_cell_below HBi.out HC2.out.2
        obtain ⟨adn, A1, c1, A2, c2, A3, c3, rfl, x0, x1, x2, x3, hNd⟩ := at_node HR.out i hlt
        replace x0 := pw_cell_below HBw.out x0
        replace x1 := pw_cell_below HBw.out x1
        replace x2 := pw_cell_below HBw.out x2
        replace x3 := pw_cell_below HBw.out x3
        have HNk := Aside0.mk hNd.k
        have hb0 := below_alloc (Below.refl wr.heap.size wr) (.cells #[.int .i64 (nd s.nodes i).kind, .slice A1 (nd s.nodes i).ints.length c1, .slice A2 (nd s.nodes i).texts.length c2, .slice A3 (nd s.nodes i).kids.length c3] 26)
        replace k0 := pw_cell_below hb0 k0
        replace k1 := pw_cell_below hb0 k1
        have k3 : (wr.alloc (.cells #[.int .i64 (nd s.nodes i).kind, .slice A1 (nd s.nodes i).ints.length c1, .slice A2 (nd s.nodes i).texts.length c2, .slice A3 (nd s.nodes i).kids.length c3] 26)).cell? ⟨wr.heap.size, 3, none⟩ = some (.slice A3 (nd s.nodes i).kids.length c3) := box_cell _ _ rfl _ _ 3 _ rfl
        have HBa := Aside0.mk (below_drew1 (below_alloc HBw.out (.cells #[.int .i64 (nd s.nodes i).kind, .slice A1 (nd s.nodes i).ints.length c1, .slice A2 (nd s.nodes i).texts.length c2, .slice A3 (nd s.nodes i).kids.length c3] 26)))
        have HBa2 := Aside0.mk (below_drew1 (below_alloc HBi.out (.cells #[.int .i64 (nd s.nodes i).kind, .slice A1 (nd s.nodes i).ints.length c1, .slice A2 (nd s.nodes i).texts.length c2, .slice A3 (nd s.nodes i).kids.length c3] 26)))
        have HKL := Aside0.mk (kids_len hlt)
        have HKI := Aside0.mk (keyI_of (x := (i : Int)) (by omega) (by omega))
        obtain ⟨y, hy⟩ := bool_of (Cyc s.nodes (i : Int))
        have HY := Aside0.mk hy
        have HYk := Aside0.mk (show y = true ↔ Rch s.nodes (nd s.nodes i).kids (i : Int) from by rw [hy, Cyc, kids_nat])
        clear hNd hb0 hy
        go_wp2
        clear x0 x1 x2 x3
        go_region_held3 (fun W => W.cell? ⟨w.heap.size, 0, none⟩ = some (.slice (some adn) s.nodes.length c) ∧ W.cell? ⟨w.heap.size, 1, none⟩ = some (.int .i64 s.root) ∧ W.cell? ⟨wr.heap.size, 3, none⟩ = some (.slice A3 (nd s.nodes i).kids.length c3))
          (first
            | (go_split_ands
               refine ⟨?_, ?_, ?_⟩
               all_goals first
                 | with_reducible assumption
                 | exact pw_cell_below hB4 (show (World.drew _).cell? _ = _ from k0)
                 | exact pw_cell_below hB4 (show (World.drew _).cell? _ = _ from k1)
                 | exact pw_cell_below hB4 (show (World.drew _).cell? _ = _ from k3)
                 | exact pw_cell_below hB3 (show (World.drew _).cell? _ = _ from k0)
                 | exact pw_cell_below hB3 (show (World.drew _).cell? _ = _ from k1)
                 | exact pw_cell_below hB3 (show (World.drew _).cell? _ = _ from k3)
                 | (simp [*]; done)))
          (first
            | (go_at_call 39; refine (clone_int A3 c3 (nd s.nodes i).kids _ (Kd.C_below HNk.out HBa.out) (by have := HKL.out; have := HM.out; omega)).mono ?_; rintro e w3 ⟨A4, c4, rfl, hR3, hB3⟩)
            | (go_at_call 87; refine (reach_any (some adn) c s (nd s.nodes i).kids _ _ _ (Kd.C_below HR.out HBa.out) HP.out (HP.out i hlt) hR3 hB3 (by have := HKL.out; have := HM.out; omega)).mono ?_; rintro e w4 ⟨b, vs, n, rfl, hMF, hbb, hvs, hB4⟩; have hlk := MapF.run_lookup _ 115 hMF keyI Tryd.underlying115 (zeroB _) HKI.out; rw [visF_bool hvs HYk.out] at hlk; clear hMF hbb hvs))
        have HB4 := Aside0.mk (below_step HBa2.out hB4)
        clear hB4 hB3 hR3 k0 k1 k3 hlk
        cases y
        · have HNi := Aside0.mk (ext_lt HN.out (show ¬ Cyc s.nodes (i : Int) from fun h => by have := HY.out.2 h; cases this))
          go_wp2
          go_roundw
          case rel => exact ⟨i + 1, by omega, by go_num, HNi, HB4⟩
          case measure => simp [intOf]; omega
        · have HE := Aside0.mk (gcheck_cyc H0.out (by have := HF.out; omega) hlt HN.out (HY.out.1 rfl))
          go_wp2
          go_ret2
          exact ⟨ret_two HE.out.symm, below_step HB2.out HB4.out⟩
      · exact absurd (fun p hp => HN.out p (by omega)) HX.out
  · have dl : decide (L.length < s.nodes.length) = false := decide_eq_false hl
    rw [dl]
    have HX := Aside0.mk (HT.out.whole hl)
    clear hl dl
    have k0 := HC2.out.1
    have k1 := HC2.out.2
    have hrt := H0.out
    go_wp2_with fail
    refine (reach_any A c s [s.root] (.slice (some ⟨w2.heap.size, 0, none⟩) 1 1) w2 _ (Kd.C_below HR.out HB2.out) HP.out (fun k hk => by rw [List.mem_singleton.1 hk]; have := H0.out; omega) (R_lits (Kd.int .i64) 3 (fun x => [.int .i64 x]) w2 w2.heap.size [s.root] (fun _ => rfl) (fun _ => rfl) (Nat.le_refl _) (by simp) rfl) (below_alloc (Below.refl _ _) _) (by have := HM.out; simp; omega)).mono ?_
    rintro e w3 ⟨b, vs, n, rfl, hMF, hbb, hvs, hB3⟩
    have HMF := Aside0.mk hMF
    have HVS := Aside0.mk hvs
    have HB3 := Aside0.mk (below_step HB2.out hB3)
    replace k0 := pw_cell_below hB3 k0
    clear hMF hbb hvs hB3 k1 hrt
    go_wp2
    clear k0
    go_loopw [8, 57] (fun _ v57 W => ∃ i : Nat, i ≤ s.nodes.length ∧ v57 = .int .i64 i ∧ W = w3 ∧ Aside0 (∀ j : Nat, j < i → Rch s.nodes [s.root] (j : Int))) (fun _ v57 _ => s.nodes.length - (intOf v57).toNat)
    case atStart => exact ⟨0, by omega, rfl, rfl, ⟨fun j hj => by omega⟩⟩
    case round =>
      obtain ⟨i, hi, rfl, rfl, HN⟩ := hrel
      by_cases hlt : i < s.nodes.length
      · have HKI := Aside0.mk (keyI_of (x := (i : Int)) (by omega) (by omega))
        obtain ⟨y, hy⟩ := bool_of (Rch s.nodes [s.root] (i : Int))
        have HY := Aside0.mk hy
        clear hy
        cases y
        · have HE := Aside0.mk (gcheck_loose H0.out (by have := HF.out; omega) HX.out hlt HN.out (fun h => by have := HY.out.2 h; cases this))
          go_wp2_with (at_lookup; refine wpList_lookup_F _ rfl (.tmp 60) (.tmp 61) 115 rfl 3 4 keyI Tryd.underlying115 (zeroB _) b n (visF vs) rfl HMF.out (.int .i64 i) (.int .i64 i) rfl HKI.out (.bool false) (visF_bool HVS.out HY.out) ?_)
          go_ret2
          exact ⟨ret_two HE.out.symm, HB3.out⟩
        · have HNi := Aside0.mk (ext_lt HN.out (HY.out.1 rfl))
          go_wp2_with (at_lookup; refine wpList_lookup_F _ rfl (.tmp 60) (.tmp 61) 115 rfl 3 4 keyI Tryd.underlying115 (zeroB _) b n (visF vs) rfl HMF.out (.int .i64 i) (.int .i64 i) rfl HKI.out (.bool true) (visF_bool HVS.out HY.out) ?_)
          go_roundw
          case rel => exact ⟨i + 1, by omega, by go_num, by first | rfl | trivial, HNi⟩
          case measure => simp [intOf]; omega
      · have HE := Aside0.mk (gcheck_ok H0.out (by have := HF.out; omega) HX.out (fun j hj => HN.out j (by omega)))
        go_wp2
        go_ret2
        exact ⟨ret_two HE.out.symm, HB3.out⟩
end Go.Proofs.YtglfebpgdghlfaaDoor.L
end
section
namespace Go.Proofs.YtglfebpgdghlfaaDoor.L
open Go.RowKit Go.ChangeShapes Go.WideShapes Go.Proofs.YtglfebpgdghlfaaDoorW.PrintWords Go.Proofs.YtglfebpgdghlfaaDoorW.PrintLast Go.Proofs.YtglfebpgdghlfaaDoorW.PrintMore
attribute [local go_sem] max2_int min2_int max_two min_two max_three min_three max_four min_four
def idx (s : Scene) (k : Int) : Nat := (ord s).idxOf k
def numsL (s : Scene) : List Int := (List.range s.nodes.length).map (fun p : Nat => (idx s (p : Int) : Int))
noncomputable def nums (s : Scene) : List Int := if (gcheck s).1 = 0 then numsL s else []
theorem numsL_len (s : Scene) : (numsL s).length = s.nodes.length := by simp [numsL]
theorem numsL_rd (s : Scene) (p : Nat) (hp : p < s.nodes.length) : rd (numsL s) (p : Int) = (idx s (p : Int) : Int) := by
  rw [rd_eq (by rw [numsL_len]; exact hp)]
  simp [numsL]
theorem perm_len {L : List Int} {n : Nat} (hL : L.Nodup) (h : ∀ x ∈ L, 0 ≤ x ∧ x < (n : Int)) (ha : ∀ p : Nat, p < n → (p : Int) ∈ L) : L.length = n := by
  refine Nat.le_antisymm (nodup_len hL h) ?_
  have h2 : ∀ (M : List Int) (f : Int → Nat), (∀ x ∈ M, 0 < f x) → M.length ≤ (M.map f).sum := fun M f => by
    induction M with
    | nil => intro _; exact Nat.zero_le _
    | cons a r ih =>
      intro hM
      have ha := hM a (by simp)
      have := ih (fun x hx => hM x (by simp [hx]))
      rw [List.map_cons, List.sum_cons, List.length_cons]
      omega
  have h3 := h2 ((List.range n).map (fun p : Nat => (p : Int))) (fun c => L.count c) (fun x hx => by
    obtain ⟨p, hp, rfl⟩ := List.mem_map.1 hx
    exact List.count_pos_iff.2 (ha p (List.mem_range.1 hp)))
  rw [List.length_map, List.length_range] at h3
  exact Nat.le_trans h3 (count_le (List.Pairwise.map _ (fun a b hab h => hab (by omega)) List.nodup_range))
theorem ord_len {s : Scene} (h : Right s) : (ord s).length = s.nodes.length := perm_len (ord_nodup h) (ord_pl h) (ord_all h)
theorem idx_at {s : Scene} (h : Right s) {m : Nat} (hm : m < s.nodes.length) : idx s (rd (ord s) (m : Int)) = m := by
  have hm' : m < (ord s).length := by rw [ord_len h]; exact hm
  rw [rd_eq hm']
  unfold idx
  exact List.Nodup.idxOf_getElem (ord_nodup h) m hm'
theorem at_idx {s : Scene} (h : Right s) {p : Nat} (hp : p < s.nodes.length) : idx s (p : Int) < s.nodes.length ∧ rd (ord s) (idx s (p : Int) : Int) = (p : Int) := by
  have h1 := List.idxOf_lt_length_of_mem (ord_all h p hp)
  refine ⟨by rw [← ord_len h]; exact h1, ?_⟩
  unfold idx
  rw [rd_eq h1]
  exact List.getElem_idxOf h1
structure NInv (s : Scene) (i : Nat) (out : List Int) : Prop where
  len : out.length = s.nodes.length
  at_ : ∀ m : Nat, m < i → m < s.nodes.length → rd out (rd (ord s) (m : Int)) = (m : Int)
theorem NInv.start (s : Scene) : NInv s 0 (List.replicate s.nodes.length 0) := ⟨by simp, fun m h => by omega⟩
theorem ord_at {s : Scene} (h : Right s) {m : Nat} (hm : m < s.nodes.length) : ∃ q : Nat, rd (ord s) (m : Int) = (q : Int) ∧ q < s.nodes.length := by
  have hm' : m < (ord s).length := by rw [ord_len h]; exact hm
  have hp := ord_pl h _ (rd_mem (l := ord s) hm')
  have h1 := hp.1
  have h2 := hp.2
  exact ⟨(rd (ord s) (m : Int)).toNat, by omega, by omega⟩
theorem NInv.set {s : Scene} {i q : Nat} {out : List Int} (hr : Right s) (h : NInv s i out) (hi : i < s.nodes.length) (hq : rd (ord s) (i : Int) = (q : Int)) (hqn : q < s.nodes.length) : NInv s (i + 1) (out.set q (i : Int)) := by
  refine ⟨by simpa using h.len, fun m hm hmn => ?_⟩
  obtain ⟨r, hrr, hrn⟩ := ord_at hr hmn
  rw [hrr, rd_set _ _ _ _ (by rw [h.len]; exact hqn)]
  by_cases e : m = i
  · subst e
    rw [hq] at hrr
    rw [if_pos (by omega)]
  · have : ¬ r = q := fun e2 => by
      have h1 := idx_at hr hmn
      have h2 := idx_at hr hi
      rw [hrr, e2] at h1
      rw [hq] at h2
      exact e (h1.symm.trans h2)
    rw [if_neg this, ← hrr]
    exact h.at_ m (by omega) hmn
theorem NInv.done {s : Scene} {out : List Int} (hr : Right s) (h : NInv s s.nodes.length out) : out = numsL s := by
  refine List.ext_getElem (by rw [h.len, numsL_len]) (fun p h1 h2 => ?_)
  rw [← rd_eq h1, ← rd_eq h2]
  rw [h.len] at h1
  obtain ⟨hi, he⟩ := at_idx hr h1
  have := h.at_ _ hi hi
  rw [he] at this
  rw [this, numsL_rd s p h1]
theorem len_rows (ns : List Node) : ns.length ≤ rows ns := by
  have h1 : ∀ i, i ≤ pre ns i := fun i => by
    induction i with
    | zero => exact Nat.zero_le _
    | succ i ih => rw [pre_succ, wt]; omega
  exact h1 _
structure NumRel (s : Scene) (w : World) (g c : Nat) (Ao : Option Addr) (co : Nat) (i : Nat) (out : List Int) (W : World) : Prop where
  inv : NInv s i out
  row : (Kd.int .i64).R 3 W w.heap.size (fun _ => True) (.slice (some ⟨g, 0, none⟩) s.nodes.length c) out
  ord : (Kd.int .i64).R 3 W w.heap.size (fun k => k ≠ g) (.slice Ao s.nodes.length co) (ord s)
  below : Below w.heap.size w W
theorem NumRel.set {s : Scene} {w : World} {g c co : Nat} {Ao : Option Addr} {i q : Nat} {out : List Int} {W : World} (hr : Right s) (h : NumRel s w g c Ao co i out W) (hi : i < s.nodes.length) (hq : rd (L.ord s) (i : Int) = (q : Int)) (hqn : q < s.nodes.length) :
    (∃ x, W.cell? ⟨g, q, none⟩ = some x) ∧ W.frozen? ⟨g, q, none⟩ = false ∧ NumRel s w g c Ao co (i + 1) (out.set q (i : Int)) (W.setCell ⟨g, q, none⟩ (.int .i64 (i : Int))) := by
  obtain ⟨c1, c2⟩ := ints_cell h.row q hqn
  obtain ⟨s1, _, s2⟩ := ints_store h.row q hqn (i : Int)
  exact ⟨⟨_, c1⟩, c2, h.inv.set hr hi hq hqn, s1, Kd.R_far (p := ⟨g, q, none⟩) h.ord (fun k hk => hk) _, below_set h.below s2⟩
set_option maxRecDepth 100000 in
set_option maxHeartbeats 4000000 in
theorem numbers_canon (A : Option Addr) (c : Nat) (s : Scene) (w : World) (h : kNode.C w A s.nodes.length s.nodes) (hM : rows s.nodes ≤ 400000) :
    Calls Tryd.prog 64 #[.agg #[.slice A s.nodes.length c, .int .i64 s.root]] w (RowPost (Kd.int .i64) 3 (nums s) w) := by
  have HR := Aside0.mk h
  have HM := Aside0.mk hM
  have b0 := h.2.1
  have HB := Aside0.mk (below_alloc (Below.refl w.heap.size w) (.cells #[.slice A s.nodes.length c, .int .i64 s.root] 39))
  have k0 := box_cell w _ rfl #[.slice A s.nodes.length c, .int .i64 s.root] 39 0 _ rfl
  have k1 := box_cell w _ rfl #[.slice A s.nodes.length c, .int .i64 s.root] 39 1 _ rfl
  have hu := Tryd.underlying39
  clear h hM
  go_enter Tryd.func64, Tryd.ntmps64
  go_wp2_with fail
  refine (gcheck_any A c s _ (Kd.C_below HR.out HB.out) HM.out).mono ?_
  rintro e w1 ⟨rfl, hB1⟩
  have HB1 := Aside0.mk (below_step HB.out hB1)
  replace k0 := pw_cell_below hB1 k0
  replace k1 := pw_cell_below hB1 k1
  clear hB1
  by_cases hz : (gcheck s).1 = 0
  · have HRt := Aside0.mk (gcheck_right.1 hz)
    have HE : Aside0 (nums s = numsL s) := ⟨by unfold nums; rw [if_pos hz]⟩
    have hnM : s.nodes.length ≤ 400000 := Nat.le_trans (len_rows _) HM.out
    have hn0 : 0 < s.nodes.length := by have := HRt.out.r0; have := HRt.out.r1; omega
    rw [hz]
    clear hz
    go_wp2_with (first
      | (refine Kd.R_make (Kd.int .i64) (w0 := w) w.heap.size 3 rfl (N := 18) rfl 24 _ _ rfl (s.nodes.length : Int) rfl rfl Tryd.underlying24 (.int .i64 0) 8 info_int rfl (by decide) (by omega) 0 (ok := fun _ => True) (okp := fun _ => True) rfl (fun _ hk => hk) trivial (by omega) (by omega) HB1.out HB1.out.size ?_; intro v2 w2 ho2 hb2 hg2 hn2; rw [Int.toNat_natCast] at ho2; obtain ⟨go, co, hv2, -, hgo, -⟩ := Kd.R_form ho2 (by rw [List.length_replicate]; exact hn0); rw [List.length_replicate] at hv2; subst hv2; have HO := Aside0.mk ho2; have HB2 := Aside0.mk hb2; have q0 := cell_grown hg2 k0 (by simp); have q1 := cell_grown hg2 k1 (by simp); clear ho2 hb2 hg2 hn2))
    clear k0 k1
    refine (canOrder_any A c s w2 (Kd.C_below HR.out HB2.out) HRt.out.dag ⟨HRt.out.r0, HRt.out.r1⟩ (by have := HM.out; omega)).mono ?_
    rintro e w3 ⟨A3, c3, rfl, hR3, hB3⟩
    have HI := Aside0.mk (show NumRel s w go co A3 c3 0 (List.replicate s.nodes.length 0) w3 from ⟨NInv.start s, Kd.R_below HO.out hB3, by
      have h := Kd.R_lower (Kd.R_mono (Kd.R_bound hR3) (ok' := fun k => k ≠ go) (fun k hk => by have h1 := Kd.R_lt HO.out go rfl; have h2 := hk.2.1; omega)) HB2.out.size
      rwa [ord_len HRt.out] at h, below_step HB2.out hB3⟩)
    rw [ord_len HRt.out]
    clear q0 q1 hR3 hB3 HO
    go_wp2
    go_loopw [22] (fun v22 W => ∃ i : Nat, i ≤ s.nodes.length ∧ v22 = .int .i64 i ∧ ∃ out, Aside0 (NumRel s w go co A3 c3 i out W)) (fun v22 _ => s.nodes.length - (intOf v22).toNat)
    case atStart => exact ⟨0, by omega, rfl, _, HI⟩
    case round =>
      clear HI
      obtain ⟨i, hi, rfl, out, HI⟩ := hrel
      by_cases hlt : i < s.nodes.length
      · obtain ⟨q, hq, hqn⟩ := ord_at HRt.out hlt
        obtain ⟨ad, rfl, hx⟩ := at_nat (Kd.R_reads' HI.out.ord).2.2 i (by rw [ord_len HRt.out]; exact hlt)
        rw [hq] at hx
        obtain ⟨⟨x, hcx⟩, hfx, hn⟩ := HI.out.set HRt.out hlt hq hqn
        have HN := Aside0.mk hn
        clear hq hn
        go_wp2
        go_roundw
        case rel => exact ⟨i + 1, by omega, by go_num, _, HN⟩
        case measure => simp [intOf]; omega
      · obtain rfl : i = s.nodes.length := by omega
        obtain rfl : out = numsL s := HI.out.inv.done HRt.out
        go_wp2
        go_ret
        exact RowPost.mk (v := .slice (some ⟨go, 0, none⟩) s.nodes.length co) (by rw [HE.out]; exact HI.out.row) HI.out.below
  · have HE : Aside0 (nums s = []) := ⟨by unfold nums; rw [if_neg hz]⟩
    have dz : ((gcheck s).1 == 0) = false := by simpa using hz
    clear hz
    go_wp2
    go_ret
    exact RowPost.mk (by rw [HE.out]; exact Kd.R_nil _ _ _ _ _) HB1.out
end Go.Proofs.YtglfebpgdghlfaaDoor.L
end
section
namespace Go.Proofs.YtglfebpgdghlfaaDoor.L
open Go.RowKit Go.ChangeShapes Go.WideShapes Go.Proofs.YtglfebpgdghlfaaDoorW.PrintWords Go.Proofs.YtglfebpgdghlfaaDoorW.PrintLast Go.Proofs.YtglfebpgdghlfaaDoorW.PrintMore
attribute [local go_sem] max2_int min2_int max_two min_two max_three min_three max_four min_four
section
variable {P : Program} {α : Type}
theorem make_run (d : Kd α) {w0 W : World} (base e : Nat) (t : TypeId) (n : Nat) (ht : P.underlying t = some (.slice e)) (z : Value) (bytes : Nat) (hinfo : (P.info? e).map (fun i => (i.zero, i.size, i.bytes)) = some (some z, d.sz, bytes)) (hz : z.cells.size = d.sz) (hs0 : 0 < d.sz) (hb0 : 0 < bytes)
    (z0 : α) (hzero : d.M W base (fun _ => False) z0 z.cells.toList) (hl : n * bytes ≤ 281474976710656) (HB : Below base w0 W) (hbase : base ≤ W.heap.size) :
    ∃ w3, (Instr.makeSlice t (.int .i64 (n : Int)) (.int .i64 (n : Int))).run P W = .ok (.slice (some ⟨W.heap.size, 0, none⟩) n n) w3 ∧ d.R e w3 base (fun _ => True) (.slice (some ⟨W.heap.size, 0, none⟩) n n) (List.replicate n z0) ∧ Below base w0 w3 ∧ Below W.heap.size W w3 ∧ W.heap.size < w3.heap.size := by
  obtain ⟨i0, hi, hzz⟩ := Option.map_eq_some_iff.1 hinfo
  simp only [Prod.mk.injEq] at hzz
  obtain ⟨hz0, hz1, hz2⟩ := hzz
  have hm : n ≤ 281474976710656 := Nat.le_trans (Nat.le_mul_of_pos_right _ hb0) hl
  have hr := run_make (P := P) W t e i0 z ht hi hz0 .i64 .i64 (n : Int) (n : Int) (by omega) (by omega)
    (by
      have h3 : ((i0.bytes * n : Nat) : Int) ≤ 281474976710656 := by rw [hz2, Nat.mul_comm]; omega
      rwa [Int.natCast_mul] at h3) (by omega)
  simp only [Int.toNat_natCast] at hr
  rw [hz1] at hr
  refine ⟨_, hr, ⟨fun _ _ => trivial, ?_⟩, HB.trans (Below.mono (below_alloc (Below.refl _ _) _) hbase), below_alloc (Below.refl _ _) _, by simp⟩
  have h1 := OwnRow.imp_ (R' := d.M (W.alloc (.cells (madeCells z.cells (n * d.sz)) e)) base (fun k => True ∧ some k ≠ (Value.slice (some ⟨W.heap.size, 0, none⟩) n n).ownBlock))
    (OwnRow.lit (e := e) (R := fun p c => d.M W base (fun _ => False) p c) W base (Kd.reps_made hz hs0 hzero n) hbase (by simp; omega)) (fun p c hp => d.M_mono (fun _ h => (show False from h).elim) (Kd.M_alloc hp _))
  simpa using h1
end
end Go.Proofs.YtglfebpgdghlfaaDoor.L
end
section
namespace Go.Proofs.YtglfebpgdghlfaaDoor.L
open Go.RowKit Go.ChangeShapes Go.WideShapes Go.Proofs.YtglfebpgdghlfaaDoorW.PrintWords Go.Proofs.YtglfebpgdghlfaaDoorW.PrintLast Go.Proofs.YtglfebpgdghlfaaDoorW.PrintMore
attribute [local go_sem] max2_int min2_int max_two min_two max_three min_three max_four min_four
def relab (s : Scene) (n : Node) : Node := ⟨n.kind, n.ints, n.texts, n.kids.map (fun k => (idx s k : Int))⟩
def canonL (s : Scene) : List Node := (ord s).map (fun a => relab s (nd s.nodes a.toNat))
noncomputable def canonR (s : Scene) : Scene := if (gcheck s).1 = 0 then ⟨canonL s, (s.nodes.length : Int) - 1⟩ else ⟨[], 0⟩
def ScenePost (t : Scene) (er : Int) (w : World) (e : Ending) (w' : World) : Prop :=
  ∃ A c, e = .returned (.tuple #[.agg #[.slice A t.nodes.length c, .int .i64 t.root], .int .i64 er]) ∧ kNode.R 26 w' w.heap.size (fun _ => True) (.slice A t.nodes.length c) t.nodes ∧ Below w.heap.size w w'
theorem info_nodez : (Tryd.prog.info? 26).map (fun i => (i.zero, i.size, i.bytes)) = some (some (.agg #[.int .i64 0, .slice none 0 0, .slice none 0 0, .slice none 0 0]), 4, 80) := by kernel_rfl
theorem box2 {W : World} {b : Nat} {x0 x1 : Value} {T : TypeId} (h : W.heap[b]? = some (.cells #[x0, x1] T (0, 0))) (u0 u1 : Value) : ((W.setCell ⟨b, 0, none⟩ u0).setCell ⟨b, 1, none⟩ u1).heap[b]? = some (.cells #[u0, u1] T (0, 0)) := by
  have := blk_set (blk_set h 0 u0) 1 u1
  simpa using this
theorem box4 {W : World} {b : Nat} {x0 x1 x2 x3 : Value} {T : TypeId} (h : W.heap[b]? = some (.cells #[x0, x1, x2, x3] T (0, 0))) (u0 u1 u2 u3 : Value) : ((((W.setCell ⟨b, 0, none⟩ u0).setCell ⟨b, 1, none⟩ u1).setCell ⟨b, 2, none⟩ u2).setCell ⟨b, 3, none⟩ u3).heap[b]? = some (.cells #[u0, u1, u2, u3] T (0, 0)) := by
  have := blk_set (blk_set (blk_set (blk_set h 0 u0) 1 u1) 2 u2) 3 u3
  simpa using this
theorem set_grown (W : World) (b i : Nat) (u : Value) : W.grownBy (W.setCell ⟨b, i, none⟩ u) (some b) := ⟨rfl, rfl, rfl, by simp, fun k _ hk => Below.heap_setCell W ⟨b, i, none⟩ u k (fun e => hk (by rw [e]))⟩
theorem R_type {α : Type} {d : Kd α} {e base : Nat} {ok : Nat → Prop} {W : World} {v : Value} {xs : List α} {g : Nat} {cells : Array Value} {T : TypeId} (h : d.R e W base ok v xs) (hb : W.heap[g]? = some (.cells cells T (0, 0))) (hT : ¬ T ∈ e :: d.E) (u : Value) (i : Nat) : d.R e (W.setCell ⟨g, i, none⟩ u) base ok v xs :=
  Kd.R_mono (Kd.R_grown (Kd.R_bound h) (set_grown W g i u) (fun k hk he => by
    injection he with he
    obtain ⟨_, _, _, q, hq, cs, hc⟩ := hk
    subst he
    rw [hb] at hc
    injection hc with hc
    injection hc with _ hc
    subst hc
    exact hT hq)) (fun _ hk => hk.1)
theorem below_set2 {B b : Nat} {w W : World} {u0 u1 : Value} (h : Below B w W) (hb : B ≤ b) : Below B w ((W.setCell ⟨b, 0, none⟩ u0).setCell ⟨b, 1, none⟩ u1) := (h.setCell (p := ⟨b, 0, none⟩) hb u0).setCell (p := ⟨b, 1, none⟩) hb u1
structure CanRel (s : Scene) (w : World) (A2 : Option Addr) (c2 gs gn i : Nat) (l : List Node) (W : World) : Prop where
  len : l.length = s.nodes.length
  at_ : ∀ p : Nat, p < i → p < s.nodes.length → nd l (idx s (p : Int)) = relab s (nd s.nodes p)
  box : W.heap[gs]? = some (.cells #[.slice (some ⟨gn, 0, none⟩) s.nodes.length s.nodes.length, .int .i64 ((s.nodes.length : Int) - 1)] 39 (0, 0))
  row : kNode.R 26 W w.heap.size (fun _ => True) (.slice (some ⟨gn, 0, none⟩) s.nodes.length s.nodes.length) l
  num : (Kd.int .i64).R 3 W w.heap.size (fun _ => True) (.slice A2 s.nodes.length c2) (numsL s)
  res : W.heap[w.heap.size + 1]? = some (.cells #[.slice none 0 0, .int .i64 0] 39 (0, 0))
  lt : w.heap.size + 1 < W.heap.size
  below : Below w.heap.size w W
theorem CanRel.start {s : Scene} {w W : World} {A2 : Option Addr} {c2 gs gn : Nat} (hb : W.heap[gs]? = some (.cells #[.slice none 0 0, .int .i64 0] 39 (0, 0))) (hne : gs ≠ w.heap.size + 1) (hge : w.heap.size ≤ gs)
    (hr : kNode.R 26 W w.heap.size (fun _ => True) (.slice (some ⟨gn, 0, none⟩) s.nodes.length s.nodes.length) (List.replicate s.nodes.length nodez)) (hn : (Kd.int .i64).R 3 W w.heap.size (fun _ => True) (.slice A2 s.nodes.length c2) (numsL s))
    (hl : W.heap[w.heap.size + 1]? = some (.cells #[.slice none 0 0, .int .i64 0] 39 (0, 0))) (hB : Below w.heap.size w W) :
    CanRel s w A2 c2 gs gn 0 (List.replicate s.nodes.length nodez) ((W.setCell ⟨gs, 0, none⟩ (.slice (some ⟨gn, 0, none⟩) s.nodes.length s.nodes.length)).setCell ⟨gs, 1, none⟩ (.int .i64 ((s.nodes.length : Int) - 1))) := by
  have h1 := R_type hr hb (by decide) (.slice (some ⟨gn, 0, none⟩) s.nodes.length s.nodes.length) 0
  have h1' := R_type h1 (blk_set hb 0 _) (by decide) (.int .i64 ((s.nodes.length : Int) - 1)) 1
  have h2 := R_type hn hb (by decide) (.slice (some ⟨gn, 0, none⟩) s.nodes.length s.nodes.length) 0
  have h2' := R_type h2 (blk_set hb 0 _) (by decide) (.int .i64 ((s.nodes.length : Int) - 1)) 1
  refine ⟨by simp, fun p h => by omega, box2 hb _ _, h1', h2', ?_, ?_, below_set2 hB hge⟩
  · rw [Below.heap_setCell _ _ _ _ (Ne.symm hne), Below.heap_setCell _ _ _ _ (Ne.symm hne)]; exact hl
  · have := blk_lt hl
    simpa using this
section
variable {s : Scene} {w W W1 : World} {A2 : Option Addr} {c2 gs gn i : Nat} {l : List Node}
theorem CanRel.later (h : CanRel s w A2 c2 gs gn i l W) (hb : Below W.heap.size W W1) : CanRel s w A2 c2 gs gn i l W1 :=
  ⟨h.len, h.at_, (hb.block gs (blk_lt h.box)).trans h.box, Kd.R_below h.row hb, Kd.R_below h.num hb, (hb.block _ h.lt).trans h.res, Nat.lt_of_lt_of_le h.lt hb.size, below_step h.below hb⟩
theorem CanRel.drew (h : CanRel s w A2 c2 gs gn i l W) : CanRel s w A2 c2 gs gn i l W.drew := h.later (pw_below_drewN (Below.refl _ _) 1)
theorem CanRel.slot (h : CanRel s w A2 c2 gs gn i l W) (p : Nat) (hp : p < s.nodes.length) : ((∃ x, W.cell? ⟨gn, p * 4, none⟩ = some x) ∧ (∃ x, W.cell? ⟨gn, p * 4 + 1, none⟩ = some x) ∧ (∃ x, W.cell? ⟨gn, p * 4 + 2, none⟩ = some x) ∧ (∃ x, W.cell? ⟨gn, p * 4 + 3, none⟩ = some x)) ∧
    W.frozen? ⟨gn, p * 4, none⟩ = false ∧ W.frozen? ⟨gn, p * 4 + 1, none⟩ = false ∧ W.frozen? ⟨gn, p * 4 + 2, none⟩ = false ∧ W.frozen? ⟨gn, p * 4 + 3, none⟩ = false := by
  obtain ⟨c, hcl, hM, hcc, hfr⟩ := R_elemN h.row nodez p hp
  obtain ⟨v1, v2, v3, rfl, -⟩ := kNode_openM hM
  exact ⟨⟨⟨_, hcc 0 _ rfl⟩, ⟨_, hcc 1 _ rfl⟩, ⟨_, hcc 2 _ rfl⟩, ⟨_, hcc 3 _ rfl⟩⟩, hfr 0, hfr 1, hfr 2, hfr 3⟩
theorem nd_set (l : List Node) (i j : Nat) (n : Node) (h : i < l.length) : nd (l.set i n) j = if j = i then n else nd l j := by
  unfold nd
  rw [List.getD_eq_getElem?_getD, List.getD_eq_getElem?_getD, List.getElem?_set]
  by_cases e : j = i
  · subst e; rw [if_pos rfl, if_pos rfl, if_pos h]; rfl
  · rw [if_neg e, if_neg (fun h => e h.symm)]
theorem idx_inj {s : Scene} (hr : Right s) {p q : Nat} (hp : p < s.nodes.length) (hq : q < s.nodes.length) (h : idx s (p : Int) = idx s (q : Int)) : p = q := by
  have h1 := (at_idx hr hp).2
  have h2 := (at_idx hr hq).2
  rw [h] at h1
  rw [h1] at h2
  omega
theorem CanRel.put (hr : Right s) (h : CanRel s w A2 c2 gs gn i l W) (hi : i < s.nodes.length) {B : Nat} {v1 v2 v3 : Value} (hM : kNode.M W B (fun _ => True) (relab s (nd s.nodes i)) [.int .i64 (nd s.nodes i).kind, v1, v2, v3]) (hB : gn < B) (hwB : w.heap.size ≤ B) :
    CanRel s w A2 c2 gs gn (i + 1) (l.set (idx s (i : Int)) (relab s (nd s.nodes i))) ((((W.setCell ⟨gn, idx s (i : Int) * 4, none⟩ (.int .i64 (nd s.nodes i).kind)).setCell ⟨gn, idx s (i : Int) * 4 + 1, none⟩ v1).setCell ⟨gn, idx s (i : Int) * 4 + 2, none⟩ v2).setCell ⟨gn, idx s (i : Int) * 4 + 3, none⟩ v3) := by
  have hp := (at_idx hr hi).1
  obtain ⟨c, hcl, _, hcc, _⟩ := R_elemN h.row nodez (idx s (i : Int)) hp
  have hM' : kNode.M W w.heap.size (fun k => True ∧ B ≤ k) (relab s (nd s.nodes i)) [.int .i64 (nd s.nodes i).kind, v1, v2, v3] := by
    obtain ⟨x1, x2, x3, e, h1, h2, h3⟩ := kNode_openM hM
    injection e with _ e
    injection e with e1 e
    injection e with e2 e
    injection e with e3 _
    subst e1 e2 e3
    exact kNode_mkM (Kd.R_lower (Kd.R_mono (Kd.R_bound h1) (fun k hk => ⟨trivial, hk.2.1⟩)) hwB) (Kd.R_lower (Kd.R_mono (Kd.R_bound h2) (fun k hk => ⟨trivial, hk.2.1⟩)) hwB) (Kd.R_lower (Kd.R_mono (Kd.R_bound h3) (fun k hk => ⟨trivial, hk.2.1⟩)) hwB)
  obtain ⟨hs, hg⟩ := R_segN h.row (idx s (i : Int)) hp (seg := [.int .i64 (nd s.nodes i).kind, v1, v2, v3]) (j := 0) hcl hcc (Nat.le_refl 4) (x' := relab s (nd s.nodes i)) (okp := fun k => True ∧ B ≤ k)
    (by
      have hc4 : c.length = 4 := hcl
      rw [List.take_zero, List.drop_eq_nil_of_le (by simp [hc4])]
      exact hM') (fun k hk => ⟨trivial, by have := hk.2; omega⟩)
  have e : W.setCells gn (idx s (i : Int) * kNode.sz + 0) [.int .i64 (nd s.nodes i).kind, v1, v2, v3] = (((W.setCell ⟨gn, idx s (i : Int) * 4, none⟩ (.int .i64 (nd s.nodes i).kind)).setCell ⟨gn, idx s (i : Int) * 4 + 1, none⟩ v1).setCell ⟨gn, idx s (i : Int) * 4 + 2, none⟩ v2).setCell ⟨gn, idx s (i : Int) * 4 + 3, none⟩ v3 := rfl
  rw [e] at hs hg
  obtain ⟨cells, hc⟩ := Kd.R_typed h.row gn rfl
  have hgw := Kd.R_base h.row gn rfl
  refine ⟨by simpa using h.len, fun p hpi hpn => ?_, blk_grown h.box hg (fun e => ?_), hs, Kd.R_grown1 h.num rfl hg (Kd.R_ne h.num hc (by decide)), ?_, ?_, h.below.grown hg h.below.size (fun q hq => by injection hq with hq; omega)⟩
  · rw [nd_set _ _ _ _ (by rw [h.len]; exact hp)]
    by_cases e : p = i
    · subst e; rw [if_pos rfl]
    · rw [if_neg (fun e2 => e (idx_inj hr hpn hi e2))]
      exact h.at_ p (by omega) hpn
  · injection e with e; subst e; rw [h.box] at hc; cases hc
  · refine blk_grown h.res hg (fun e => ?_)
    injection e with e; rw [← e, h.res] at hc; cases hc
  · exact Nat.lt_of_lt_of_le h.lt hg.size
theorem CanRel.done (hr : Right s) (h : CanRel s w A2 c2 gs gn s.nodes.length l W) : l = canonL s := by
  have hl : (canonL s).length = s.nodes.length := by unfold canonL; rw [List.length_map, ord_len hr]
  refine List.ext_getElem (by rw [h.len, hl]) (fun q h1 h2 => ?_)
  have hq : q < s.nodes.length := by rw [← h.len]; exact h1
  obtain ⟨p, hp, hpn⟩ := ord_at hr hq
  have h3 := h.at_ p hpn hpn
  have h4 := idx_at hr hq
  rw [hp] at h4
  rw [h4] at h3
  unfold nd at h3
  rw [getD_eq _ h1] at h3
  have h5 : (canonL s)[q] = relab s (nd s.nodes (rd (ord s) (q : Int)).toNat) := by
    have h6 : (canonL s)[q]? = some (relab s (nd s.nodes (rd (ord s) (q : Int)).toNat)) := by
      unfold canonL
      have h7 : q < (ord s).length := by rw [ord_len hr]; exact hq
      rw [List.getElem?_map, List.getElem?_eq_getElem h7, rd_eq h7]
      rfl
    exact Option.some.inj ((List.getElem?_eq_getElem h2).symm.trans h6)
  rw [h3, h5, hp, Int.toNat_natCast]
  rfl
end
end Go.Proofs.YtglfebpgdghlfaaDoor.L
end
section
namespace Go.Proofs.YtglfebpgdghlfaaDoor.L
open Go.RowKit Go.ChangeShapes Go.WideShapes Go.Proofs.YtglfebpgdghlfaaDoorW.PrintWords Go.Proofs.YtglfebpgdghlfaaDoorW.PrintLast Go.Proofs.YtglfebpgdghlfaaDoorW.PrintMore
attribute [local go_sem] max2_int min2_int max_two min_two max_three min_three max_four min_four
def mapTake (f : Int → Int) (l : List Int) (j : Nat) : List Int := (l.take j).map f ++ l.drop j
theorem mapTake_len (f : Int → Int) (l : List Int) (j : Nat) : (mapTake f l j).length = l.length := by unfold mapTake; rw [List.length_append, List.length_map, List.length_take, List.length_drop]; omega
theorem mapTake_zero (f : Int → Int) (l : List Int) : mapTake f l 0 = l := by unfold mapTake; simp
theorem mapTake_all (f : Int → Int) (l : List Int) : mapTake f l l.length = l.map f := by unfold mapTake; simp
theorem mapTake_rd (f : Int → Int) (l : List Int) (j : Nat) (h : j < l.length) : rd (mapTake f l j) (j : Int) = rd l (j : Int) := by
  rw [rd_eq (by rw [mapTake_len]; exact h), rd_eq h]
  unfold mapTake
  rw [List.getElem_append_right (by simp; omega)]
  simp [List.length_take, Nat.min_eq_left (Nat.le_of_lt h)]
theorem mapTake_set (f : Int → Int) (l : List Int) (j : Nat) (h : j < l.length) : (mapTake f l j).set j (f (rd l (j : Int))) = mapTake f l (j + 1) := by
  unfold mapTake
  rw [List.set_append_right _ _ (by simp; omega)]
  rw [List.length_map, List.length_take, Nat.min_eq_left (Nat.le_of_lt h), Nat.sub_self, drop_rd h]
  rw [take_succ_rd h, List.map_append]
  simp
structure KidRel (f : Int → Int) (n : Node) (v1 v2 v3 : Value) (j : Nat) (W0 W : World) : Prop where
  below : Below W0.heap.size W0 W
  box : W.heap[W0.heap.size]? = some (.cells #[.int .i64 n.kind, v1, v2, v3] 26 (0, 0))
  r1 : (Kd.int .i64).R 2 W W0.heap.size (fun _ => True) v1 n.ints
  r2 : Kd.string.R 9 W W0.heap.size (fun _ => True) v2 n.texts
  r3 : (Kd.int .i64).R 3 W W0.heap.size (fun _ => True) v3 (mapTake f n.kids j)
theorem KidRel.drew {f : Int → Int} {n : Node} {v1 v2 v3 : Value} {j : Nat} {W0 W : World} (h : KidRel f n v1 v2 v3 j W0 W) : KidRel f n v1 v2 v3 j W0 W.drew :=
  ⟨pw_below_drewN h.below 1, h.box, Kd.R_drew h.r1, Kd.R_drew h.r2, Kd.R_drew h.r3⟩
theorem KidRel.start {f : Int → Int} {n : Node} {W0 W1 : World} {u0 u1 u2 u3 : Value} {v1 v2 v3 : Value} (hb : W1.heap[W0.heap.size]? = some (.cells #[u0, u1, u2, u3] 26 (0, 0))) (hB : Below W0.heap.size W0 W1) {B : Nat} (hBB : W0.heap.size < B)
    (hM : kNode.M W1 B (fun _ => True) n [.int .i64 n.kind, v1, v2, v3]) :
    KidRel f n v1 v2 v3 0 W0 ((((W1.setCell ⟨W0.heap.size, 0, none⟩ (.int .i64 n.kind)).setCell ⟨W0.heap.size, 1, none⟩ v1).setCell ⟨W0.heap.size, 2, none⟩ v2).setCell ⟨W0.heap.size, 3, none⟩ v3) := by
  obtain ⟨x1, x2, x3, e, h1, h2, h3⟩ := kNode_openM hM
  injection e with _ e
  injection e with e1 e
  injection e with e2 e
  injection e with e3 _
  subst e1 e2 e3
  refine ⟨below_set4 hB (Nat.le_refl _), box4 hb _ _ _ _, Kd.R_lower (R_old4 h1 hBB _ _ _ _) (Nat.le_of_lt hBB), Kd.R_lower (R_old4 h2 hBB _ _ _ _) (Nat.le_of_lt hBB), ?_⟩
  rw [mapTake_zero]
  exact Kd.R_lower (R_old4 h3 hBB _ _ _ _) (Nat.le_of_lt hBB)
theorem KidRel.set {f : Int → Int} {n : Node} {v1 v2 : Value} {g c m : Nat} {j : Nat} {W0 W : World} (h : KidRel f n v1 v2 (.slice (some ⟨g, 0, none⟩) m c) j W0 W) (hj : j < n.kids.length) :
    W.cell? ⟨g, j, none⟩ = some (.int .i64 (rd n.kids (j : Int))) ∧ W.frozen? ⟨g, j, none⟩ = false ∧ KidRel f n v1 v2 (.slice (some ⟨g, 0, none⟩) m c) (j + 1) W0 (W.setCell ⟨g, j, none⟩ (.int .i64 (f (rd n.kids (j : Int))))) := by
  have hm := (Kd.R_reads' h.r3).1
  rw [mapTake_len] at hm
  obtain ⟨c1, c2⟩ := ints_cell h.r3 j (by omega)
  obtain ⟨s1, s2, s3⟩ := ints_store h.r3 j (by omega) (f (rd n.kids (j : Int)))
  rw [mapTake_rd f _ _ hj] at c1
  rw [mapTake_set f _ _ hj] at s1
  obtain ⟨cells, hc⟩ := Kd.R_typed h.r3 g rfl
  refine ⟨c1, c2, below_set h.below s3, blk_grown h.box s2 (fun e => ?_), Kd.R_grown1 h.r1 rfl s2 (Kd.R_ne h.r1 hc (by decide)), Kd.R_grown1 h.r2 rfl s2 (Kd.R_ne h.r2 hc (by decide)), s1⟩
  injection e with e
  rw [← e, h.box] at hc
  cases hc
set_option maxRecDepth 100000 in
set_option maxHeartbeats 4000000 in
theorem canon_any (A : Option Addr) (c : Nat) (s : Scene) (w : World) (h : kNode.C w A s.nodes.length s.nodes) (hM : rows s.nodes ≤ 400000) (hS : ∀ i : Nat, i < s.nodes.length → Small (nd s.nodes i)) :
    Calls Tryd.prog 46 #[.agg #[.slice A s.nodes.length c, .int .i64 s.root]] w (ScenePost (canonR s) (gcheck s).1 w) := by
  have HR := Aside0.mk h
  have HM := Aside0.mk hM
  have HSm := Aside0.mk hS
  have b0 := h.2.1
  have HB := Aside0.mk (below_alloc (below_alloc (Below.refl w.heap.size w) (.cells #[.slice A s.nodes.length c, .int .i64 s.root] 39)) (.cells #[.slice none 0 0, .int .i64 0] 39))
  have k0 := box_cell2 w _ rfl #[.slice A s.nodes.length c, .int .i64 s.root] 39 (.cells #[.slice none 0 0, .int .i64 0] 39) 0 _ rfl
  have k1 := box_cell2 w _ rfl #[.slice A s.nodes.length c, .int .i64 s.root] 39 (.cells #[.slice none 0 0, .int .i64 0] 39) 1 _ rfl
  have HL := Aside0.mk (show ((w.alloc (.cells #[.slice A s.nodes.length c, .int .i64 s.root] 39)).alloc (.cells #[.slice none 0 0, .int .i64 0] 39)).heap[w.heap.size + 1]? = some (.cells #[.slice none 0 0, .int .i64 0] 39 (0, 0)) from by
    have := heap_alloc_new (w.alloc (.cells #[.slice A s.nodes.length c, .int .i64 s.root] 39)) (.cells #[.slice none 0 0, .int .i64 0] 39)
    simpa using this)
  have hu := Tryd.underlying39
  clear h hM hS
  go_enter Tryd.func46, Tryd.ntmps46
  go_wp2_with fail
  refine (gcheck_any A c s _ (Kd.C_below HR.out HB.out) HM.out).mono ?_
  rintro e w1 ⟨rfl, hB1⟩
  have HB1 := Aside0.mk (below_step HB.out hB1)
  have HL1 := Aside0.mk ((hB1.block _ (blk_lt HL.out)).trans HL.out)
  replace k0 := pw_cell_below hB1 k0
  replace k1 := pw_cell_below hB1 k1
  clear hB1 HL
  by_cases hz : (gcheck s).1 = 0
  · have HRt := Aside0.mk (gcheck_right.1 hz)
    have HE : Aside0 (nums s = numsL s) := ⟨by unfold nums; rw [if_pos hz]⟩
    have hnM : s.nodes.length ≤ 400000 := Nat.le_trans (len_rows _) HM.out
    have hn0 : 0 < s.nodes.length := by have := HRt.out.r0; have := HRt.out.r1; omega
    have HCR : Aside0 (canonR s = ⟨canonL s, (s.nodes.length : Int) - 1⟩) := ⟨by unfold canonR; rw [if_pos hz]⟩
    have HZ := Aside0.mk hz
    rw [hz]
    clear hz
    go_wp2_with fail
    refine (numbers_canon A c s w1 (Kd.C_below HR.out HB1.out) HM.out).mono ?_
    rw [HE.out]
    rintro e w2 ⟨A2, c2, rfl, hR2, hB2⟩
    have HB2 := Aside0.mk (below_step HB1.out hB2)
    have HL2 := Aside0.mk ((hB2.block _ (blk_lt HL1.out)).trans HL1.out)
    have HLt := Aside0.mk (show w.heap.size + 2 ≤ w2.heap.size from by have := blk_lt HL2.out; omega)
    have HR2 := Aside0.mk (show (Kd.int .i64).R 3 w2 w.heap.size (fun _ => True) (.slice A2 s.nodes.length c2) (numsL s) from by have h := Kd.R_lower hR2 HB1.out.size; rwa [numsL_len] at h)
    replace k0 := pw_cell_below hB2 k0
    replace k1 := pw_cell_below hB2 k1
    clear hB2 HL1 hR2
    rw [numsL_len]
    go_wp2
    obtain ⟨w3, hmk, hR3, hB3, hB3', hlt3⟩ := make_run kNode (w0 := w) (W := w2.drew) w.heap.size 26 30 s.nodes.length Tryd.underlying30 (.agg #[.int .i64 0, .slice none 0 0, .slice none 0 0, .slice none 0 0]) 80 info_nodez rfl (by decide) (by omega) nodez (kNode_mkM (Kd.R_nil _ _ _ _ _) (Kd.R_nil _ _ _ _ _) (Kd.R_nil _ _ _ _ _)) (by omega) HB2.out.drew HB2.out.size
    replace hmk : (Instr.makeSlice 30 (.int .i64 (s.nodes.length : Int)) (.int .i64 (s.nodes.length : Int))).run Tryd.prog w2.drew = .ok (.slice (some ⟨w2.heap.size, 0, none⟩) s.nodes.length s.nodes.length) w3 := hmk
    have k0' := pw_cell_below hB3' (show w2.drew.cell? _ = _ from k0)
    have k0'' := pw_cell_below (below_alloc (Below.refl _ _) (.cells #[.slice none 0 0, .int .i64 0] 39)) k0'
    have hw1 : IntKind.i64.wrap ((s.nodes.length : Int) - 1) = (s.nodes.length : Int) - 1 := wrap_i (by omega) (by omega)
    have hL3 : (w3.alloc (.cells #[.slice none 0 0, .int .i64 0] 39)).heap[w3.heap.size]? = some (.cells #[.slice none 0 0, .int .i64 0] 39 (0, 0)) := by simpa using heap_alloc_new w3 _
    have l0 := (blk_cell hL3 0).trans rfl
    have l0f := blk_frozen hL3 0
    have l1 := (blk_cell (blk_set hL3 0 (.slice (some ⟨w2.heap.size, 0, none⟩) s.nodes.length s.nodes.length)) 1).trans rfl
    have l1f := blk_frozen (blk_set hL3 0 (.slice (some ⟨w2.heap.size, 0, none⟩) s.nodes.length s.nodes.length)) 1
    have hB2a := below_alloc (Below.refl w2.heap.size w2) (.cells #[.slice none 0 0, .int .i64 0] 39)
    have m0 := pw_cell_below hB2a k0
    obtain ⟨u3, hmu, hS3, hC3, hC3', hlu3⟩ := make_run kNode (w0 := w) (W := (w2.alloc (.cells #[.slice none 0 0, .int .i64 0] 39)).drew) w.heap.size 26 30 s.nodes.length Tryd.underlying30 (.agg #[.int .i64 0, .slice none 0 0, .slice none 0 0, .slice none 0 0]) 80 info_nodez rfl (by decide) (by omega) nodez (kNode_mkM (Kd.R_nil _ _ _ _ _) (Kd.R_nil _ _ _ _ _) (Kd.R_nil _ _ _ _ _)) (by omega) (below_step HB2.out hB2a).drew (below_step HB2.out hB2a).size
    have e2 : (w2.alloc (.cells #[.slice none 0 0, .int .i64 0] 39)).drew.heap.size = w2.heap.size + 1 := by show (w2.alloc _).heap.size = _; simp
    rw [e2] at hmu hS3
    have m0' := pw_cell_below hC3' (show (w2.alloc (.cells #[.slice none 0 0, .int .i64 0] 39)).drew.cell? _ = _ from m0)
    have hL4 : (w2.alloc (.cells #[.slice none 0 0, .int .i64 0] 39)).drew.heap[w2.heap.size]? = some (.cells #[.slice none 0 0, .int .i64 0] 39 (0, 0)) := by
      show (w2.alloc _).heap[w2.heap.size]? = _
      simpa using heap_alloc_new w2 _
    have hM3 := (hC3'.block _ (blk_lt hL4)).trans hL4
    have n0 := (blk_cell hM3 0).trans rfl
    have n0f := blk_frozen hM3 0
    have n1 := (blk_cell (blk_set hM3 0 (.slice (some ⟨w2.heap.size + 1, 0, none⟩) s.nodes.length s.nodes.length)) 1).trans rfl
    have n1f := blk_frozen (blk_set hM3 0 (.slice (some ⟨w2.heap.size + 1, 0, none⟩) s.nodes.length s.nodes.length)) 1
    have hlw : w.heap.size + 2 ≤ w2.heap.size := by have := HLt.out; exact this
    have e1 : w2.drew.heap.size = w2.heap.size := rfl
    have hBA := below_alloc (Below.refl w3.heap.size w3) (.cells #[.slice (some ⟨w2.heap.size, 0, none⟩) s.nodes.length s.nodes.length, .int .i64 ((s.nodes.length : Int) - 1)] 39)
    have HA := Aside0.mk (show CanRel s w A2 c2 w3.heap.size w2.heap.size 0 (List.replicate s.nodes.length nodez) (w3.alloc (.cells #[.slice (some ⟨w2.heap.size, 0, none⟩) s.nodes.length s.nodes.length, .int .i64 ((s.nodes.length : Int) - 1)] 39)) from
      ⟨by simp, fun p h => by omega, by simpa using heap_alloc_new w3 _, Kd.R_below hR3 hBA, Kd.R_below (Kd.R_below (Kd.R_drew HR2.out) hB3') hBA, (hBA.block _ (by omega)).trans ((hB3'.block _ (by show _ < w2.heap.size; omega)).trans HL2.out), Nat.lt_of_lt_of_le (show w.heap.size + 1 < w3.heap.size by omega) hBA.size, below_step hB3 hBA⟩)
    have HC := Aside0.mk (CanRel.start (A2 := A2) (c2 := c2) hM3 (by omega) (by omega) hS3 (Kd.R_below (Kd.R_drew (Kd.R_below HR2.out hB2a)) hC3') ((hC3'.block _ (by rw [e2]; omega)).trans ((hB2a.block _ (by omega)).trans HL2.out)) hC3)
    have HKA := Aside0.mk (pw_cell_below hBA k0')
    have HKC := Aside0.mk (far_set (far_set m0' w2.heap.size 0 (by show w2.heap.size ≠ w.heap.size; omega) (.slice (some ⟨w2.heap.size + 1, 0, none⟩) s.nodes.length s.nodes.length)) w2.heap.size 1 (by show w2.heap.size ≠ w.heap.size; omega) (.int .i64 ((s.nodes.length : Int) - 1)))
    clear hBA hL3 hM3 hR3 hB3 hB3' hS3 hC3 hC3' hB2a e1 e2 hL4 hlt3 hlu3
    go_region
    have H5 := HA
    have hk5 := HKA.out
    clear HA HC HKA HKC HL2 HLt HB2 HR2 m0 m0' n0 n0f n1 n1f l0 l0f l1 l1f k0 k0' k0'' k1 hmk hmu hlw
    generalize (w3.alloc (.cells #[.slice (some ⟨w2.heap.size, 0, none⟩) s.nodes.length s.nodes.length, .int .i64 ((s.nodes.length : Int) - 1)] 39)) = W5 at H5 hk5 ⊢
    generalize w3.heap.size = gs at H5 ⊢
    generalize w2.heap.size = gn at H5 ⊢
    rotate_left
    have H5 := HC
    have hk5 := HKC.out
    clear HA HC HKA HKC HL2 HLt HB2 HR2 m0 m0' n0 n0f n1 n1f l0 l0f l1 l1f k0 k0' k0'' k1 hmk hmu hlw
    generalize ((u3.setCell ⟨w2.heap.size, 0, none⟩ (.slice (some ⟨w2.heap.size + 1, 0, none⟩) s.nodes.length s.nodes.length)).setCell ⟨w2.heap.size, 1, none⟩ (.int .i64 ((s.nodes.length : Int) - 1))) = W5 at H5 hk5 ⊢
    generalize w2.heap.size + 1 = gn at H5 ⊢
    generalize w2.heap.size = gs at H5 ⊢
    all_goals
      go_wp2
      go_loopw [35] (fun v35 W => ∃ i : Nat, i ≤ s.nodes.length ∧ v35 = .int .i64 i ∧ ∃ l, Aside0 (CanRel s w A2 c2 gs gn i l W)) (fun v35 _ => s.nodes.length - (intOf v35).toNat)
      case atStart => exact ⟨0, by omega, rfl, _, H5⟩
      case round =>
        clear H5 hk5
        obtain ⟨i, hi, rfl, l, HI⟩ := hrel
        by_cases hlt : i < s.nodes.length
        · obtain ⟨adn, A1, c1, A4, c4, A3, c3, rfl, x0, x1, x2, x3, hN⟩ := at_node HR.out i hlt
          replace x0 := pw_cell_below HI.out.below x0
          replace x1 := pw_cell_below HI.out.below x1
          replace x2 := pw_cell_below HI.out.below x2
          replace x3 := pw_cell_below HI.out.below x3
          have HN := Aside0.mk hN
          have hba := below_alloc (Below.refl wr.heap.size wr) (.cells #[.int .i64 (nd s.nodes i).kind, .slice A1 (nd s.nodes i).ints.length c1, .slice A4 (nd s.nodes i).texts.length c4, .slice A3 (nd s.nodes i).kids.length c3] 26)
          have hbx : (wr.alloc (.cells #[.int .i64 (nd s.nodes i).kind, .slice A1 (nd s.nodes i).ints.length c1, .slice A4 (nd s.nodes i).texts.length c4, .slice A3 (nd s.nodes i).kids.length c3] 26)).heap[wr.heap.size]? = some (.cells #[.int .i64 (nd s.nodes i).kind, .slice A1 (nd s.nodes i).ints.length c1, .slice A4 (nd s.nodes i).texts.length c4, .slice A3 (nd s.nodes i).kids.length c3] 26 (0, 0)) := by simpa using heap_alloc_new wr _
          have HBX := Aside0.mk hbx
          have HBA := Aside0.mk hba
          have y0 := (blk_cell hbx 0).trans rfl
          have y1 := (blk_cell hbx 1).trans rfl
          have y2 := (blk_cell hbx 2).trans rfl
          have y3 := (blk_cell hbx 3).trans rfl
          clear hN hba hbx
          go_wp2_with fail
          refine (copy_any (nd s.nodes i) A1 c1 A4 c4 A3 c3 _ (HN.out.below (below_step HI.out.below HBA.out)) (HSm.out i hlt)).mono ?_
          rintro e w6 ⟨v, rfl, ⟨v1, v2, v3, rfl, hM6⟩, hB6⟩
          have hb6 := (hB6.block _ (by simp)).trans HBX.out
          have s6 : (wr.alloc (.cells #[.int .i64 (nd s.nodes i).kind, .slice A1 (nd s.nodes i).ints.length c1, .slice A4 (nd s.nodes i).texts.length c4, .slice A3 (nd s.nodes i).kids.length c3] 26)).heap.size = wr.heap.size + 1 := by simp
          rw [s6] at hM6
          have HJ0 := Aside0.mk (KidRel.start (f := fun k => (idx s k : Int)) hb6 (below_step HBA.out hB6) (Nat.lt_succ_self _) hM6)
          obtain ⟨A5, c5, hv1⟩ := Kd.R_slice HJ0.out.r1
          subst hv1
          obtain ⟨A6, c6, hv2⟩ := Kd.R_slice HJ0.out.r2
          subst hv2
          obtain ⟨A7, c7, hv3⟩ := Kd.R_slice HJ0.out.r3
          rw [mapTake_len] at hv3
          subst hv3
          have z0 := (blk_cell hb6 0).trans rfl
          have z0f := blk_frozen hb6 0
          have z1 := (blk_cell (blk_set hb6 0 (.int .i64 (nd s.nodes i).kind)) 1).trans rfl
          have z1f := blk_frozen (blk_set hb6 0 (.int .i64 (nd s.nodes i).kind)) 1
          have z2 := (blk_cell (blk_set (blk_set hb6 0 (.int .i64 (nd s.nodes i).kind)) 1 (.slice A5 (nd s.nodes i).ints.length c5)) 2).trans rfl
          have z2f := blk_frozen (blk_set (blk_set hb6 0 (.int .i64 (nd s.nodes i).kind)) 1 (.slice A5 (nd s.nodes i).ints.length c5)) 2
          have z3 := (blk_cell (blk_set (blk_set (blk_set hb6 0 (.int .i64 (nd s.nodes i).kind)) 1 (.slice A5 (nd s.nodes i).ints.length c5)) 2 (.slice A6 (nd s.nodes i).texts.length c6)) 3).trans rfl
          have z3f := blk_frozen (blk_set (blk_set (blk_set hb6 0 (.int .i64 (nd s.nodes i).kind)) 1 (.slice A5 (nd s.nodes i).ints.length c5)) 2 (.slice A6 (nd s.nodes i).texts.length c6)) 3
          have hq3 := (blk_cell HJ0.out.box 3).trans rfl
          clear hb6 hB6 hM6 s6 y0 y1 y2 y3 x0 x1 x2 x3
          have hkl : (nd s.nodes i).kids.length ≤ 1000000 := (HSm.out i hlt).2.2
          go_wp2
          clear z0 z0f z1 z1f z2 z2f z3 z3f hq3
          generalize ((((w6.setCell ⟨wr.heap.size, 0, none⟩ (.int .i64 (nd s.nodes i).kind)).setCell ⟨wr.heap.size, 1, none⟩ (.slice A5 (nd s.nodes i).ints.length c5)).setCell ⟨wr.heap.size, 2, none⟩ (.slice A6 (nd s.nodes i).texts.length c6)).setCell ⟨wr.heap.size, 3, none⟩ (.slice A7 (nd s.nodes i).kids.length c7)) = W7 at HJ0 ⊢
          obtain ⟨W0, hW0⟩ : ∃ W, W = wr := ⟨_, rfl⟩
          have HW0 := Aside0.mk hW0
          rw [← hW0] at HI HJ0
          have e0 : wr.heap.size = W0.heap.size := by rw [hW0]
          rw [e0]
          clear hW0 e0 HBX HBA
          go_loopw [45] (fun v45 W => ∃ j : Nat, j ≤ (nd s.nodes i).kids.length ∧ v45 = .int .i64 j ∧ Aside0 (KidRel (fun k => (idx s k : Int)) (nd s.nodes i) (.slice A5 (nd s.nodes i).ints.length c5) (.slice A6 (nd s.nodes i).texts.length c6) (.slice A7 (nd s.nodes i).kids.length c7) j W0 W)) (fun v45 _ => (nd s.nodes i).kids.length - (intOf v45).toNat)
          case atStart => exact ⟨0, by omega, rfl, HJ0⟩
          case round =>
            clear HJ0
            obtain ⟨j, hj, rfl, HJ⟩ := hrel
            by_cases hjl : j < (nd s.nodes i).kids.length
            · obtain ⟨g7, c7', hv, -⟩ := Kd.R_form HJ.out.r3 (by rw [mapTake_len]; omega)
              injection hv with hA _ hc
              subst hA hc
              have HQ := Aside0.mk (HRt.out.pl i hlt _ (rd_mem hjl))
              obtain ⟨k, hk⟩ : ∃ k : Nat, rd (nd s.nodes i).kids (j : Int) = (k : Int) := ⟨(rd (nd s.nodes i).kids (j : Int)).toNat, by have := HQ.out.1; omega⟩
              have hkn : k < s.nodes.length := by have := HQ.out.2; omega
              obtain ⟨s1, s2, hs3⟩ := HJ.out.set hjl
              obtain ⟨ad2, rfl, n1⟩ := at_nat (Kd.R_reads' (Kd.R_below HI.out.num HJ.out.below)).2.2 k (by rw [numsL_len]; exact hkn)
              rw [numsL_rd s k hkn] at n1
              rw [hk] at s1 hs3
              have HS3 := Aside0.mk hs3
              have hq3 := (blk_cell HJ.out.box 3).trans rfl
              clear hk hs3
              go_wp2
              go_region
              have HS4 := Aside0.mk HS3.out.drew
              clear HS3 s1 s2 n1 hq3
              go_wp2
              go_roundw
              case rel => exact ⟨j + 1, by omega, by go_num, HS4⟩
              case measure => simp [intOf]; omega
            · obtain rfl : j = (nd s.nodes i).kids.length := by omega
              have HI7 := Aside0.mk (HI.out.later HJ.out.below)
              have hp := (at_idx HRt.out hlt).1
              obtain ⟨⟨⟨x0, y0⟩, ⟨x1, y1⟩, ⟨x2, y2⟩, ⟨x3, y3⟩⟩, f0, f1, f2, f3⟩ := HI7.out.slot _ hp
              obtain ⟨ad2, rfl, n1⟩ := at_nat (Kd.R_reads' HI7.out.num).2.2 i (by rw [numsL_len]; exact hlt)
              rw [numsL_rd s i hlt] at n1
              have q0 := (blk_cell HJ.out.box 0).trans rfl
              have q1 := (blk_cell HJ.out.box 1).trans rfl
              have q2 := (blk_cell HJ.out.box 2).trans rfl
              have q3 := (blk_cell HJ.out.box 3).trans rfl
              have g0 := (blk_cell HI7.out.box 0).trans rfl
              have HN := Aside0.mk (HI7.out.put HRt.out hlt (B := W0.heap.size) (v1 := .slice A5 (nd s.nodes i).ints.length c5) (v2 := .slice A6 (nd s.nodes i).texts.length c6) (v3 := .slice A7 (nd s.nodes i).kids.length c7)
                (kNode_mkM HJ.out.r1 HJ.out.r2 (by have h := HJ.out.r3; rw [mapTake_all] at h; exact h)) (Kd.R_lt HI.out.row gn rfl) HI.out.below.size)
              generalize idx s (i : Int) = p at *
              go_wp2
              go_region
              have HN2 := Aside0.mk HN.out.drew
              clear HN
              go_wp2
              go_roundw
              case rel => exact ⟨i + 1, by omega, by go_num, _, HN2⟩
              case measure => simp [intOf]; omega
        · obtain rfl : i = s.nodes.length := by omega
          have HN := Aside0.mk (HI.out.done HRt.out)
          have b0' := (blk_cell HI.out.box 0).trans rfl
          have b1' := (blk_cell HI.out.box 1).trans rfl
          have l0 := (blk_cell HI.out.res 0).trans rfl
          have l0f := blk_frozen HI.out.res 0
          have l1 := (blk_cell (blk_set HI.out.res 0 (.slice (some ⟨gn, 0, none⟩) s.nodes.length s.nodes.length)) 1).trans rfl
          have l1f := blk_frozen (blk_set HI.out.res 0 (.slice (some ⟨gn, 0, none⟩) s.nodes.length s.nodes.length)) 1
          go_wp2
          have h2 := And.intro ((blk_cell (box2 HI.out.res (.slice (some ⟨gn, 0, none⟩) s.nodes.length s.nodes.length) (.int .i64 ((s.nodes.length : Int) - 1))) 0).trans rfl) ((blk_cell (box2 HI.out.res (.slice (some ⟨gn, 0, none⟩) s.nodes.length s.nodes.length) (.int .i64 ((s.nodes.length : Int) - 1))) 1).trans rfl)
          exact bodyPost_ret (v := .tuple #[.agg #[.slice (some ⟨gn, 0, none⟩) s.nodes.length s.nodes.length, .int .i64 ((s.nodes.length : Int) - 1)], .int .i64 0]) (by simp [results, Tryd.results46, go_sem, h2]) rfl
            ⟨some ⟨gn, 0, none⟩, s.nodes.length, by rw [HCR.out, HZ.out, ← HN.out, HI.out.len], by
              rw [HCR.out]
              have h := R_type (R_type HI.out.row HI.out.res (by decide) (.slice (some ⟨gn, 0, none⟩) s.nodes.length s.nodes.length) 0) (blk_set HI.out.res 0 _) (by decide) (.int .i64 ((s.nodes.length : Int) - 1)) 1
              rw [← HN.out]
              have e : l.length = s.nodes.length := HI.out.len
              rw [e]
              exact h, below_set2 HI.out.below (by omega)⟩
  · have HCR : Aside0 (canonR s = ⟨[], 0⟩) := ⟨by unfold canonR; rw [if_neg hz]⟩
    have dz : ((gcheck s).1 != 0) = true := by simpa using hz
    have l0 := (blk_cell HL1.out 0).trans rfl
    have l0f := blk_frozen HL1.out 0
    have l1 := (blk_cell (blk_set HL1.out 0 (.slice none 0 0)) 1).trans rfl
    have l1f := blk_frozen (blk_set HL1.out 0 (.slice none 0 0)) 1
    clear hz
    go_wp2
    have h2 := And.intro ((blk_cell (box2 HL1.out (.slice none 0 0) (.int .i64 0)) 0).trans rfl) ((blk_cell (box2 HL1.out (.slice none 0 0) (.int .i64 0)) 1).trans rfl)
    exact bodyPost_ret (v := .tuple #[.agg #[.slice none 0 0, .int .i64 0], .int .i64 (gcheck s).1]) (by simp [results, Tryd.results46, go_sem, h2]) rfl
      ⟨none, 0, by rw [HCR.out]; rfl, by rw [HCR.out]; exact Kd.R_nil _ _ _ _ _, below_set (below_set HB1.out (by show w.heap.size ≤ w.heap.size + 1; omega)) (by show w.heap.size ≤ w.heap.size + 1; omega)⟩
end Go.Proofs.YtglfebpgdghlfaaDoor.L
end
section
namespace Go.Proofs.YtglfebpgdghlfaaDoor.L
open Go.RowKit Go.ChangeShapes Go.WideShapes Go.Proofs.YtglfebpgdghlfaaDoorW.PrintWords Go.Proofs.YtglfebpgdghlfaaDoorW.PrintLast Go.Proofs.YtglfebpgdghlfaaDoorW.PrintMore
attribute [local go_sem] max2_int min2_int max_two min_two max_three min_three max_four min_four
def upK (n : Node) (b : Int) (q : List Int) : List Node :=
  if n.kind = 1 then [⟨1, [], [ByteArray.empty], q⟩]
  else if n.kind = 2 then [⟨2, n.ints.take 3, [], [b]⟩, ⟨8, [rd n.ints 3, rd n.ints 3, rd n.ints 3], [], q⟩]
  else if n.kind = 3 then [⟨3, [rd n.ints 0, rd n.ints 0, rd n.ints 0], n.texts, q⟩]
  else if n.kind = 4 then [⟨4, n.ints, n.texts, q⟩]
  else if n.kind = 5 then [⟨5, [65536], [str n.texts 0, ⟨#[115, 97, 110, 115]⟩], q⟩]
  else [⟨7, [rd n.ints 0, rd n.ints 0, rd n.ints 0, 1], [], q⟩]
theorem upN_eq (n : Node) : upN n = upK n 0 n.kids := rfl
def upLen (n : Node) : Nat := if n.kind = 2 then 2 else 1
theorem upLen_pos (n : Node) : 1 ≤ upLen n := by unfold upLen; split <;> omega
theorem upLen_le (n : Node) : upLen n ≤ 2 := by unfold upLen; split <;> omega
theorem upK_len (n : Node) (b : Int) (q : List Int) : (upK n b q).length = upLen n := by
  unfold upK upLen
  by_cases h1 : n.kind = 1
  · rw [if_pos h1, if_neg (by omega)]; rfl
  · rw [if_neg h1]
    by_cases h2 : n.kind = 2
    · rw [if_pos h2, if_pos h2]; rfl
    · rw [if_neg h2, if_neg h2]
      split
      · rfl
      · split
        · rfl
        · split <;> rfl
def withKids (n : Node) (q : List Int) : Node := ⟨n.kind, n.ints, n.texts, q⟩
theorem upK_last (n : Node) (b : Int) (q q' : List Int) : (upK n b q).set (upLen n - 1) (withKids (nd (upK n b q) (upLen n - 1)) q') = upK n b q' ∧ (nd (upK n b q) (upLen n - 1)).kids = q := by
  unfold upK upLen
  by_cases h1 : n.kind = 1
  · rw [if_pos h1, if_neg (by omega), if_pos h1]; exact ⟨rfl, rfl⟩
  · rw [if_neg h1, if_neg h1]
    by_cases h2 : n.kind = 2
    · rw [if_pos h2, if_pos h2, if_pos h2]; exact ⟨rfl, rfl⟩
    · rw [if_neg h2, if_neg h2, if_neg h2]
      split
      · exact ⟨rfl, rfl⟩
      · split
        · exact ⟨rfl, rfl⟩
        · split <;> exact ⟨rfl, rfl⟩
theorem upK_first {n : Node} (h : n.kind = 2) (b b' : Int) (q : List Int) : (upK n b q).set 0 (withKids (nd (upK n b q) 0) [b']) = upK n b' q ∧ (nd (upK n b q) 0).kids = [b] := by
  unfold upK
  rw [if_neg (by omega), if_pos h, if_neg (by omega), if_pos h]
  exact ⟨rfl, rfl⟩
theorem upK_one {n : Node} (h : ¬ n.kind = 2) (b b' : Int) (q : List Int) : upK n b q = upK n b' q := by
  unfold upK
  rw [if_neg h, if_neg h]
def pos (ns : List Node) (i : Nat) : Nat := ((List.range i).map (fun p => upLen (nd ns p))).sum
theorem pos_succ (ns : List Node) (i : Nat) : pos ns (i + 1) = pos ns i + upLen (nd ns i) := by unfold pos; rw [List.range_succ, List.map_append, List.sum_append]; simp
theorem pos_mono (ns : List Node) {i j : Nat} (h : i ≤ j) : pos ns i ≤ pos ns j := by
  have : ∀ d, pos ns i ≤ pos ns (i + d) := fun d => by
    induction d with
    | zero => exact Nat.le_refl _
    | succ d ih => rw [← Nat.add_assoc, pos_succ]; omega
  have := this (j - i)
  rwa [show i + (j - i) = j by omega] at this
theorem pos_le (ns : List Node) (i : Nat) : pos ns i ≤ 2 * i := by
  induction i with
  | zero => exact Nat.le_refl _
  | succ i ih => rw [pos_succ]; have := upLen_le (nd ns i); omega
theorem pos_lt (ns : List Node) {p n : Nat} (h : p < n) : pos ns (p + 1) - 1 < pos ns n := by
  have h1 := pos_mono ns (show p + 1 ≤ n from h)
  have h2 := pos_succ ns p
  have h3 := upLen_pos (nd ns p)
  omega
def mapK (ns : List Node) (q : List Int) : List Int := q.map (fun k => (pos ns k.toNat : Int))
def mix (ns : List Node) (i j : Nat) : List Node := (List.range i).flatMap (fun p => upK (nd ns p) ((pos ns p : Int) + 1) (if p < j then mapK ns (nd ns p).kids else (nd ns p).kids))
theorem mix_succ (ns : List Node) (i j : Nat) : mix ns (i + 1) j = mix ns i j ++ upK (nd ns i) ((pos ns i : Int) + 1) (if i < j then mapK ns (nd ns i).kids else (nd ns i).kids) := by
  unfold mix
  rw [List.range_succ, List.flatMap_append]
  simp
theorem mix_len (ns : List Node) (i j : Nat) : (mix ns i j).length = pos ns i := by
  induction i with
  | zero => rfl
  | succ i ih => rw [mix_succ, List.length_append, ih, upK_len, pos_succ]
theorem mix_same (ns : List Node) {i j k : Nat} (hj : i ≤ j) (hk : i ≤ k) : mix ns i j = mix ns i k := by
  induction i with
  | zero => rfl
  | succ i ih => rw [mix_succ, mix_succ, ih (by omega) (by omega), if_pos (by omega), if_pos (by omega)]
theorem nd_append_left {a b : List Node} {i : Nat} (h : i < a.length) : nd (a ++ b) i = nd a i := by
  unfold nd
  rw [List.getD_eq_getElem?_getD, List.getD_eq_getElem?_getD, List.getElem?_append_left h]
theorem nd_append_right {a b : List Node} {i : Nat} : nd (a ++ b) (a.length + i) = nd b i := by
  unfold nd
  rw [List.getD_eq_getElem?_getD, List.getD_eq_getElem?_getD, List.getElem?_append_right (by omega)]
  simp
theorem mix_set (ns : List Node) (n p : Nat) (hp : p < n) : (nd (mix ns n p) (pos ns (p + 1) - 1)).kids = (nd ns p).kids ∧
    (mix ns n p).set (pos ns (p + 1) - 1) (withKids (nd (mix ns n p) (pos ns (p + 1) - 1)) (mapK ns (nd ns p).kids)) = mix ns n (p + 1) := by
  induction n with
  | zero => omega
  | succ n ih =>
    rw [mix_succ, mix_succ]
    by_cases e : p = n
    · subst e
      have h1 := pos_succ ns p
      have h2 := upLen_pos (nd ns p)
      have h3 := mix_len ns p p
      have e1 : pos ns (p + 1) - 1 = (mix ns p p).length + (upLen (nd ns p) - 1) := by omega
      rw [e1, nd_append_right, List.set_append_right _ _ (by omega), Nat.add_sub_cancel_left, if_neg (by omega), if_pos (by omega)]
      obtain ⟨h4, h5⟩ := upK_last (nd ns p) ((pos ns p : Int) + 1) (nd ns p).kids (mapK ns (nd ns p).kids)
      rw [h4]
      exact ⟨h5, by rw [mix_same ns (Nat.le_refl p) (Nat.le_succ p)]⟩
    · have hlt : pos ns (p + 1) - 1 < (mix ns n p).length := by rw [mix_len]; exact pos_lt ns (by omega)
      obtain ⟨h4, h5⟩ := ih (by omega)
      rw [nd_append_left hlt, List.set_append_left _ _ hlt, h5, if_neg (by omega), if_neg (by omega)]
      exact ⟨h4, rfl⟩
def upS (s : Scene) : Scene := ⟨mix s.nodes s.nodes.length s.nodes.length, (pos s.nodes s.root.toNat : Int)⟩
def fillTo (f : Nat → Int) (i n : Nat) : List Int := (List.range n).map (fun p : Nat => if p < i then f p else 0)
theorem fillTo_len (f : Nat → Int) (i n : Nat) : (fillTo f i n).length = n := by simp [fillTo]
theorem fillTo_zero (f : Nat → Int) (n : Nat) : fillTo f 0 n = List.replicate n 0 := by
  refine List.ext_getElem (by simp [fillTo]) (fun p h1 h2 => ?_)
  simp [fillTo]
theorem fillTo_rd (f : Nat → Int) (i n p : Nat) (hp : p < i) (hn : p < n) : rd (fillTo f i n) (p : Int) = f p := by
  rw [rd_eq (by rw [fillTo_len]; exact hn)]
  simp [fillTo, hp]
theorem fillTo_set (f : Nat → Int) (i n : Nat) : (fillTo f i n).set i (f i) = fillTo f (i + 1) n := by
  refine List.ext_getElem (by simp [fillTo]) (fun p h1 h2 => ?_)
  rw [List.getElem_set]
  simp only [fillTo, List.getElem_map, List.getElem_range]
  by_cases e : i = p
  · subst e; rw [if_pos rfl, if_pos (by omega)]
  · rw [if_neg e]
    by_cases h : p < i
    · rw [if_pos h, if_pos (by omega)]
    · rw [if_neg h, if_neg (by omega)]
def posI (ns : List Node) (p : Nat) : Int := (pos ns p : Int)
def lastI (ns : List Node) (p : Nat) : Int := ((pos ns (p + 1) - 1 : Nat) : Int)
def rowsL (ns : List Node) : Nat := (ns.map (fun n => n.kids.length + 1)).sum
theorem rows_eq (ns : List Node) : rows ns = rowsL ns := by
  unfold rows rowsL
  congr 1
  refine List.ext_getElem (by simp) (fun i h1 h2 => ?_)
  rw [List.length_map] at h2
  simp only [List.getElem_map, List.getElem_range]
  unfold wt nd
  rw [getD_eq _ h2]
theorem rowsL_append (a b : List Node) : rowsL (a ++ b) = rowsL a + rowsL b := by unfold rowsL; rw [List.map_append, List.sum_append]
theorem upK_rows (n : Node) (b : Int) (q : List Int) : rowsL (upK n b q) ≤ q.length + 3 := by
  unfold upK rowsL
  by_cases h1 : n.kind = 1
  · rw [if_pos h1]; simp
  · rw [if_neg h1]
    by_cases h2 : n.kind = 2
    · rw [if_pos h2]; simp; omega
    · rw [if_neg h2]
      split
      · simp
      · split
        · simp
        · split <;> simp
theorem mix_rows (ns : List Node) (j : Nat) : ∀ i, i ≤ ns.length → rowsL (mix ns i j) ≤ 3 * pre ns i
  | 0, _ => Nat.zero_le _
  | i + 1, h => by
    have h1 := mix_rows ns j i (by omega)
    have h2 := upK_rows (nd ns i) ((pos ns i : Int) + 1) (if i < j then mapK ns (nd ns i).kids else (nd ns i).kids)
    have h3 : (if i < j then mapK ns (nd ns i).kids else (nd ns i).kids).length = (nd ns i).kids.length := by
      split
      · simp [mapK]
      · rfl
    have h4 := pre_succ ns i
    rw [wt] at h4
    rw [mix_succ, rowsL_append]
    omega
theorem upS_rows (s : Scene) : rows (upS s).nodes ≤ 3 * rows s.nodes := by
  rw [rows_eq]
  exact Nat.le_trans (mix_rows _ _ _ (Nat.le_refl _)) (Nat.mul_le_mul_left 3 (pre_le (Nat.le_refl _)))
theorem upK_small {n : Node} {b : Int} {q : List Int} (hn : Small n) (hq : q.length ≤ 1000000) : ∀ x ∈ upK n b q, Small x := by
  have h1 := hn.1
  have h2 := hn.2.1
  intro x hx
  unfold upK at hx
  by_cases h1 : n.kind = 1
  · rw [if_pos h1] at hx; simp at hx; subst hx; exact ⟨by simp, by simp, hq⟩
  · rw [if_neg h1] at hx
    by_cases h2 : n.kind = 2
    · rw [if_pos h2] at hx
      simp at hx
      rcases hx with rfl | rfl
      · exact ⟨by simp; omega, by simp, by simp⟩
      · exact ⟨by simp, by simp, hq⟩
    · rw [if_neg h2] at hx
      split at hx
      · simp at hx; subst hx; exact ⟨by simp, hn.2.1, hq⟩
      · split at hx
        · simp at hx; subst hx; exact ⟨hn.1, hn.2.1, hq⟩
        · split at hx
          · simp at hx; subst hx; exact ⟨by simp, by simp, hq⟩
          · simp at hx; subst hx; exact ⟨by simp, by simp, hq⟩
theorem upS_small {s : Scene} (h : ∀ i : Nat, i < s.nodes.length → Small (nd s.nodes i)) : ∀ i : Nat, i < (upS s).nodes.length → Small (nd (upS s).nodes i) := by
  intro i hi
  have hm : nd (upS s).nodes i ∈ (upS s).nodes := by unfold nd; rw [getD_eq _ hi]; exact List.getElem_mem hi
  unfold upS mix at hm
  obtain ⟨p, hp, hx⟩ := List.mem_flatMap.1 hm
  have hp' := List.mem_range.1 hp
  refine upK_small (h p hp') ?_ _ hx
  have h2 : (mapK s.nodes (nd s.nodes p).kids).length ≤ 1000000 := by unfold mapK; rw [List.length_map]; exact (h p hp').2.2
  split
  all_goals first | exact h2 | exact (h p hp').2.2
noncomputable def upErr (s : Scene) : Int := if (typedS oldTab s.nodes).1 = 0 then (if (gcheck s).1 = 0 then (gcheck (upS s)).1 else (gcheck s).1) else (typedS oldTab s.nodes).1
noncomputable def upRes (s : Scene) : Scene := if (typedS oldTab s.nodes).1 = 0 then (if (gcheck s).1 = 0 then canonR (upS s) else ⟨[], 0⟩) else ⟨[], 0⟩
end Go.Proofs.YtglfebpgdghlfaaDoor.L
end
section
namespace Go.Proofs.YtglfebpgdghlfaaDoor.L
open Go.RowKit Go.ChangeShapes Go.WideShapes Go.Proofs.YtglfebpgdghlfaaDoorW.PrintWords Go.Proofs.YtglfebpgdghlfaaDoorW.PrintLast Go.Proofs.YtglfebpgdghlfaaDoorW.PrintMore
attribute [local go_sem] max2_int min2_int max_two min_two max_three min_three max_four min_four
theorem kid_write {W : World} {base g m c : Nat} {ok : Nat → Prop} {l : List Node} (h : Kd.S kNode 26 W base ok (.slice (some ⟨g, 0, none⟩) m c) l) (i : Nat) (hi : i < m) (j : Nat) (hj : j < (nd l i).kids.length) :
    ∃ gk ck, W.cell? ⟨g, i * 4 + 3, none⟩ = some (.slice (some ⟨gk, 0, none⟩) (nd l i).kids.length ck) ∧ ok gk ∧ gk ≠ g ∧ base ≤ gk ∧ (∃ cells, W.heap[gk]? = some (.cells cells 3 (0, 0))) ∧ W.cell? ⟨gk, j, none⟩ = some (.int .i64 (rd (nd l i).kids (j : Int))) ∧ W.frozen? ⟨gk, j, none⟩ = false ∧
      ∀ u : Int, Kd.S kNode 26 (W.setCell ⟨gk, j, none⟩ (.int .i64 u)) base ok (.slice (some ⟨g, 0, none⟩) m c) (l.set i (withKids (nd l i) ((nd l i).kids.set j u))) ∧ W.grownBy (W.setCell ⟨gk, j, none⟩ (.int .i64 u)) (some gk) := by
  obtain ⟨oki, cc, hcl, hM, hcc, hfr, hoki, hH⟩ := Kd.S_elem h nodez (i : Int) (by omega) (by omega)
  rw [Int.toNat_natCast] at hM hcc hfr
  obtain ⟨v1, v2, v3, rfl, r1, r2, r3⟩ := kNode_openM hM
  obtain ⟨gk, ck, hv3, hb, -, cells, hc⟩ := Kd.R_form r3 (by show 0 < (nd l i).kids.length; omega)
  subst hv3
  have hko := r3.1 gk rfl
  obtain ⟨c1, c2⟩ := ints_cell r3 j hj
  refine ⟨gk, ck, hcc 3 _ rfl, (hoki gk hko).1, (hoki gk hko).2, hb, ⟨cells, hc⟩, c1, c2, fun u => ?_⟩
  obtain ⟨s1, s2, _⟩ := ints_store r3 j hj u
  refine ⟨?_, s2⟩
  have s1' : (Kd.int .i64).R 3 (W.setCell ⟨gk, j, none⟩ (.int .i64 u)) base oki (.slice (some ⟨gk, 0, none⟩) (nd l i).kids.length ck) ((nd l i).kids.set j u) := s1
  have hb2 := Kd.H_back (Kd.H_grown hH s2 (fun k hk => by injection hk with hk; rw [← hk]; exact hko)) (x' := withKids (nd l i) ((nd l i).kids.set j u)) (okp := oki)
    (kNode_mkM (Kd.R_grown1 r1 rfl s2 (Kd.R_ne r1 hc (by decide))) (Kd.R_grown1 r2 rfl s2 (Kd.R_ne r2 hc (by decide))) s1') (fun _ h => h)
  rw [Int.toNat_natCast] at hb2
  exact hb2
theorem kids_read {W : World} {base g m c : Nat} {ok : Nat → Prop} {l : List Node} (h : Kd.S kNode 26 W base ok (.slice (some ⟨g, 0, none⟩) m c) l) (i : Nat) (hi : i < m) :
    ∃ A3 c3, W.cell? ⟨g, i * 4 + 3, none⟩ = some (.slice A3 (nd l i).kids.length c3) ∧ (Kd.int .i64).C W A3 (nd l i).kids.length (nd l i).kids := by
  obtain ⟨oki, cc, hcl, hM, hcc, hfr, hoki, hH⟩ := Kd.S_elem h nodez (i : Int) (by omega) (by omega)
  rw [Int.toNat_natCast] at hM hcc hfr
  obtain ⟨v1, v2, v3, rfl, r1, r2, r3⟩ := kNode_openM hM
  obtain ⟨A3, c3, hv3⟩ := Kd.R_slice r3
  subst hv3
  exact ⟨A3, c3, hcc 3 _ rfl, (Kd.R_reads' r3).2.2⟩
theorem below_of_grown {W W1 : World} (h : W.grownBy W1 none) : Below W.heap.size W W1 := ⟨h.os, h.tape, h.output, h.size, fun k hk => h.block k hk (by simp)⟩
structure Up1 (s : Scene) (A : Option Addr) (c : Nat) (w : World) (b8 g9 c9 g10 c10 : Nat) (v : Value) (i j k : Nat) (W : World) : Prop where
  box : W.heap[b8]? = some (.cells #[v, .int .i64 0] 39 (0, 0))
  nodes : Kd.S kNode 26 W w.heap.size (fun k => k ≠ g9 ∧ k ≠ g10) v (mix s.nodes i 0)
  up : (Kd.int .i64).R 3 W w.heap.size (fun k => k ≠ g10) (.slice (some ⟨g9, 0, none⟩) s.nodes.length c9) (fillTo (posI s.nodes) j s.nodes.length)
  la : (Kd.int .i64).R 3 W w.heap.size (fun _ => True) (.slice (some ⟨g10, 0, none⟩) s.nodes.length c10) (fillTo (lastI s.nodes) k s.nodes.length)
  src : W.heap[w.heap.size]? = some (.cells #[.slice A s.nodes.length c, .int .i64 s.root] 39 (0, 0))
  res : W.heap[w.heap.size + 1]? = some (.cells #[.slice none 0 0, .int .i64 0] 39 (0, 0))
  b0 : w.heap.size + 1 < b8
  below : Below w.heap.size w W
theorem S_type {α : Type} {d : Kd α} {e base : Nat} {ok : Nat → Prop} {W : World} {v : Value} {xs : List α} {g : Nat} {cells : Array Value} {T : TypeId} (h : Kd.S d e W base ok v xs) (hb : W.heap[g]? = some (.cells cells T (0, 0))) (hT : ¬ T ∈ e :: d.E) (u : Value) (i : Nat) : Kd.S d e (W.setCell ⟨g, i, none⟩ u) base ok v xs :=
  Kd.S_mono (Kd.S_grown (Kd.S_bound h) (set_grown W g i u) (fun k hk he => by
    injection he with he
    obtain ⟨_, _, _, q, hq, cs, hc⟩ := hk
    subst he
    rw [hb] at hc
    injection hc with hc
    injection hc with _ hc
    subst hc
    exact hT hq)) (fun _ hk => hk.1)
section
variable {s : Scene} {A : Option Addr} {c : Nat} {w : World} {b8 g9 c9 g10 c10 : Nat} {v : Value} {i j k : Nat} {W W1 : World}
theorem Up1.later (h : Up1 s A c w b8 g9 c9 g10 c10 v i j k W) (hb : Below W.heap.size W W1) : Up1 s A c w b8 g9 c9 g10 c10 v i j k W1 :=
  ⟨(hb.block _ (blk_lt h.box)).trans h.box, Kd.S_below h.nodes hb, Kd.R_below h.up hb, Kd.R_below h.la hb, (hb.block _ (blk_lt h.src)).trans h.src, (hb.block _ (blk_lt h.res)).trans h.res, h.b0, below_step h.below hb⟩
theorem Up1.ne (h : Up1 s A c w b8 g9 c9 g10 c10 v i j k W) : g9 ≠ g10 := h.up.1 g9 rfl
theorem Up1.lt9 (h : Up1 s A c w b8 g9 c9 g10 c10 v i j k W) : g9 < W.heap.size := Kd.R_lt h.up g9 rfl
theorem Up1.lt10 (h : Up1 s A c w b8 g9 c9 g10 c10 v i j k W) : g10 < W.heap.size := Kd.R_lt h.la g10 rfl
theorem scene_ne {b g : Nat} {x y : Value} {cells : Array Value} {T : TypeId} (hx : W.heap[b]? = some (.cells #[x, y] 39 (0, 0))) (hc : W.heap[g]? = some (.cells cells T (0, 0))) (hT : T ≠ 39) : some b ≠ some g := fun he => by
  injection he with he
  rw [← he, hx] at hc
  injection hc with hc
  injection hc with _ hc
  exact hT hc.symm
theorem Up1.upper (h : Up1 s A c w b8 g9 c9 g10 c10 v i j k W) (hj : j < s.nodes.length) :
    (∃ x, W.cell? ⟨g9, j, none⟩ = some x) ∧ W.frozen? ⟨g9, j, none⟩ = false ∧ Up1 s A c w b8 g9 c9 g10 c10 v i (j + 1) k (W.setCell ⟨g9, j, none⟩ (.int .i64 (pos s.nodes j : Int))) ∧ W.grownBy (W.setCell ⟨g9, j, none⟩ (.int .i64 (pos s.nodes j : Int))) (some g9) := by
  obtain ⟨c1, c2⟩ := ints_cell h.up j hj
  obtain ⟨s1, s2, s3⟩ := ints_store h.up j hj (pos s.nodes j : Int)
  have e : (fillTo (posI s.nodes) j s.nodes.length).set j (pos s.nodes j : Int) = fillTo (posI s.nodes) (j + 1) s.nodes.length := fillTo_set (posI s.nodes) j s.nodes.length
  rw [e] at s1
  obtain ⟨cells, hc⟩ := Kd.R_typed h.up g9 rfl
  exact ⟨⟨_, c1⟩, c2, ⟨blk_grown h.box s2 (scene_ne h.box hc (by decide)), Kd.S_far (p := ⟨g9, j, none⟩) h.nodes (fun k hk => hk.1) _, s1, Kd.R_grown1 h.la rfl s2 (fun e => h.ne (by simpa [Value.ownBlock] using e)), blk_grown h.src s2 (scene_ne h.src hc (by decide)), blk_grown h.res s2 (scene_ne h.res hc (by decide)), h.b0, below_set h.below s3⟩, s2⟩
theorem Up1.lower (h : Up1 s A c w b8 g9 c9 g10 c10 v i j k W) (hk : k < s.nodes.length) :
    (∃ x, W.cell? ⟨g10, k, none⟩ = some x) ∧ W.frozen? ⟨g10, k, none⟩ = false ∧ Up1 s A c w b8 g9 c9 g10 c10 v i j (k + 1) (W.setCell ⟨g10, k, none⟩ (.int .i64 ((pos s.nodes (k + 1) - 1 : Nat) : Int))) := by
  obtain ⟨c1, c2⟩ := ints_cell h.la k hk
  obtain ⟨s1, s2, s3⟩ := ints_store h.la k hk ((pos s.nodes (k + 1) - 1 : Nat) : Int)
  have e : (fillTo (lastI s.nodes) k s.nodes.length).set k ((pos s.nodes (k + 1) - 1 : Nat) : Int) = fillTo (lastI s.nodes) (k + 1) s.nodes.length := fillTo_set (lastI s.nodes) k s.nodes.length
  rw [e] at s1
  obtain ⟨cells, hc⟩ := Kd.R_typed h.la g10 rfl
  exact ⟨⟨_, c1⟩, c2, ⟨blk_grown h.box s2 (scene_ne h.box hc (by decide)), Kd.S_far (p := ⟨g10, k, none⟩) h.nodes (fun k hk => hk.2) _, Kd.R_far (p := ⟨g10, k, none⟩) h.up (fun k hk => hk) _, s1, blk_grown h.src s2 (scene_ne h.src hc (by decide)), blk_grown h.res s2 (scene_ne h.res hc (by decide)), h.b0, below_set h.below s3⟩⟩
theorem Up1.push (h : Up1 s A c w b8 g9 c9 g10 c10 v i j k W) {B : Nat} (h9 : g9 < B) (h10 : g10 < B) {v1 : Value} (hS : Kd.S kNode 26 W1 w.heap.size (fun k => (k ≠ g9 ∧ k ≠ g10) ∨ B ≤ k ∨ W.heap.size ≤ k) v1 (mix s.nodes (i + 1) 0)) (hB : Below w.heap.size w W1) (hg : W.grownBy W1 v.ownBlock) :
    (∃ x, W1.cell? ⟨b8, 0, none⟩ = some x) ∧ W1.frozen? ⟨b8, 0, none⟩ = false ∧ Up1 s A c w b8 g9 c9 g10 c10 v1 (i + 1) j k (W1.setCell ⟨b8, 0, none⟩ v1) := by
  have hnv := (Kd.S_R h.nodes).1
  have hty := Kd.S_typed h.nodes
  have hne : ∀ b x y, W.heap[b]? = some (.cells #[x, y] 39 (0, 0)) → some b ≠ v.ownBlock := fun b x y hx he => by
    obtain ⟨cells, hc⟩ := hty b he.symm
    exact scene_ne hx hc (by decide) rfl
  have hbx := blk_grown h.box hg (hne _ _ _ h.box)
  have h9s := h.lt9
  have h10s := h.lt10
  have hup := Kd.R_mono (Kd.R_grown1 h.up rfl hg (fun e => (hnv g9 e).1 rfl)) (fun _ hk => hk)
  have hla := Kd.R_grown1 h.la rfl hg (fun e => (hnv g10 e).2 rfl)
  have hS' : Kd.S kNode 26 W1 w.heap.size (fun k => k ≠ g9 ∧ k ≠ g10) v1 (mix s.nodes (i + 1) 0) := Kd.S_mono hS (fun k hk => by
    rcases hk with hk | hk | hk
    · exact hk
    · exact ⟨by omega, by omega⟩
    · exact ⟨by omega, by omega⟩)
  have hb8 := h.b0
  refine ⟨⟨_, (blk_cell hbx 0).trans rfl⟩, blk_frozen hbx 0, ⟨?_, S_type hS' hbx (by decide) _ _, R_type hup hbx (by decide) _ _, R_type hla hbx (by decide) _ _, ?_, ?_, h.b0, below_set hB (by omega)⟩⟩
  · have := blk_set hbx 0 v1
    simpa using this
  · rw [Below.heap_setCell _ _ _ _ (by show w.heap.size ≠ b8; omega)]
    exact blk_grown h.src hg (hne _ _ _ h.src)
  · rw [Below.heap_setCell _ _ _ _ (by show w.heap.size + 1 ≠ b8; omega)]
    exact blk_grown h.res hg (hne _ _ _ h.res)
end
structure UpL (s : Scene) (w : World) (B gl cl i j : Nat) (W : World) : Prop where
  row : Kd.S kNode 26 W w.heap.size (fun k => B ≤ k) (.slice (some ⟨gl, 0, none⟩) (upLen (nd s.nodes i)) cl) (upK (nd s.nodes i) (if j = 0 then 0 else (pos s.nodes i : Int) + 1) (nd s.nodes i).kids)
  jl : j ≤ upLen (nd s.nodes i) - 1
theorem UpL.done {s : Scene} {w : World} {B gl cl i : Nat} {W : World} (h : UpL s w B gl cl i (upLen (nd s.nodes i) - 1) W) : Kd.S kNode 26 W w.heap.size (fun k => B ≤ k) (.slice (some ⟨gl, 0, none⟩) (upLen (nd s.nodes i)) cl) (upK (nd s.nodes i) ((pos s.nodes i : Int) + 1) (nd s.nodes i).kids) := by
  have hr := h.row
  by_cases h2 : (nd s.nodes i).kind = 2
  · have : upLen (nd s.nodes i) = 2 := by unfold upLen; rw [if_pos h2]
    rw [this] at hr ⊢
    exact hr
  · rw [upK_one h2 _ ((pos s.nodes i : Int) + 1)] at hr
    exact hr
theorem grown_trans {W W1 W2 : World} {g g' : Nat} (h1 : W.grownBy W1 (some g)) (h2 : W1.grownBy W2 (some g')) (hg : W.heap.size ≤ g') : W.grownBy W2 (some g) :=
  ⟨h2.os.trans h1.os, h2.tape.trans h1.tape, h2.output.trans h1.output, Nat.le_trans h1.size h2.size, fun k hk hne => (h2.block k (Nat.lt_of_lt_of_le hk h1.size) (fun e => by injection e with e; omega)).trans (h1.block k hk hne)⟩
theorem grown_below {W W1 W2 : World} {g : Nat} (h1 : Below W.heap.size W W1) (h2 : W1.grownBy W2 (some g)) : W.grownBy W2 (some g) :=
  ⟨h2.os.trans h1.os, h2.tape.trans h1.tape, h2.output.trans h1.output, Nat.le_trans h1.size h2.size, fun k hk hne => (h2.block k (Nat.lt_of_lt_of_le hk h1.size) hne).trans (h1.block k hk)⟩
structure UpI (s : Scene) (w wr : World) (B gl cl g9 c9 g10 i j : Nat) (W : World) : Prop where
  grown : wr.grownBy W (some g9)
  up : (Kd.int .i64).R 3 W w.heap.size (fun k => k ≠ g10) (.slice (some ⟨g9, 0, none⟩) s.nodes.length c9) (fillTo (posI s.nodes) (i + 1) s.nodes.length)
  l : UpL s w B gl cl i j W
  hB : wr.heap.size ≤ B
theorem UpL.step {s : Scene} {w : World} {B gl cl i j : Nat} {W : World} (h : UpL s w B gl cl i j W) (hj : j < upLen (nd s.nodes i) - 1) : j = 0 ∧ upLen (nd s.nodes i) = 2 ∧
    ∃ gk ck, W.cell? ⟨gl, 3, none⟩ = some (.slice (some ⟨gk, 0, none⟩) 1 ck) ∧ B ≤ gk ∧ (∃ x, W.cell? ⟨gk, 0, none⟩ = some x) ∧ W.frozen? ⟨gk, 0, none⟩ = false ∧
      UpL s w B gl cl i (j + 1) (W.setCell ⟨gk, 0, none⟩ (.int .i64 ((pos s.nodes i : Int) + 1))) ∧ W.grownBy (W.setCell ⟨gk, 0, none⟩ (.int .i64 ((pos s.nodes i : Int) + 1))) (some gk) := by
  have h2 : (nd s.nodes i).kind = 2 := Classical.byContradiction fun hn => by
    have : upLen (nd s.nodes i) = 1 := by unfold upLen; rw [if_neg hn]
    omega
  have hl : upLen (nd s.nodes i) = 2 := by unfold upLen; rw [if_pos h2]
  obtain rfl : j = 0 := by omega
  have hr := h.row
  rw [if_pos rfl, hl] at hr
  obtain ⟨u1, u2⟩ := upK_first h2 0 ((pos s.nodes i : Int) + 1) (nd s.nodes i).kids
  obtain ⟨gk, ck, k1, k2, k3, k4, _, k5, k6, k7⟩ := kid_write hr 0 (by omega) 0 (by rw [u2]; decide)
  obtain ⟨s1, s2⟩ := k7 ((pos s.nodes i : Int) + 1)
  rw [u2] at k1 s1
  have e : ([(0 : Int)].set 0 ((pos s.nodes i : Int) + 1)) = [(pos s.nodes i : Int) + 1] := rfl
  rw [e, u1] at s1
  refine ⟨rfl, hl, gk, ck, k1, k2, ⟨_, k5⟩, k6, ⟨?_, by omega⟩, s2⟩
  rw [if_neg (by omega), hl]
  exact s1
theorem UpI.step {s : Scene} {w wr : World} {B gl cl g9 c9 g10 i j : Nat} {W : World} (h : UpI s w wr B gl cl g9 c9 g10 i j W) (h9 : g9 < B) (hj : j < upLen (nd s.nodes i) - 1) : j = 0 ∧ upLen (nd s.nodes i) = 2 ∧
    ∃ gk ck, W.cell? ⟨gl, 3, none⟩ = some (.slice (some ⟨gk, 0, none⟩) 1 ck) ∧ wr.heap.size ≤ gk ∧ (∃ x, W.cell? ⟨gk, 0, none⟩ = some x) ∧ W.frozen? ⟨gk, 0, none⟩ = false ∧
      UpI s w wr B gl cl g9 c9 g10 i (j + 1) (W.setCell ⟨gk, 0, none⟩ (.int .i64 ((pos s.nodes i : Int) + 1))) := by
  obtain ⟨e1, e2, gk, ck, k1, k2, k3, k4, k5, k6⟩ := h.l.step hj
  have hB := h.hB
  have hne : some gk ≠ (Value.slice (some ⟨g9, 0, none⟩) s.nodes.length c9).ownBlock := fun e => by
    have e3 : gk = g9 := by simpa [Value.ownBlock] using e
    omega
  exact ⟨e1, e2, gk, ck, k1, by omega, k3, k4, ⟨grown_trans h.grown k6 (by omega), Kd.R_grown1 h.up rfl k6 hne, k5, h.hB⟩⟩
section
variable {s : Scene} {A : Option Addr} {c : Nat} {w : World} {b8 g9 c9 g10 c10 : Nat} {v : Value} {i j k : Nat} {W W1 : World}
theorem Up1.into (h : Up1 s A c w b8 g9 c9 g10 c10 v i i k W) (hg : W.grownBy W1 (some g9)) (hu : (Kd.int .i64).R 3 W1 w.heap.size (fun k => k ≠ g10) (.slice (some ⟨g9, 0, none⟩) s.nodes.length c9) (fillTo (posI s.nodes) (i + 1) s.nodes.length)) : Up1 s A c w b8 g9 c9 g10 c10 v i (i + 1) k W1 := by
  obtain ⟨cells, hc⟩ := Kd.R_typed h.up g9 rfl
  have h9 := Kd.R_base h.up g9 rfl
  exact ⟨blk_grown h.box hg (scene_ne h.box hc (by decide)), Kd.S_grown h.nodes hg (fun k hk e => by injection e with e; exact hk.1 e), hu, Kd.R_grown1 h.la rfl hg (fun e => h.ne (by simpa [Value.ownBlock] using e)), blk_grown h.src hg (scene_ne h.src hc (by decide)), blk_grown h.res hg (scene_ne h.res hc (by decide)), h.b0, h.below.grown hg h.below.size (fun q hq => by injection hq with hq; omega)⟩
theorem Up1.elder (h : Up1 s A c w b8 g9 c9 g10 c10 v i j k W) (hg : W.grownBy W1 (some g9)) : Kd.S kNode 26 W1 w.heap.size (fun k => (k ≠ g9 ∧ k ≠ g10) ∧ k < W.heap.size) v (mix s.nodes i 0) :=
  Kd.S_grown (Kd.S_mono (Kd.S_bound h.nodes) (fun k hk => ⟨hk.1, hk.2.2.1⟩)) hg (fun k hk e => by injection e with e; exact hk.1.1 e)
end
theorem upnode_ok (n : Node) (A1 : Option Addr) (c1 : Nat) (A2 : Option Addr) (c2 : Nat) (A3 : Option Addr) (c3 : Nat) (w : World) (h : NodeC w n A1 c1 A2 c2 A3 c3) (hs : Small n) (hts : TextsSmall n) (hT : Tabs w) (hz : nodeT oldTab n = 0) :
    Calls Tryd.prog 14 #[.agg #[.int .i64 n.kind, .slice A1 n.ints.length c1, .slice A2 n.texts.length c2, .slice A3 n.kids.length c3]] w fun e w' =>
      ∃ gl cl, e = .returned (.tuple #[.slice (some ⟨gl, 0, none⟩) (upLen n) cl, .int .i64 0]) ∧ Kd.S kNode 26 w' w.heap.size (fun _ => True) (.slice (some ⟨gl, 0, none⟩) (upLen n) cl) (upK n 0 n.kids) ∧ Below w.heap.size w w' := by
  refine (upnode_any n A1 c1 A2 c2 A3 c3 w h hs hts hT).mono ?_
  have hr : upR n = (upK n 0 n.kids, 0) := by unfold upR; rw [if_pos hz, upN_eq]
  rw [hr]
  rintro e w' ⟨A, c, rfl, hS, hB⟩
  have hl : (upK n 0 n.kids).length = upLen n := upK_len _ _ _
  have hS' : Kd.S kNode 26 w' w.heap.size (fun _ => True) (.slice A (upK n 0 n.kids).length c) (upK n 0 n.kids) := hS
  obtain ⟨g, cap, hv, -⟩ := Kd.S_form hS' (by rw [hl]; exact upLen_pos n)
  injection hv with hA _ hc
  subst hA hc
  rw [hl] at hS'
  exact ⟨g, c, by show Ending.returned (.tuple #[.slice _ (upK n 0 n.kids).length _, _]) = _; rw [hl], hS', hB⟩

theorem UpI.drew {s : Scene} {w wr : World} {B gl cl g9 c9 g10 i j : Nat} {W : World} (h : UpI s w wr B gl cl g9 c9 g10 i j W) : UpI s w wr B gl cl g9 c9 g10 i j W.drew :=
  ⟨⟨h.grown.os, h.grown.tape, h.grown.output, h.grown.size, h.grown.block⟩, Kd.R_drew h.up, ⟨Kd.S_drew h.l.row, h.l.jl⟩, h.hB⟩
end Go.Proofs.YtglfebpgdghlfaaDoor.L
end
section
namespace Go.Proofs.YtglfebpgdghlfaaDoor.L
open Go.RowKit Go.ChangeShapes Go.WideShapes Go.Proofs.YtglfebpgdghlfaaDoorW.PrintWords Go.Proofs.YtglfebpgdghlfaaDoorW.PrintLast Go.Proofs.YtglfebpgdghlfaaDoorW.PrintMore
attribute [local go_sem] max2_int min2_int max_two min_two max_three min_three max_four min_four
structure Up3 (s : Scene) (A : Option Addr) (c : Nat) (w : World) (b8 g9 c9 g10 c10 gv cv : Nat) (l : List Node) (W : World) : Prop where
  box : W.heap[b8]? = some (.cells #[.slice (some ⟨gv, 0, none⟩) (pos s.nodes s.nodes.length) cv, .int .i64 0] 39 (0, 0))
  nodes : Kd.S kNode 26 W w.heap.size (fun k => k ≠ g9 ∧ k ≠ g10) (.slice (some ⟨gv, 0, none⟩) (pos s.nodes s.nodes.length) cv) l
  up : (Kd.int .i64).R 3 W w.heap.size (fun k => k ≠ g10) (.slice (some ⟨g9, 0, none⟩) s.nodes.length c9) (fillTo (posI s.nodes) s.nodes.length s.nodes.length)
  la : (Kd.int .i64).R 3 W w.heap.size (fun _ => True) (.slice (some ⟨g10, 0, none⟩) s.nodes.length c10) (fillTo (lastI s.nodes) s.nodes.length s.nodes.length)
  src : W.heap[w.heap.size]? = some (.cells #[.slice A s.nodes.length c, .int .i64 s.root] 39 (0, 0))
  res : W.heap[w.heap.size + 1]? = some (.cells #[.slice none 0 0, .int .i64 0] 39 (0, 0))
  b0 : w.heap.size + 1 < b8
  below : Below w.heap.size w W
section
variable {s : Scene} {A : Option Addr} {c : Nat} {w : World} {b8 g9 c9 g10 c10 gv cv : Nat} {l : List Node} {W W1 : World}
theorem Up3.start {v : Value} {n : Nat} (hn : n = s.nodes.length) (hp : 0 < pos s.nodes n) (h : Up1 s A c w b8 g9 c9 g10 c10 v n n n W) : ∃ gv cv, v = .slice (some ⟨gv, 0, none⟩) (pos s.nodes s.nodes.length) cv ∧ Up3 s A c w b8 g9 c9 g10 c10 gv cv (mix s.nodes s.nodes.length 0) W := by
  subst hn
  obtain ⟨gv, cv, hv, -⟩ := Kd.S_form h.nodes (by rw [mix_len]; exact hp)
  rw [mix_len] at hv
  subst hv
  exact ⟨gv, cv, rfl, h.box, h.nodes, h.up, h.la, h.src, h.res, h.b0, h.below⟩
theorem Up3.drew (h : Up3 s A c w b8 g9 c9 g10 c10 gv cv l W) : Up3 s A c w b8 g9 c9 g10 c10 gv cv l W.drew :=
  ⟨h.box, Kd.S_drew h.nodes, Kd.R_drew h.up, Kd.R_drew h.la, h.src, h.res, h.b0, pw_below_drewN h.below 1⟩
theorem Up3.write (h : Up3 s A c w b8 g9 c9 g10 c10 gv cv l W) (i : Nat) (hi : i < pos s.nodes s.nodes.length) (j : Nat) (hj : j < (nd l i).kids.length) :
    ∃ gk ck, W.cell? ⟨gv, i * 4 + 3, none⟩ = some (.slice (some ⟨gk, 0, none⟩) (nd l i).kids.length ck) ∧ W.cell? ⟨gk, j, none⟩ = some (.int .i64 (rd (nd l i).kids (j : Int))) ∧ W.frozen? ⟨gk, j, none⟩ = false ∧
      ∀ u : Int, Up3 s A c w b8 g9 c9 g10 c10 gv cv (l.set i (withKids (nd l i) ((nd l i).kids.set j u))) (W.setCell ⟨gk, j, none⟩ (.int .i64 u)) ∧ (W.setCell ⟨gk, j, none⟩ (.int .i64 u)).cell? ⟨gv, i * 4 + 3, none⟩ = some (.slice (some ⟨gk, 0, none⟩) (nd l i).kids.length ck) := by
  obtain ⟨gk, ck, k1, k2, k3, k4, ⟨cells, hc⟩, k5, k6, k7⟩ := kid_write h.nodes i hi j hj
  refine ⟨gk, ck, k1, k5, k6, fun u => ?_⟩
  obtain ⟨s1, s2⟩ := k7 u
  have hsc : ∀ b x y, W.heap[b]? = some (.cells #[x, y] 39 (0, 0)) → some b ≠ some gk := fun b x y hx => scene_ne hx hc (by decide)
  exact ⟨⟨blk_grown h.box s2 (hsc _ _ _ h.box), s1, Kd.R_grown1 h.up rfl s2 (fun e => k2.1 (by simpa [Value.ownBlock] using e)), Kd.R_grown1 h.la rfl s2 (fun e => k2.2 (by simpa [Value.ownBlock] using e)), blk_grown h.src s2 (hsc _ _ _ h.src), blk_grown h.res s2 (hsc _ _ _ h.res), h.b0, below_set h.below k4⟩, far_set k1 gk j k3 _⟩
end
theorem set_same (l : List Node) (i : Nat) : l.set i (withKids (nd l i) (nd l i).kids) = l := by
  by_cases h : i < l.length
  · have e : withKids (nd l i) (nd l i).kids = l[i] := by
      unfold nd
      rw [getD_eq _ h]
      rfl
    rw [e]
    exact List.set_getElem_self h
  · exact List.set_eq_of_length_le (by omega)
def half (ns : List Node) (l : List Node) (i j : Nat) : List Node := l.set i (withKids (nd l i) (mapTake (fun k => (pos ns k.toNat : Int)) (nd l i).kids j))
theorem half_zero (ns l : List Node) (i : Nat) : half ns l i 0 = l := by unfold half; rw [mapTake_zero, set_same]
theorem half_nd (ns l : List Node) (i j : Nat) (hi : i < l.length) : nd (half ns l i j) i = withKids (nd l i) (mapTake (fun k => (pos ns k.toNat : Int)) (nd l i).kids j) := by unfold half; rw [nd_set _ _ _ _ hi, if_pos rfl]
theorem half_step (ns l : List Node) (i j : Nat) (hi : i < l.length) (hj : j < (nd l i).kids.length) :
    (half ns l i j).set i (withKids (nd (half ns l i j) i) ((nd (half ns l i j) i).kids.set j ((pos ns (rd (nd l i).kids (j : Int)).toNat : Nat) : Int))) = half ns l i (j + 1) ∧ rd (nd (half ns l i j) i).kids (j : Int) = rd (nd l i).kids (j : Int) ∧ (nd (half ns l i j) i).kids.length = (nd l i).kids.length := by
  rw [half_nd ns l i j hi]
  refine ⟨?_, mapTake_rd _ _ _ hj, mapTake_len _ _ _⟩
  show (half ns l i j).set i (withKids (nd l i) ((mapTake (fun k => (pos ns k.toNat : Int)) (nd l i).kids j).set j ((pos ns (rd (nd l i).kids (j : Int)).toNat : Nat) : Int))) = _
  have e := mapTake_set (fun k => (pos ns k.toNat : Int)) (nd l i).kids j hj
  rw [e]
  unfold half
  rw [List.set_set]
theorem half_done (ns l : List Node) (i : Nat) : half ns l i (nd l i).kids.length = l.set i (withKids (nd l i) (mapK ns (nd l i).kids)) := by unfold half mapK; rw [mapTake_all]
end Go.Proofs.YtglfebpgdghlfaaDoor.L
end
section
namespace Go.Proofs.YtglfebpgdghlfaaDoor.L
open Go.RowKit Go.ChangeShapes Go.WideShapes Go.Proofs.YtglfebpgdghlfaaDoorW.PrintWords Go.Proofs.YtglfebpgdghlfaaDoorW.PrintLast Go.Proofs.YtglfebpgdghlfaaDoorW.PrintMore
attribute [local go_sem] max2_int min2_int max_two min_two max_three min_three max_four min_four
set_option maxRecDepth 100000 in
set_option maxHeartbeats 8000000 in
theorem up_any (A : Option Addr) (c : Nat) (s : Scene) (w : World) (h : kNode.C w A s.nodes.length s.nodes) (hT : Tabs w) (hS : ∀ i : Nat, i < s.nodes.length → Small (nd s.nodes i)) (hTS : ∀ i : Nat, i < s.nodes.length → TextsSmall (nd s.nodes i)) (hM : rows s.nodes ≤ 130000) :
    Calls Tryd.prog 19 #[.agg #[.slice A s.nodes.length c, .int .i64 s.root]] w (ScenePost (upRes s) (upErr s) w) := by
  have HR := Aside0.mk h
  have HT := Aside0.mk hT
  have HS := Aside0.mk hS
  have HTS := Aside0.mk hTS
  have HM := Aside0.mk hM
  have b0 := h.2.1
  have HB := Aside0.mk (below_alloc (below_alloc (Below.refl w.heap.size w) (.cells #[.slice A s.nodes.length c, .int .i64 s.root] 39)) (.cells #[.slice none 0 0, .int .i64 0] 39))
  have HX := Aside0.mk (show ((w.alloc (.cells #[.slice A s.nodes.length c, .int .i64 s.root] 39)).alloc (.cells #[.slice none 0 0, .int .i64 0] 39)).heap[w.heap.size]? = some (.cells #[.slice A s.nodes.length c, .int .i64 s.root] 39 (0, 0)) from by
    have : (w.alloc (.cells #[.slice A s.nodes.length c, .int .i64 s.root] 39)).heap[w.heap.size]? = some (.cells #[.slice A s.nodes.length c, .int .i64 s.root] 39 (0, 0)) := by simpa using heap_alloc_new w _
    exact (Below.block (below_alloc (Below.refl _ _) _) _ (by simp)).trans this)
  have HL := Aside0.mk (show ((w.alloc (.cells #[.slice A s.nodes.length c, .int .i64 s.root] 39)).alloc (.cells #[.slice none 0 0, .int .i64 0] 39)).heap[w.heap.size + 1]? = some (.cells #[.slice none 0 0, .int .i64 0] 39 (0, 0)) from by
    have := heap_alloc_new (w.alloc (.cells #[.slice A s.nodes.length c, .int .i64 s.root] 39)) (.cells #[.slice none 0 0, .int .i64 0] 39)
    simpa using this)
  have k0 := (blk_cell HX.out 0).trans rfl
  have k1 := (blk_cell HX.out 1).trans rfl
  have hu := Tryd.underlying39
  have hun := Tryd.underlying26
  clear h hT hS hTS hM
  go_enter Tryd.func19, Tryd.ntmps19
  go_wp2_with fail
  refine (oldtyped_any A c s _ (Kd.C_below HR.out HB.out) (HT.out.below HB.out) HTS.out).mono ?_
  rintro e w1 ⟨rfl, hB1⟩
  have HB1 := Aside0.mk (below_step HB.out hB1)
  have HX1 := Aside0.mk ((hB1.block _ (blk_lt HX.out)).trans HX.out)
  have HL1 := Aside0.mk ((hB1.block _ (blk_lt HL.out)).trans HL.out)
  replace k0 := (blk_cell HX1.out 0).trans rfl
  replace k1 := (blk_cell HX1.out 1).trans rfl
  clear hB1
  by_cases hz1 : (typedS oldTab s.nodes).1 = 0
  · have HZ1 := Aside0.mk hz1
    rw [hz1]
    clear hz1
    go_wp2_with fail
    refine (gcheck_any A c s _ (Kd.C_below HR.out HB1.out) (by have := HM.out; omega)).mono ?_
    rintro e w2 ⟨rfl, hB2⟩
    have HB2 := Aside0.mk (below_step HB1.out hB2)
    have HX2 := Aside0.mk ((hB2.block _ (blk_lt HX1.out)).trans HX1.out)
    have HL2 := Aside0.mk ((hB2.block _ (blk_lt HL1.out)).trans HL1.out)
    replace k0 := (blk_cell HX2.out 0).trans rfl
    replace k1 := (blk_cell HX2.out 1).trans rfl
    clear hB2 HX1 HL1 HX HL
    by_cases hz2 : (gcheck s).1 = 0
    · have HZ2 := Aside0.mk hz2
      have HRt := Aside0.mk (gcheck_right.1 hz2)
      have HE : Aside0 (upErr s = (gcheck (upS s)).1 ∧ upRes s = canonR (upS s)) := ⟨by unfold upErr; rw [if_pos HZ1.out, if_pos hz2], by unfold upRes; rw [if_pos HZ1.out, if_pos hz2]⟩
      have hnM : s.nodes.length ≤ 130000 := Nat.le_trans (len_rows _) HM.out
      have hn0 : 0 < s.nodes.length := by have := HRt.out.r0; have := HRt.out.r1; omega
      have hb8 := below_alloc (Below.refl w2.heap.size w2) (.cells #[.slice none 0 0, .int .i64 0] 39)
      have HB8 := Aside0.mk (below_step HB2.out hb8)
      have H8 := Aside0.mk (show (w2.alloc (.cells #[.slice none 0 0, .int .i64 0] 39)).heap[w2.heap.size]? = some (.cells #[.slice none 0 0, .int .i64 0] 39 (0, 0)) from by simpa using heap_alloc_new w2 _)
      have HX8 := Aside0.mk ((hb8.block _ (blk_lt HX2.out)).trans HX2.out)
      have HL8 := Aside0.mk ((hb8.block _ (blk_lt HL2.out)).trans HL2.out)
      replace k0 := (blk_cell HX8.out 0).trans rfl
      replace k1 := (blk_cell HX8.out 1).trans rfl
      rw [hz2]
      clear hz2 hb8
      go_wp2_with (first
        | (refine Kd.R_make (Kd.int .i64) (w0 := w) w.heap.size 3 rfl (N := 42) rfl 24 _ _ rfl (s.nodes.length : Int) rfl rfl Tryd.underlying24 (.int .i64 0) 8 info_int rfl (by decide) (by omega) 0 (ok := fun _ => True) (okp := fun _ => True) rfl (fun _ hk => hk) trivial (by omega) (by omega) HB8.out HB8.out.size ?_; intro v9 w9 ho9 hb9 hg9 hn9; rw [Int.toNat_natCast] at ho9; obtain ⟨g9, c9, hv9, -, hgo9, -⟩ := Kd.R_form ho9 (by rw [List.length_replicate]; exact hn0); rw [List.length_replicate] at hv9; subst hv9; have HO9 := Aside0.mk ho9; have HB9 := Aside0.mk hb9; have HG9 := Aside0.mk hg9; have HX9 := Aside0.mk (blk_grown HX8.out hg9 (by simp)); have q0 := (blk_cell HX9.out 0).trans rfl; have q1 := (blk_cell HX9.out 1).trans rfl; clear ho9 hb9 hg9 hn9 k0 k1)
        | (refine Kd.R_make (Kd.int .i64) (w0 := w) w.heap.size 3 rfl (N := 46) rfl 24 _ _ rfl (s.nodes.length : Int) rfl rfl Tryd.underlying24 (.int .i64 0) 8 info_int rfl (by decide) (by omega) 0 (ok := fun _ => True) (okp := fun _ => True) rfl (fun _ hk => hk) trivial (by omega) (by omega) HB9.out HB9.out.size ?_; intro v10 w10 ho10 hb10 hg10 hn10; rw [Int.toNat_natCast] at ho10; obtain ⟨g10, c10, hv10, -, hgo10, -⟩ := Kd.R_form ho10 (by rw [List.length_replicate]; exact hn0); rw [List.length_replicate] at hv10; subst hv10; have HO10 := Aside0.mk ho10; have HB10 := Aside0.mk hb10; have HG10 := Aside0.mk hg10; have HN10 := Aside0.mk hn10; have HX10 := Aside0.mk (blk_grown HX9.out hg10 (by simp)); have r0 := (blk_cell HX10.out 0).trans rfl; have r1 := (blk_cell HX10.out 1).trans rfl; clear ho10 hb10 hg10 hn10 q0 q1))
      have HI := Aside0.mk (show Up1 s A c w w2.heap.size g9 c9 g10 c10 (.slice none 0 0) 0 0 0 w10 from
        ⟨blk_grown (blk_grown H8.out HG9.out (by simp)) HG10.out (by simp), Kd.S_nil _ _ _ _ _, by
          rw [fillTo_zero]
          exact Kd.R_below (Kd.R_mono (Kd.R_bound HO9.out) (fun k hk e => by
            obtain ⟨b, hb1, hb2⟩ := HN10.out
            have : g10 = b := by simpa [Value.ownBlock] using hb1
            have := hk.2.2.1
            omega)) (below_of_grown HG10.out), by rw [fillTo_zero]; exact HO10.out, HX10.out, blk_grown (blk_grown HL8.out HG9.out (by simp)) HG10.out (by simp), by have := blk_lt HL2.out; exact this, HB10.out⟩)
      clear r0 r1 HO9 HO10 HG9 HG10 HN10 HX9 HX10 HX8 HL8 H8 HB8 HB9 HB10 hgo9 hgo10
      go_loopw [50] (fun v50 W => ∃ i : Nat, i ≤ s.nodes.length ∧ v50 = .int .i64 i ∧ ∃ v, Aside0 (Up1 s A c w w2.heap.size g9 c9 g10 c10 v i i i W)) (fun v50 _ => s.nodes.length - (intOf v50).toNat)
      case atStart => exact ⟨0, by omega, rfl, _, HI⟩
      case round =>
        clear HI
        obtain ⟨i, hi, rfl, v, HI⟩ := hrel
        by_cases hlt : i < s.nodes.length
        · obtain ⟨Av, cv, hv⟩ := Kd.S_slice HI.out.nodes
          rw [mix_len] at hv
          subst hv
          obtain ⟨adn, A1, c1, A2, c2, A3, c3, rfl, x0, x1, x2, x3, hN⟩ := at_node HR.out i hlt
          replace x0 := pw_cell_below HI.out.below x0
          replace x1 := pw_cell_below HI.out.below x1
          replace x2 := pw_cell_below HI.out.below x2
          replace x3 := pw_cell_below HI.out.below x3
          have HN := Aside0.mk hN
          have hba := below_alloc (Below.refl wr.heap.size wr) (.cells #[.int .i64 (nd s.nodes i).kind, .slice A1 (nd s.nodes i).ints.length c1, .slice A2 (nd s.nodes i).texts.length c2, .slice A3 (nd s.nodes i).kids.length c3] 26)
          have hbx : (wr.alloc (.cells #[.int .i64 (nd s.nodes i).kind, .slice A1 (nd s.nodes i).ints.length c1, .slice A2 (nd s.nodes i).texts.length c2, .slice A3 (nd s.nodes i).kids.length c3] 26)).heap[wr.heap.size]? = some (.cells #[.int .i64 (nd s.nodes i).kind, .slice A1 (nd s.nodes i).ints.length c1, .slice A2 (nd s.nodes i).texts.length c2, .slice A3 (nd s.nodes i).kids.length c3] 26 (0, 0)) := by simpa using heap_alloc_new wr _
          have HBA := Aside0.mk hba
          have y0 := (blk_cell hbx 0).trans rfl
          have y1 := (blk_cell hbx 1).trans rfl
          have y2 := (blk_cell hbx 2).trans rfl
          have y3 := (blk_cell hbx 3).trans rfl
          have s6 : (wr.alloc (.cells #[.int .i64 (nd s.nodes i).kind, .slice A1 (nd s.nodes i).ints.length c1, .slice A2 (nd s.nodes i).texts.length c2, .slice A3 (nd s.nodes i).kids.length c3] 26)).heap.size = wr.heap.size + 1 := by simp
          have S6 := Aside0.mk s6
          clear hN hba hbx s6
          go_wp2_with fail
          refine (upnode_ok (nd s.nodes i) A1 c1 A2 c2 A3 c3 _ (HN.out.below (below_step HI.out.below HBA.out)) (HS.out i hlt) (HTS.out i hlt) (HT.out.below (below_step HI.out.below HBA.out)) (typedS_zero HZ1.out i hlt)).mono ?_
          rintro e w6 ⟨gl, cl, rfl, hS6, hB6⟩
          rw [S6.out] at hS6
          obtain ⟨m, hm⟩ : ∃ m, upLen (nd s.nodes i) = m + 1 := ⟨upLen (nd s.nodes i) - 1, by have := upLen_pos (nd s.nodes i); omega⟩
          have HMm := Aside0.mk hm
          have hm1 : m ≤ 1 := by have := upLen_le (nd s.nodes i); omega
          have HBw := Aside0.mk (below_step HBA.out hB6)
          have HU6 := Aside0.mk (HI.out.later HBw.out)
          obtain ⟨⟨u9, hu9⟩, hf9, hU7, hg7⟩ := HU6.out.upper hlt
          have hlcap := (Kd.S_reads' hS6).2.1
          have HJ0 := Aside0.mk (show UpI s w wr (wr.heap.size + 1) gl cl g9 c9 g10 i 0 (w6.setCell ⟨g9, i, none⟩ (.int .i64 (pos s.nodes i : Int))) from
            ⟨grown_below HBw.out hg7, hU7.up, ⟨by
              rw [if_pos rfl]
              have h1 : Kd.S kNode 26 w6 w.heap.size (fun k => wr.heap.size + 1 ≤ k) (.slice (some ⟨gl, 0, none⟩) (upLen (nd s.nodes i)) cl) (upK (nd s.nodes i) 0 (nd s.nodes i).kids) := by
                obtain ⟨f, hf⟩ := hS6
                exact ⟨f, Kd.R_lower (Kd.R_mono (Kd.R_bound hf) (fun k hk => hk.2.1)) (Nat.le_trans HI.out.below.size (Nat.le_succ _))⟩
              exact Kd.S_far (p := ⟨g9, i, none⟩) h1 (fun k hk => by have := HI.out.lt9; show k ≠ g9; omega) _, Nat.zero_le _⟩, Nat.le_succ _⟩)
          have z0 := (blk_cell HU6.out.box 0).trans rfl
          have hpl := pos_le s.nodes i
          rw [hm] at hlcap ⊢
          clear hm hS6 hB6 hU7 hg7 x0 x1 x2 x3 y0 y1 y2 y3
          go_wp2
          clear hu9 hf9 z0
          generalize (w6.setCell ⟨g9, i, none⟩ (.int .i64 (pos s.nodes i : Int))) = w7 at HJ0 ⊢
          obtain ⟨W0, hW0⟩ : ∃ W, W = wr := ⟨_, rfl⟩
          rw [← hW0] at HI HJ0 HBw
          go_loopw [72] (fun v72 W => ∃ j : Nat, j ≤ m ∧ v72 = .int .i64 j ∧ Aside0 (UpI s w W0 (W0.heap.size + 1) gl cl g9 c9 g10 i j W)) (fun v72 _ => m - (intOf v72).toNat)
          case atStart => exact ⟨0, by omega, rfl, HJ0⟩
          case round =>
            clear HJ0
            obtain ⟨j, hj, rfl, HJ⟩ := hrel
            have HU8 := Aside0.mk (HI.out.into HJ.out.grown HJ.out.up)
            have z0 := (blk_cell HU8.out.box 0).trans rfl
            by_cases hjl : j < m
            · obtain ⟨rfl, e2, gk, ck, k1, k2, ⟨xk, k3⟩, k4, hJ5⟩ := HJ.out.step (by have := HI.out.lt9; omega) (by rw [HMm.out]; omega)
              have HJ5 := Aside0.mk hJ5
              obtain rfl : m = 1 := by omega
              have hw1 : IntKind.i64.wrap ((pos s.nodes i : Int) + 1) = (pos s.nodes i : Int) + 1 := wrap_i (by omega) (by omega)
              clear hJ5 e2
              go_wp2
              go_region
              have HJ6 := Aside0.mk HJ5.out.drew
              clear HJ5 k1 k3 k4 z0
              go_wp2
              go_roundw
              case rel => exact ⟨1, by omega, by first | rfl | go_num, HJ6⟩
              case measure => simp [intOf]
            · obtain rfl : j = m := by omega
              have HY := Aside0.mk (UpL.done (show UpL s w (W0.heap.size + 1) gl cl i (upLen (nd s.nodes i) - 1) wr from by rw [HMm.out]; exact HJ.out.l))
              have HO := Aside0.mk (HI.out.elder HJ.out.grown)
              have hp1 : pos s.nodes (i + 1) = pos s.nodes i + j + 1 := by rw [pos_succ, HMm.out]; omega
              have HP1 := Aside0.mk hp1
              have hw2 : IntKind.i64.wrap (((pos s.nodes i + (j + 1) : Nat) : Int) - 1) = ((pos s.nodes i + j : Nat) : Int) := by rw [wrap_i (by omega) (by omega)]; omega
              rw [HMm.out] at HY
              clear hp1
              go_wp2_with (at_builtin; refine S_append_rows kNode (w0 := w) w.heap.size rfl (.tmp 89) (.tmp 90) 30 26 (.agg #[.int .i64 0, .slice none 0 0, .slice none 0 0, .slice none 0 0]) 80 rfl Tryd.underlying30 info_nodez rfl (by decide) (by omega) (.slice Av (pos s.nodes i) cv) (mix s.nodes i 0) (upK (nd s.nodes i) ((pos s.nodes i : Int) + 1) (nd s.nodes i).kids) (some ⟨gl, 0, none⟩) (j + 1) cl (fun k => (k ≠ g9 ∧ k ≠ g10) ∧ k < W0.heap.size) (fun k => W0.heap.size + 1 ≤ k) rfl rfl HO.out HY.out (fun k h1 h2 => by have := h2.2; omega) HU8.out.below HU8.out.below.size (by rw [mix_len]; omega) ?_; intro v4 w4 hS4 hB4 hg4 _; obtain ⟨A4, c4, hv4⟩ := Kd.S_slice hS4; rw [List.length_append, mix_len, upK_len, HMm.out] at hv4; have hm4 : mix s.nodes i 0 ++ upK (nd s.nodes i) ((pos s.nodes i : Int) + 1) (nd s.nodes i).kids = mix s.nodes (i + 1) 0 := (by rw [mix_succ, if_neg (by omega)]); rw [hm4] at hS4; have hpp := HU8.out.push (B := W0.heap.size + 1) (by have := HI.out.lt9; omega) (by have := HI.out.lt10; omega) (Kd.S_mono hS4 (fun k hk => hk.elim (fun h => .inl h.1) .inr)) hB4 hg4; obtain ⟨⟨u4, p1⟩, p2, p3⟩ := hpp; subst hv4; have z9 := (blk_cell p3.box 0).trans rfl; obtain ⟨⟨u10, r1⟩, r2, r3⟩ := p3.lower hlt; have HU9 := Aside0.mk r3; clear hS4 hB4 hg4 hm4 p3 r3)
              go_roundw
              case rel =>
                have e : ((pos s.nodes (i + 1) - 1 : Nat) : Int) = (pos s.nodes i : Int) + ((j : Int) + 1) - 1 := by rw [HP1.out]; omega
                have hh := HU9.out
                rw [e] at hh
                exact ⟨i + 1, by omega, by go_num, _, ⟨hh⟩⟩
              case measure => simp [intOf]; omega
        · obtain rfl : i = s.nodes.length := by omega
          have hpp : 0 < pos s.nodes s.nodes.length := Nat.lt_of_lt_of_le (by rw [pos_succ]; have := upLen_pos (nd s.nodes 0); omega) (pos_mono s.nodes (show 0 + 1 ≤ s.nodes.length from hn0))
          obtain ⟨gv, cv, rfl, h3⟩ := Up3.start rfl hpp HI.out
          have H3 := Aside0.mk h3
          have hpl := pos_le s.nodes s.nodes.length
          clear h3 HI
          go_wp2
          go_loopw [103] (fun v103 W => ∃ p : Nat, p ≤ s.nodes.length ∧ v103 = .int .i64 p ∧ Aside0 (Up3 s A c w w2.heap.size g9 c9 g10 c10 gv cv (mix s.nodes s.nodes.length p) W)) (fun v103 _ => s.nodes.length - (intOf v103).toNat)
          case atStart => exact ⟨0, by omega, rfl, H3⟩
          case round =>
            clear H3
            obtain ⟨p, hp, rfl, H3⟩ := hrel
            have z0 := (blk_cell H3.out.box 0).trans rfl
            by_cases hpn : p < s.nodes.length
            · obtain ⟨l1, l1f⟩ := ints_cell H3.out.la p hpn
              rw [fillTo_rd _ _ _ _ hpn hpn] at l1
              obtain ⟨q, hq⟩ : ∃ q, pos s.nodes (p + 1) - 1 = q := ⟨_, rfl⟩
              have HQ := Aside0.mk hq
              have hqn : q < pos s.nodes s.nodes.length := by rw [← hq]; exact pos_lt s.nodes hpn
              have l2 : wr.cell? ⟨g10, p, none⟩ = some (.int .i64 (q : Int)) := by rw [l1]; unfold lastI; rw [hq]
              have HMix := Aside0.mk (mix_set s.nodes s.nodes.length p hpn)
              rw [hq] at HMix
              obtain ⟨A3, c3, kh, -⟩ := kids_read H3.out.nodes q hqn
              rw [HMix.out.1] at kh
              have hlq : q < (mix s.nodes s.nodes.length p).length := by rw [mix_len]; exact hqn
              have hkM := (HS.out p hpn).2.2
              have HK0 := Aside0.mk (show Up3 s A c w w2.heap.size g9 c9 g10 c10 gv cv (half s.nodes (mix s.nodes s.nodes.length p) q 0) wr ∧ wr.cell? ⟨gv, q * 4 + 3, none⟩ = some (.slice A3 (nd s.nodes p).kids.length c3) from ⟨by rw [half_zero]; exact H3.out, kh⟩)
              clear l1 l1f hq
              go_wp2
              clear l2 kh z0
              go_loopw [115] (fun v115 W => ∃ j : Nat, j ≤ (nd s.nodes p).kids.length ∧ v115 = .int .i64 j ∧ Aside0 (Up3 s A c w w2.heap.size g9 c9 g10 c10 gv cv (half s.nodes (mix s.nodes s.nodes.length p) q j) W ∧ W.cell? ⟨gv, q * 4 + 3, none⟩ = some (.slice A3 (nd s.nodes p).kids.length c3))) (fun v115 _ => (nd s.nodes p).kids.length - (intOf v115).toNat)
              case atStart => exact ⟨0, by omega, rfl, HK0⟩
              case round =>
                clear HK0
                obtain ⟨j, hj, rfl, HK⟩ := hrel
                by_cases hjl : j < (nd s.nodes p).kids.length
                · obtain ⟨t1, t2, t3⟩ := half_step s.nodes (mix s.nodes s.nodes.length p) q j hlq (by rw [HMix.out.1]; exact hjl)
                  rw [HMix.out.1] at t1 t2 t3
                  obtain ⟨gk, ck, k1, k2, k3, k4⟩ := HK.out.1.write q hqn j (by rw [t3]; exact hjl)
                  rw [t3, HK.out.2] at k1
                  injection k1 with k1
                  injection k1 with kA _ kc
                  subst kA kc
                  have HPl := Aside0.mk (HRt.out.pl p hpn _ (rd_mem hjl))
                  obtain ⟨k, hk⟩ : ∃ k : Nat, rd (nd s.nodes p).kids (j : Int) = (k : Int) := ⟨(rd (nd s.nodes p).kids (j : Int)).toNat, by have := HPl.out.1; omega⟩
                  have hkn : k < s.nodes.length := by have := HPl.out.2; omega
                  obtain ⟨u1, -⟩ := ints_cell HK.out.1.up k hkn
                  rw [fillTo_rd _ _ _ _ hkn hkn] at u1
                  obtain ⟨k5, k6⟩ := k4 ((pos s.nodes k : Nat) : Int)
                  rw [t2, hk] at k2
                  rw [hk, Int.toNat_natCast] at t1
                  rw [t1] at k5
                  rw [t3] at k6
                  have HK2 := Aside0.mk (And.intro k5 k6)
                  have u2 : wr.cell? ⟨g9, k, none⟩ = some (.int .i64 ((pos s.nodes k : Nat) : Int)) := u1
                  clear k4 k5 k6 t1 t2 t3 hk u1
                  go_wp2
                  go_roundw
                  case rel => exact ⟨j + 1, by omega, by go_num, HK2⟩
                  case measure => simp [intOf]; omega
                · obtain rfl : j = (nd s.nodes p).kids.length := by omega
                  have hfin := HK.out.1
                  have e5 := half_done s.nodes (mix s.nodes s.nodes.length p) q
                  rw [HMix.out.1] at e5
                  rw [e5, HMix.out.2] at hfin
                  have HF := Aside0.mk hfin
                  clear hfin e5
                  go_wp2
                  go_roundw
                  case rel => exact ⟨p + 1, by omega, by go_num, HF⟩
                  case measure => simp [intOf]; omega
            · obtain rfl : p = s.nodes.length := by omega
              obtain ⟨r, hr⟩ : ∃ r : Nat, s.root = (r : Int) := ⟨s.root.toNat, by have := HRt.out.r0; omega⟩
              have HRr := Aside0.mk hr
              have hrn : r < s.nodes.length := by have := HRt.out.r1; omega
              obtain ⟨u1, -⟩ := ints_cell H3.out.up r hrn
              rw [fillTo_rd _ _ _ _ hrn hrn] at u1
              have u2 : wr.cell? ⟨g9, r, none⟩ = some (.int .i64 ((pos s.nodes r : Nat) : Int)) := u1
              have s1 : wr.cell? ⟨w.heap.size, 1, none⟩ = some (.int .i64 (r : Int)) := by rw [← hr]; exact (blk_cell H3.out.src 1).trans rfl
              have z1 := (blk_cell H3.out.box 1).trans rfl
              have z1f := blk_frozen H3.out.box 1
              have hb := blk_set H3.out.box 1 (.int .i64 ((pos s.nodes r : Nat) : Int))
              have hb0 := H3.out.b0
              have hbn : (wr.setCell ⟨w2.heap.size, 1, none⟩ (.int .i64 ((pos s.nodes r : Nat) : Int))).heap[w2.heap.size]? = some (.cells #[.slice (some ⟨gv, 0, none⟩) (pos s.nodes s.nodes.length) cv, .int .i64 ((pos s.nodes r : Nat) : Int)] 39 (0, 0)) := by simpa using hb
              have y0 := (blk_cell hbn 0).trans rfl
              have y1 := (blk_cell hbn 1).trans rfl
              have HS9 := Aside0.mk (S_type H3.out.nodes H3.out.box (by decide) (.int .i64 ((pos s.nodes r : Nat) : Int)) 1)
              have HB9 := Aside0.mk (below_set (j := 1) (v := .int .i64 ((pos s.nodes r : Nat) : Int)) H3.out.below (show w.heap.size ≤ w2.heap.size by omega))
              have HL9 := Aside0.mk ((Below.heap_setCell wr ⟨w2.heap.size, 1, none⟩ (.int .i64 ((pos s.nodes r : Nat) : Int)) (w.heap.size + 1) (by show w.heap.size + 1 ≠ w2.heap.size; omega)).trans H3.out.res)
              have hroot : (upS s).root = ((pos s.nodes r : Nat) : Int) := by unfold upS; rw [hr, Int.toNat_natCast]
              have HRoot := Aside0.mk hroot
              have HLen := Aside0.mk (show (upS s).nodes.length = pos s.nodes s.nodes.length from mix_len _ _ _)
              clear hr u1 hb hbn z0 hroot
              go_wp2_with fail
              have hcan := canon_any (some ⟨gv, 0, none⟩) cv (upS s) (wr.setCell ⟨w2.heap.size, 1, none⟩ (.int .i64 ((pos s.nodes r : Nat) : Int))) (show kNode.C _ (some ⟨gv, 0, none⟩) (mix s.nodes s.nodes.length s.nodes.length).length (mix s.nodes s.nodes.length s.nodes.length) from (Kd.R_reads' (Kd.S_R HS9.out)).2.2) (by have h1 := upS_rows s; have h2 := HM.out; omega) (upS_small HS.out)
              rw [HLen.out, HRoot.out] at hcan
              refine hcan.mono ?_
              rintro e w9 ⟨A9, c9', rfl, hR9, hB9⟩
              have hl9 := (hB9.block _ (blk_lt HL9.out)).trans HL9.out
              have HLw := Aside0.mk hl9
              have HR9 := Aside0.mk (Kd.R_lower hR9 HB9.out.size)
              have HBf := Aside0.mk (below_step HB9.out hB9)
              have l0 := (blk_cell hl9 0).trans rfl
              have l0f := blk_frozen hl9 0
              have l1 := (blk_cell (blk_set hl9 0 (.slice A9 (canonR (upS s)).nodes.length c9')) 1).trans rfl
              have l1f := blk_frozen (blk_set hl9 0 (.slice A9 (canonR (upS s)).nodes.length c9')) 1
              clear hcan hl9 hR9 hB9 y0 y1 s1 u2 z1 z1f
              go_wp2
              have h2 := And.intro ((blk_cell (box2 HLw.out (.slice A9 (canonR (upS s)).nodes.length c9') (.int .i64 (canonR (upS s)).root)) 0).trans rfl) ((blk_cell (box2 HLw.out (.slice A9 (canonR (upS s)).nodes.length c9') (.int .i64 (canonR (upS s)).root)) 1).trans rfl)
              exact bodyPost_ret (v := .tuple #[.agg #[.slice A9 (canonR (upS s)).nodes.length c9', .int .i64 (canonR (upS s)).root], .int .i64 (gcheck (upS s)).1]) (by simp [results, Tryd.results19, go_sem, h2]) rfl
                ⟨A9, c9', by rw [HE.out.1, HE.out.2], by
                  rw [HE.out.2]
                  exact R_type (R_type HR9.out HLw.out (by decide) _ 0) (blk_set HLw.out 0 _) (by decide) _ 1, below_set2 HBf.out (by omega)⟩
    · have HE : Aside0 (upErr s = (gcheck s).1 ∧ upRes s = ⟨[], 0⟩) := ⟨by unfold upErr; rw [if_pos HZ1.out, if_neg hz2], by unfold upRes; rw [if_pos HZ1.out, if_neg hz2]⟩
      have dz : ((gcheck s).1 != 0) = true := by simpa using hz2
      have l0 := (blk_cell HL2.out 0).trans rfl
      have l0f := blk_frozen HL2.out 0
      have l1 := (blk_cell (blk_set HL2.out 0 (.slice none 0 0)) 1).trans rfl
      have l1f := blk_frozen (blk_set HL2.out 0 (.slice none 0 0)) 1
      clear hz2
      go_wp2
      have h2 := And.intro ((blk_cell (box2 HL2.out (.slice none 0 0) (.int .i64 0)) 0).trans rfl) ((blk_cell (box2 HL2.out (.slice none 0 0) (.int .i64 0)) 1).trans rfl)
      exact bodyPost_ret (v := .tuple #[.agg #[.slice none 0 0, .int .i64 0], .int .i64 (gcheck s).1]) (by simp [results, Tryd.results19, go_sem, h2]) rfl
        ⟨none, 0, by rw [HE.out.1, HE.out.2]; rfl, by rw [HE.out.2]; exact Kd.R_nil _ _ _ _ _, below_set2 HB2.out (by omega)⟩
  · have HE : Aside0 (upErr s = (typedS oldTab s.nodes).1 ∧ upRes s = ⟨[], 0⟩) := ⟨by unfold upErr; rw [if_neg hz1], by unfold upRes; rw [if_neg hz1]⟩
    have dz : ((typedS oldTab s.nodes).1 != 0) = true := by simpa using hz1
    have l0 := (blk_cell HL1.out 0).trans rfl
    have l0f := blk_frozen HL1.out 0
    have l1 := (blk_cell (blk_set HL1.out 0 (.slice none 0 0)) 1).trans rfl
    have l1f := blk_frozen (blk_set HL1.out 0 (.slice none 0 0)) 1
    clear hz1
    go_wp2
    have h2 := And.intro ((blk_cell (box2 HL1.out (.slice none 0 0) (.int .i64 0)) 0).trans rfl) ((blk_cell (box2 HL1.out (.slice none 0 0) (.int .i64 0)) 1).trans rfl)
    exact bodyPost_ret (v := .tuple #[.agg #[.slice none 0 0, .int .i64 0], .int .i64 (typedS oldTab s.nodes).1]) (by simp [results, Tryd.results19, go_sem, h2]) rfl
      ⟨none, 0, by rw [HE.out.1, HE.out.2]; rfl, by rw [HE.out.2]; exact Kd.R_nil _ _ _ _ _, below_set2 HB1.out (by omega)⟩
end Go.Proofs.YtglfebpgdghlfaaDoor.L
end
section
namespace Go.Proofs.YtglfebpgdghlfaaDoor.L
open Go.RowKit Go.ChangeShapes Go.WideShapes Go.Proofs.YtglfebpgdghlfaaDoorW.PrintWords Go.Proofs.YtglfebpgdghlfaaDoorW.PrintLast Go.Proofs.YtglfebpgdghlfaaDoorW.PrintMore
attribute [local go_sem] max2_int min2_int max_two min_two max_three min_three max_four min_four
def greatN (n : Node) : Bool := decide (100 < n.ints.length ∨ 100 < n.texts.length ∨ 300 < n.kids.length ∨ ∃ j, j < n.texts.length ∧ 500 < (str n.texts j).size)
set_option maxRecDepth 100000 in
set_option maxHeartbeats 2000000 in
theorem great_any (n : Node) (A1 : Option Addr) (c1 : Nat) (A2 : Option Addr) (c2 : Nat) (A3 : Option Addr) (c3 : Nat) (w : World) (h : NodeC w n A1 c1 A2 c2 A3 c3) :
    Calls Tryd.prog 12 #[.agg #[.int .i64 n.kind, .slice A1 n.ints.length c1, .slice A2 n.texts.length c2, .slice A3 n.kids.length c3]] w fun e w' => e = .returned (.bool (greatN n)) ∧ Below w.heap.size w w' := by
  have HN := Aside0.mk h
  have b2 := h.t.2.1
  have hB := below_alloc (Below.refl w.heap.size w) (.cells #[.int .i64 n.kind, .slice A1 n.ints.length c1, .slice A2 n.texts.length c2, .slice A3 n.kids.length c3] 26)
  have HB := Aside0.mk hB
  have HX := Aside0.mk (show (w.alloc (.cells #[.int .i64 n.kind, .slice A1 n.ints.length c1, .slice A2 n.texts.length c2, .slice A3 n.kids.length c3] 26)).heap[w.heap.size]? = some (.cells #[.int .i64 n.kind, .slice A1 n.ints.length c1, .slice A2 n.texts.length c2, .slice A3 n.kids.length c3] 26 (0, 0)) from by simpa using heap_alloc_new w _)
  have k1 := (blk_cell HX.out 1).trans rfl
  have k2 := (blk_cell HX.out 2).trans rfl
  have k3 := (blk_cell HX.out 3).trans rfl
  have hun := Tryd.underlying26
  clear h hB
  by_cases h1 : 100 < n.ints.length
  · have HE : Aside0 (greatN n = true) := ⟨decide_eq_true (.inl h1)⟩
    have d1 : decide (100 < (n.ints.length : Int)) = true := decide_eq_true (by omega)
    clear h1
    go_enter Tryd.func12, Tryd.ntmps12
    go_wp2
    go_ret
    exact ⟨ret_bool HE.out.symm, HB.out⟩
  have d1 : decide (100 < (n.ints.length : Int)) = false := decide_eq_false (by omega)
  by_cases h2 : 100 < n.texts.length
  · have HE : Aside0 (greatN n = true) := ⟨decide_eq_true (.inr (.inl h2))⟩
    have d2 : decide (100 < (n.texts.length : Int)) = true := decide_eq_true (by omega)
    clear h1 h2
    go_enter Tryd.func12, Tryd.ntmps12
    go_wp2
    go_ret
    exact ⟨ret_bool HE.out.symm, HB.out⟩
  have d2 : decide (100 < (n.texts.length : Int)) = false := decide_eq_false (by omega)
  by_cases h3 : 300 < n.kids.length
  · have HE : Aside0 (greatN n = true) := ⟨decide_eq_true (.inr (.inr (.inl h3)))⟩
    have d3 : decide (300 < (n.kids.length : Int)) = true := decide_eq_true (by omega)
    clear h1 h2 h3
    go_enter Tryd.func12, Tryd.ntmps12
    go_wp2
    go_ret
    exact ⟨ret_bool HE.out.symm, HB.out⟩
  have d3 : decide (300 < (n.kids.length : Int)) = false := decide_eq_false (by omega)
  have H123 : Aside0 (¬ 100 < n.ints.length ∧ ¬ 100 < n.texts.length ∧ ¬ 300 < n.kids.length) := ⟨h1, h2, h3⟩
  clear h1 h2 h3
  go_enter Tryd.func12, Tryd.ntmps12
  go_wp2
  clear d1 d2 d3
  go_loopw [3] (fun v3 W => ∃ i : Nat, i ≤ n.texts.length ∧ v3 = .int .i64 i ∧ W = w.alloc (.cells #[.int .i64 n.kind, .slice A1 n.ints.length c1, .slice A2 n.texts.length c2, .slice A3 n.kids.length c3] 26) ∧ Aside0 (∀ j, j < i → ¬ 500 < (str n.texts j).size)) (fun v3 _ => n.texts.length - (intOf v3).toNat)
  case atStart => exact ⟨0, by omega, rfl, by first | rfl | trivial, ⟨fun j h => by omega⟩⟩
  case round =>
    obtain ⟨i, hi, rfl, rfl, HA⟩ := hrel
    by_cases hlt : i < n.texts.length
    · obtain ⟨ad, rfl, x⟩ := at_str (Kd.C_below HN.out.t HB.out) i hlt
      by_cases hg : 500 < (str n.texts i).size
      · have HE : Aside0 (greatN n = true) := ⟨decide_eq_true (.inr (.inr (.inr ⟨i, hlt, hg⟩)))⟩
        have d5 : decide (500 < ((str n.texts i).size : Int)) = true := decide_eq_true (by omega)
        clear hg
        go_wp2
        go_ret
        exact ⟨ret_bool HE.out.symm, HB.out⟩
      · have HA2 := Aside0.mk (ext_lt HA.out hg)
        have d5 : decide (500 < ((str n.texts i).size : Int)) = false := decide_eq_false (by omega)
        clear hg
        go_wp2
        go_roundw
        case rel => exact ⟨i + 1, by omega, by go_num, by first | rfl | trivial, HA2⟩
        case measure => simp [intOf]; omega
    · obtain rfl : i = n.texts.length := by omega
      have HE : Aside0 (greatN n = false) := ⟨decide_eq_false (fun h => by
        rcases h with h | h | h | ⟨j, hj, h⟩
        · exact H123.out.1 h
        · exact H123.out.2.1 h
        · exact H123.out.2.2 h
        · exact HA.out j hj h)⟩
      go_wp2
      go_ret
      exact ⟨ret_bool HE.out.symm, HB.out⟩
end Go.Proofs.YtglfebpgdghlfaaDoor.L
end
section
namespace Go.Proofs.YtglfebpgdghlfaaDoor.L
open Go.RowKit Go.ChangeShapes Go.WideShapes Go.Proofs.YtglfebpgdghlfaaDoorW.PrintWords Go.Proofs.YtglfebpgdghlfaaDoorW.PrintLast Go.Proofs.YtglfebpgdghlfaaDoorW.PrintMore
attribute [local go_sem] max2_int min2_int max_two min_two max_three min_three max_four min_four
structure SetV where
  text : Bool
  field : Int
  n : Int
  s : ByteArray
def kSet : Kd SetV := Kd.iso (Kd.pair Kd.bool (Kd.pair (Kd.int .i64) (Kd.pair (Kd.int .i64) Kd.string))) (fun x : SetV => (x.text, x.field, x.n, x.s))
theorem kSet_mk (w : World) (base : Nat) (ok : Nat → Prop) (x : SetV) : kSet.M w base ok x [.bool x.text, .int .i64 x.field, .int .i64 x.n, .string x.s] := ⟨[_], [_, _, _], rfl, rfl, ⟨[_], [_, _], rfl, rfl, ⟨[_], [_], rfl, rfl, rfl⟩⟩⟩
theorem info_set : (Tryd.prog.info? 84).map (fun i => (i.zero, i.size, i.bytes)) = some (some (.agg #[.bool false, .int .i64 0, .int .i64 0, .string ByteArray.empty]), 4, 40) := by kernel_rfl
def diffI (a b : List Int) (i : Nat) : List SetV := ((List.range i).filter (fun p : Nat => decide (¬ rd a (p : Int) = rd b (p : Int)))).map (fun p : Nat => ⟨false, (p : Int), rd b (p : Int), ByteArray.empty⟩)
def diffT (a b : List ByteArray) (i : Nat) : List SetV := ((List.range i).filter (fun p : Nat => decide (¬ str a p = str b p))).map (fun p : Nat => ⟨true, (p : Int), 0, str b p⟩)
theorem diffI_yes {a b : List Int} {i : Nat} (h : ¬ rd a (i : Int) = rd b (i : Int)) : diffI a b (i + 1) = diffI a b i ++ [⟨false, (i : Int), rd b (i : Int), ByteArray.empty⟩] := by
  unfold diffI
  rw [List.range_succ, List.filter_append, List.map_append, List.filter_cons, if_pos (decide_eq_true h)]
  rfl
theorem diffI_no {a b : List Int} {i : Nat} (h : rd a (i : Int) = rd b (i : Int)) : diffI a b (i + 1) = diffI a b i := by
  unfold diffI
  rw [List.range_succ, List.filter_append, List.map_append, List.filter_cons, if_neg (by simp [h])]
  simp
theorem diffT_yes {a b : List ByteArray} {i : Nat} (h : ¬ str a i = str b i) : diffT a b (i + 1) = diffT a b i ++ [⟨true, (i : Int), 0, str b i⟩] := by
  unfold diffT
  rw [List.range_succ, List.filter_append, List.map_append, List.filter_cons, if_pos (decide_eq_true h)]
  rfl
theorem diffT_no {a b : List ByteArray} {i : Nat} (h : str a i = str b i) : diffT a b (i + 1) = diffT a b i := by
  unfold diffT
  rw [List.range_succ, List.filter_append, List.map_append, List.filter_cons, if_neg (by simp [h])]
  simp
theorem diffI_len (a b : List Int) (i : Nat) : (diffI a b i).length ≤ i := by
  unfold diffI
  rw [List.length_map]
  exact Nat.le_trans (List.length_filter_le _ _) (by simp)
theorem diffT_len (a b : List ByteArray) (i : Nat) : (diffT a b i).length ≤ i := by
  unfold diffT
  rw [List.length_map]
  exact Nat.le_trans (List.length_filter_le _ _) (by simp)
def alike (a b : Node) : Bool := decide (a.kind = b.kind ∧ a.ints.length = b.ints.length ∧ a.texts.length = b.texts.length)
def diffL (a b : Node) : List SetV := if alike a b = true then diffI a.ints b.ints a.ints.length ++ diffT a.texts b.texts a.texts.length else []
theorem diffL_nil {a b : Node} (h : alike a b = true) : (diffL a b = [] ↔ a.ints = b.ints ∧ a.texts = b.texts) := by
  unfold diffL
  rw [if_pos h, List.append_eq_nil_iff]
  obtain ⟨_, h1, h2⟩ := of_decide_eq_true h
  unfold diffI diffT
  rw [List.map_eq_nil_iff, List.map_eq_nil_iff, List.filter_eq_nil_iff, List.filter_eq_nil_iff]
  constructor
  · rintro ⟨k1, k2⟩
    refine ⟨List.ext_getElem h1 (fun i i1 i2 => ?_), List.ext_getElem h2 (fun i i1 i2 => ?_)⟩
    · have := k1 i (List.mem_range.2 i1)
      rw [← rd_eq i1, ← rd_eq i2]
      simpa using this
    · have := k2 i (List.mem_range.2 i1)
      have e : str a.texts i = str b.texts i := by simpa using this
      unfold str at e
      rw [getD_eq _ i1, getD_eq _ i2] at e
      exact e
  · rintro ⟨k1, k2⟩
    exact ⟨fun i _ => by rw [k1]; simp, fun i _ => by rw [k2]; simp⟩
end Go.Proofs.YtglfebpgdghlfaaDoor.L
end
section
namespace Go.Proofs.YtglfebpgdghlfaaDoor.L
open Go.RowKit Go.ChangeShapes Go.WideShapes Go.Proofs.YtglfebpgdghlfaaDoorW.PrintWords Go.Proofs.YtglfebpgdghlfaaDoorW.PrintLast Go.Proofs.YtglfebpgdghlfaaDoorW.PrintMore
attribute [local go_sem] max2_int min2_int max_two min_two max_three min_three max_four min_four
theorem str_ne {x y : ByteArray} (h : ¬ x = y) : (!(x.toList == y.toList)) = true := by
  have : ¬ x.toList = y.toList := fun e => h (by
    rw [ByteArray.toList_eq, ByteArray.toList_eq] at e
    exact ByteArray.ext (Array.toList_inj.mp e))
  simp [this]
structure DRel (a b : Node) (A1 : Option Addr) (c1 : Nat) (A2 : Option Addr) (c2 : Nat) (A3 : Option Addr) (c3 : Nat) (B1 : Option Addr) (d1 : Nat) (B2 : Option Addr) (d2 : Nat) (B3 : Option Addr) (d3 : Nat) (w : World) (L : List SetV) (v : Value) (W : World) : Prop where
  row : kSet.R 84 W w.heap.size (fun _ => True) v L
  below : Below w.heap.size w W
  ba : W.heap[w.heap.size]? = some (.cells #[.int .i64 a.kind, .slice A1 a.ints.length c1, .slice A2 a.texts.length c2, .slice A3 a.kids.length c3] 26 (0, 0))
  bb : W.heap[w.heap.size + 1]? = some (.cells #[.int .i64 b.kind, .slice B1 a.ints.length d1, .slice B2 a.texts.length d2, .slice B3 b.kids.length d3] 26 (0, 0))
theorem DRel.drew {a b : Node} {A1 : Option Addr} {c1 : Nat} {A2 : Option Addr} {c2 : Nat} {A3 : Option Addr} {c3 : Nat} {B1 : Option Addr} {d1 : Nat} {B2 : Option Addr} {d2 : Nat} {B3 : Option Addr} {d3 : Nat} {w : World} {L : List SetV} {v : Value} {W : World} (h : DRel a b A1 c1 A2 c2 A3 c3 B1 d1 B2 d2 B3 d3 w L v W) : DRel a b A1 c1 A2 c2 A3 c3 B1 d1 B2 d2 B3 d3 w L v W.drew :=
  ⟨Kd.R_drew h.row, pw_below_drewN h.below 1, h.ba, h.bb⟩
def DiffPost (a b : Node) (w : World) (e : Ending) (w' : World) : Prop :=
  ∃ A c, e = .returned (.tuple #[.slice A (diffL a b).length c, .bool (alike a b)]) ∧ kSet.R 84 w' w.heap.size (fun _ => True) (.slice A (diffL a b).length c) (diffL a b) ∧ Below w.heap.size w w'
set_option maxRecDepth 100000 in
set_option maxHeartbeats 4000000 in
theorem diff_any (a b : Node) (A1 : Option Addr) (c1 : Nat) (A2 : Option Addr) (c2 : Nat) (A3 : Option Addr) (c3 : Nat) (B1 : Option Addr) (d1 : Nat) (B2 : Option Addr) (d2 : Nat) (B3 : Option Addr) (d3 : Nat) (w : World) (h : NodeC w a A1 c1 A2 c2 A3 c3) (h' : NodeC w b B1 d1 B2 d2 B3 d3) (hs : Small a) :
    Calls Tryd.prog 83 #[.agg #[.int .i64 a.kind, .slice A1 a.ints.length c1, .slice A2 a.texts.length c2, .slice A3 a.kids.length c3], .agg #[.int .i64 b.kind, .slice B1 b.ints.length d1, .slice B2 b.texts.length d2, .slice B3 b.kids.length d3]] w (DiffPost a b w) := by
  have HA := Aside0.mk h
  have HBn := Aside0.mk h'
  have hs1 := hs.1
  have hs2 := hs.2.1
  have hun := Tryd.underlying26
  have hset := Tryd.underlying84
  have HB := Aside0.mk (below_alloc (below_alloc (Below.refl w.heap.size w) (.cells #[.int .i64 a.kind, .slice A1 a.ints.length c1, .slice A2 a.texts.length c2, .slice A3 a.kids.length c3] 26)) (.cells #[.int .i64 b.kind, .slice B1 b.ints.length d1, .slice B2 b.texts.length d2, .slice B3 b.kids.length d3] 26))
  have HXa := Aside0.mk (show ((w.alloc (.cells #[.int .i64 a.kind, .slice A1 a.ints.length c1, .slice A2 a.texts.length c2, .slice A3 a.kids.length c3] 26)).alloc (.cells #[.int .i64 b.kind, .slice B1 b.ints.length d1, .slice B2 b.texts.length d2, .slice B3 b.kids.length d3] 26)).heap[w.heap.size]? = some (.cells #[.int .i64 a.kind, .slice A1 a.ints.length c1, .slice A2 a.texts.length c2, .slice A3 a.kids.length c3] 26 (0, 0)) from by
    have : (w.alloc (.cells #[.int .i64 a.kind, .slice A1 a.ints.length c1, .slice A2 a.texts.length c2, .slice A3 a.kids.length c3] 26)).heap[w.heap.size]? = some (.cells #[.int .i64 a.kind, .slice A1 a.ints.length c1, .slice A2 a.texts.length c2, .slice A3 a.kids.length c3] 26 (0, 0)) := by simpa using heap_alloc_new w _
    exact (Below.block (below_alloc (Below.refl _ _) _) _ (by simp)).trans this)
  have HXb := Aside0.mk (show ((w.alloc (.cells #[.int .i64 a.kind, .slice A1 a.ints.length c1, .slice A2 a.texts.length c2, .slice A3 a.kids.length c3] 26)).alloc (.cells #[.int .i64 b.kind, .slice B1 b.ints.length d1, .slice B2 b.texts.length d2, .slice B3 b.kids.length d3] 26)).heap[w.heap.size + 1]? = some (.cells #[.int .i64 b.kind, .slice B1 b.ints.length d1, .slice B2 b.texts.length d2, .slice B3 b.kids.length d3] 26 (0, 0)) from by
    have := heap_alloc_new (w.alloc (.cells #[.int .i64 a.kind, .slice A1 a.ints.length c1, .slice A2 a.texts.length c2, .slice A3 a.kids.length c3] 26)) (.cells #[.int .i64 b.kind, .slice B1 b.ints.length d1, .slice B2 b.texts.length d2, .slice B3 b.kids.length d3] 26)
    simpa using this)
  have a0 := (blk_cell HXa.out 0).trans rfl
  have a1 := (blk_cell HXa.out 1).trans rfl
  have a2 := (blk_cell HXa.out 2).trans rfl
  have q0 := (blk_cell HXb.out 0).trans rfl
  have q1 := (blk_cell HXb.out 1).trans rfl
  have q2 := (blk_cell HXb.out 2).trans rfl
  clear h h' hs
  have fin : ∀ W, alike a b = false → Below w.heap.size w W → DiffPost a b w (.returned (.tuple #[.slice none 0 0, .bool false])) W := fun W hf hB => by
    have hd : diffL a b = [] := by unfold diffL; rw [hf, if_neg (by simp)]
    exact ⟨none, 0, by rw [hd, hf]; rfl, by rw [hd]; exact Kd.R_nil _ _ _ _ _, hB⟩
  have FIN := Aside0.mk fin
  clear fin
  by_cases h1 : a.kind = b.kind
  · by_cases h2 : a.ints.length = b.ints.length
    · by_cases h3 : a.texts.length = b.texts.length
      · have HAl : Aside0 (alike a b = true) := ⟨decide_eq_true ⟨h1, h2, h3⟩⟩
        have dk : (a.kind != b.kind) = false := by simp [h1]
        have H23 := Aside0.mk (And.intro h2 h3)
        rw [← h2] at q1 HB HXa HXb a0 a1 a2 q0 q2 ⊢
        rw [← h3] at q1 HB HXa HXb a0 a1 a2 q0 q2 ⊢
        clear h1 h2 h3
        go_enter Tryd.func83, Tryd.ntmps83
        go_wp2
        have H0 := Aside0.mk (show DRel a b A1 c1 A2 c2 A3 c3 B1 d1 B2 d2 B3 d3 w (diffI a.ints b.ints 0) (.slice (some ⟨w.heap.size + 1 + 1, 0, none⟩) 0 0) (((w.alloc (.cells #[.int .i64 a.kind, .slice A1 a.ints.length c1, .slice A2 a.texts.length c2, .slice A3 a.kids.length c3] 26)).alloc (.cells #[.int .i64 b.kind, .slice B1 a.ints.length d1, .slice B2 a.texts.length d2, .slice B3 b.kids.length d3] 26)).alloc (.cells #[] 84)) from
          ⟨by have h := R_empty kSet 84 ((w.alloc (.cells #[.int .i64 a.kind, .slice A1 a.ints.length c1, .slice A2 a.texts.length c2, .slice A3 a.kids.length c3] 26)).alloc (.cells #[.int .i64 b.kind, .slice B1 a.ints.length d1, .slice B2 a.texts.length d2, .slice B3 b.kids.length d3] 26)) w.heap.size HB.out.size; rw [show (((w.alloc (.cells #[.int .i64 a.kind, .slice A1 a.ints.length c1, .slice A2 a.texts.length c2, .slice A3 a.kids.length c3] 26)).alloc (.cells #[.int .i64 b.kind, .slice B1 a.ints.length d1, .slice B2 a.texts.length d2, .slice B3 b.kids.length d3] 26)).heap.size) = w.heap.size + 1 + 1 from by simp] at h; exact h, below_step HB.out (below_alloc (Below.refl _ _) _), ((below_alloc (Below.refl _ _) _).block _ (blk_lt HXa.out)).trans HXa.out, ((below_alloc (Below.refl _ _) _).block _ (blk_lt HXb.out)).trans HXb.out⟩)
        clear a0 a1 a2 q0 q1 q2 dk
        go_loopw [7, 6] (fun v7 v6 W => ∃ i : Nat, i ≤ a.ints.length ∧ v7 = .int .i64 i ∧ Aside0 (DRel a b A1 c1 A2 c2 A3 c3 B1 d1 B2 d2 B3 d3 w (diffI a.ints b.ints i) v6 W)) (fun v7 _ _ => a.ints.length - (intOf v7).toNat)
        case atStart => exact ⟨0, by omega, rfl, H0⟩
        case round =>
          clear H0
          obtain ⟨i, hi, rfl, H0⟩ := hrel
          have a1 := (blk_cell H0.out.ba 1).trans rfl
          have q1 := (blk_cell H0.out.bb 1).trans rfl
          by_cases hlt : i < a.ints.length
          · obtain ⟨ad, rfl, x1⟩ := at_nat (Kd.C_below HA.out.i H0.out.below) i hlt
            obtain ⟨bd, rfl, x2⟩ := at_nat (Kd.C_below HBn.out.i H0.out.below) i (by rw [← H23.out.1]; exact hlt)
            by_cases he : rd a.ints (i : Int) = rd b.ints (i : Int)
            · have de : (rd a.ints (i : Int) != rd b.ints (i : Int)) = false := by simp [he]
              have H1 := Aside0.mk (show DRel a b (some ad) c1 A2 c2 A3 c3 (some bd) d1 B2 d2 B3 d3 w (diffI a.ints b.ints (i + 1)) _ wr.drew from by rw [diffI_no he]; exact H0.out.drew)
              clear he
              go_wp2
              go_region
              clear x1 x2 a1 q1
              go_wp2
              go_roundw
              case rel => exact ⟨i + 1, by omega, by go_num, H1⟩
              case measure => simp [intOf]; omega
            · have de : (rd a.ints (i : Int) != rd b.ints (i : Int)) = true := by simp [he]
              have HY := Aside0.mk (diffI_yes he)
              have hdl := diffI_len a.ints b.ints i
              clear he
              obtain ⟨Av, cv, hv⟩ := Kd.R_slice H0.out.row
              subst hv
              go_wp2
              go_region
              clear x1 a1 q1 x2
              have H1 := Aside0.mk H0.out.drew
              clear H0
              generalize wr.drew = W2 at H1 ⊢
              have q1 := (blk_cell H1.out.bb 1).trans rfl
              obtain ⟨bd', he', x2⟩ := at_nat (Kd.C_below HBn.out.i H1.out.below) i (by rw [← H23.out.1]; exact hlt)
              injection he' with he'
              subst he'
              go_wp2_with (at_builtin; refine Kd.R_append kSet (w0 := w) w.heap.size rfl (.tmp 51) (.tmp 59) 58 84 (.agg #[.bool false, .int .i64 0, .int .i64 0, .string ByteArray.empty]) 40 rfl Tryd.underlying58 info_set rfl (by decide) (by omega) (.slice Av (diffI a.ints b.ints i).length cv) (diffI a.ints b.ints i) ⟨false, (i : Int), rd b.ints (i : Int), ByteArray.empty⟩ [.bool false, .int .i64 (i : Int), .int .i64 (rd b.ints (i : Int)), .string ByteArray.empty] (fun _ => True) (fun _ => False) rfl (by go_simp) (kSet_mk _ _ _ _) (fun _ h => h.elim) (fun _ _ => trivial) H1.out.row H1.out.below H1.out.below.size (by omega) ?_; intro v2 w3 hR2 hB2 hg2 hat2; have H3 := Aside0.mk (show DRel a b (some ad) c1 A2 c2 A3 c3 (some bd) d1 B2 d2 B3 d3 w (diffI a.ints b.ints (i + 1)) v2 w3 from ⟨by rw [HY.out]; exact hR2, hB2, blk_grown H1.out.ba hg2 (Kd.R_ne H1.out.row H1.out.ba (by decide)), blk_grown H1.out.bb hg2 (Kd.R_ne H1.out.row H1.out.bb (by decide))⟩); clear hR2 hB2 hg2 hat2)
              go_roundw
              case rel => exact ⟨i + 1, by omega, by go_num, H3⟩
              case measure => simp [intOf]; omega
          · obtain rfl : i = a.ints.length := by omega
            have H2 := Aside0.mk (show DRel a b A1 c1 A2 c2 A3 c3 B1 d1 B2 d2 B3 d3 w (diffI a.ints b.ints a.ints.length ++ diffT a.texts b.texts 0) u6 wr from by
              have e : diffI a.ints b.ints a.ints.length ++ diffT a.texts b.texts 0 = diffI a.ints b.ints a.ints.length := List.append_nil _
              rw [e]; exact H0.out)
            have hdi := diffI_len a.ints b.ints a.ints.length
            clear H0
            go_wp2
            clear a1 q1
            go_loopw [8, 6] (fun v8 v6 W => ∃ i : Nat, i ≤ a.texts.length ∧ v8 = .int .i64 i ∧ Aside0 (DRel a b A1 c1 A2 c2 A3 c3 B1 d1 B2 d2 B3 d3 w (diffI a.ints b.ints a.ints.length ++ diffT a.texts b.texts i) v6 W)) (fun v8 _ _ => a.texts.length - (intOf v8).toNat)
            case atStart => exact ⟨0, by omega, rfl, H2⟩
            case round =>
              clear H2
              obtain ⟨i, hi, rfl, H0⟩ := hrel
              have a2 := (blk_cell H0.out.ba 2).trans rfl
              have q2 := (blk_cell H0.out.bb 2).trans rfl
              by_cases hlt : i < a.texts.length
              · obtain ⟨ad, rfl, x1⟩ := at_str (Kd.C_below HA.out.t H0.out.below) i hlt
                obtain ⟨bd, rfl, x2⟩ := at_str (Kd.C_below HBn.out.t H0.out.below) i (by rw [← H23.out.2]; exact hlt)
                by_cases he : str a.texts i = str b.texts i
                · have de : (!((str a.texts i).toList == (str b.texts i).toList)) = false := by rw [he]; simp
                  have H1 := Aside0.mk (show DRel a b A1 c1 (some ad) c2 A3 c3 B1 d1 (some bd) d2 B3 d3 w (diffI a.ints b.ints a.ints.length ++ diffT a.texts b.texts (i + 1)) _ wr.drew from by rw [diffT_no he]; exact H0.out.drew)
                  clear he
                  go_wp2
                  go_region
                  clear x1 x2 a2 q2
                  go_wp2
                  go_roundw
                  case rel => exact ⟨i + 1, by omega, by go_num, H1⟩
                  case measure => simp [intOf]; omega
                · have de : (!((str a.texts i).toList == (str b.texts i).toList)) = true := str_ne he
                  have HY := Aside0.mk (diffT_yes he)
                  have hdt := diffT_len a.texts b.texts i
                  clear he
                  obtain ⟨Av, cv, hv⟩ := Kd.R_slice H0.out.row
                  obtain ⟨L0, hL0⟩ : ∃ L, L = diffI a.ints b.ints a.ints.length ++ diffT a.texts b.texts i := ⟨_, rfl⟩
                  have hL0l : L0.length ≤ 3000000 := by rw [hL0, List.length_append]; omega
                  have HL0 := Aside0.mk hL0
                  rw [← hL0] at hv H0
                  subst hv
                  clear hL0 hdt
                  go_wp2
                  go_region
                  clear x1 a2 q2 x2
                  have H1 := Aside0.mk H0.out.drew
                  clear H0
                  generalize wr.drew = W2 at H1 ⊢
                  have q2 := (blk_cell H1.out.bb 2).trans rfl
                  obtain ⟨bd', he', x2⟩ := at_str (Kd.C_below HBn.out.t H1.out.below) i (by rw [← H23.out.2]; exact hlt)
                  injection he' with he'
                  subst he'
                  go_wp2_with (at_builtin; refine Kd.R_append kSet (w0 := w) w.heap.size rfl (.tmp 79) (.tmp 87) 58 84 (.agg #[.bool false, .int .i64 0, .int .i64 0, .string ByteArray.empty]) 40 rfl Tryd.underlying58 info_set rfl (by decide) (by omega) (.slice Av L0.length cv) L0 ⟨true, (i : Int), 0, str b.texts i⟩ [.bool true, .int .i64 (i : Int), .int .i64 0, .string (str b.texts i)] (fun _ => True) (fun _ => False) rfl (by go_simp) (kSet_mk _ _ _ _) (fun _ h => h.elim) (fun _ _ => trivial) H1.out.row H1.out.below H1.out.below.size (by omega) ?_; intro v2 w3 hR2 hB2 hg2 hat2; have H3 := Aside0.mk (show DRel a b A1 c1 (some ad) c2 A3 c3 B1 d1 (some bd) d2 B3 d3 w (diffI a.ints b.ints a.ints.length ++ diffT a.texts b.texts (i + 1)) v2 w3 from ⟨by rw [HY.out, ← List.append_assoc, ← HL0.out]; exact hR2, hB2, blk_grown H1.out.ba hg2 (Kd.R_ne H1.out.row H1.out.ba (by decide)), blk_grown H1.out.bb hg2 (Kd.R_ne H1.out.row H1.out.bb (by decide))⟩); clear hR2 hB2 hg2 hat2)
                  go_roundw
                  case rel => exact ⟨i + 1, by omega, by go_num, H3⟩
                  case measure => simp [intOf]; omega
              · obtain rfl : i = a.texts.length := by omega
                have HD : Aside0 (diffL a b = diffI a.ints b.ints a.ints.length ++ diffT a.texts b.texts a.texts.length) := ⟨by unfold diffL; rw [if_pos HAl.out]⟩
                go_wp2
                go_ret2
                obtain ⟨Av, cv, hv⟩ := Kd.R_slice H0.out.row
                exact ⟨Av, cv, by rw [HAl.out, HD.out, ← hv]; rfl, by rw [HD.out, ← hv]; exact H0.out.row, H0.out.below⟩
      · have hf : alike a b = false := decide_eq_false (fun h => h3 h.2.2)
        have HF := Aside0.mk hf
        have dk : (a.kind != b.kind) = false := by simp [h1]
        have dl : (a.texts.length != b.texts.length) = true := by simp [h3]
        have dl' : ((a.texts.length : Int) != (b.texts.length : Int)) = true := by simp; omega
        rw [← h2] at q1 HB HXa HXb a0 a1 a2 q0 q2 ⊢
        clear h1 h2 h3 hf
        go_enter Tryd.func83, Tryd.ntmps83
        go_wp2
        go_ret2
        exact FIN.out _ HF.out HB.out
    · have hf : alike a b = false := decide_eq_false (fun h => h2 h.2.1)
      have HF := Aside0.mk hf
      have dk : (a.kind != b.kind) = false := by simp [h1]
      have dl : (a.ints.length != b.ints.length) = true := by simp [h2]
      have dl' : ((a.ints.length : Int) != (b.ints.length : Int)) = true := by simp; omega
      clear h1 h2 hf
      go_enter Tryd.func83, Tryd.ntmps83
      go_wp2
      go_ret2
      exact FIN.out _ HF.out HB.out
  · have hf : alike a b = false := decide_eq_false (fun h => h1 h.1)
    have HF := Aside0.mk hf
    have dk : (a.kind != b.kind) = true := by simp [h1]
    clear h1 hf
    go_enter Tryd.func83, Tryd.ntmps83
    go_wp2
    go_ret2
    exact FIN.out _ HF.out HB.out
end Go.Proofs.YtglfebpgdghlfaaDoor.L
end
section
namespace Go.Proofs.YtglfebpgdghlfaaDoor.L
open Go.RowKit Go.ChangeShapes Go.WideShapes Go.Proofs.YtglfebpgdghlfaaDoorW.PrintWords Go.Proofs.YtglfebpgdghlfaaDoorW.PrintLast Go.Proofs.YtglfebpgdghlfaaDoorW.PrintMore
attribute [local go_sem] max2_int min2_int max_two min_two max_three min_three max_four min_four
def ownN (a b : Node) : Bool := decide (a.kind = b.kind ∧ a.ints = b.ints ∧ a.texts = b.texts)
theorem ownN_eq (a b : Node) : ownN a b = (alike a b && decide ((diffL a b).length = 0)) := by
  cases h : alike a b with
  | false =>
    refine decide_eq_false (fun hh => ?_)
    have : alike a b = true := decide_eq_true ⟨hh.1, by rw [hh.2.1], by rw [hh.2.2]⟩
    rw [h] at this; cases this
  | true =>
    have hk := (of_decide_eq_true h).1
    rw [Bool.true_and]
    unfold ownN
    refine decide_eq_decide.2 ⟨fun hh => ?_, fun hh => ?_⟩
    · rw [(diffL_nil h).2 hh.2]; rfl
    · exact ⟨hk, (diffL_nil h).1 (List.eq_nil_of_length_eq_zero hh)⟩
set_option maxRecDepth 100000 in
set_option maxHeartbeats 2000000 in
theorem own_any (a b : Node) (A1 : Option Addr) (c1 : Nat) (A2 : Option Addr) (c2 : Nat) (A3 : Option Addr) (c3 : Nat) (B1 : Option Addr) (d1 : Nat) (B2 : Option Addr) (d2 : Nat) (B3 : Option Addr) (d3 : Nat) (w : World) (h : NodeC w a A1 c1 A2 c2 A3 c3) (h' : NodeC w b B1 d1 B2 d2 B3 d3) (hs : Small a) :
    Calls Tryd.prog 42 #[.agg #[.int .i64 a.kind, .slice A1 a.ints.length c1, .slice A2 a.texts.length c2, .slice A3 a.kids.length c3], .agg #[.int .i64 b.kind, .slice B1 b.ints.length d1, .slice B2 b.texts.length d2, .slice B3 b.kids.length d3]] w fun e w' => e = .returned (.bool (ownN a b)) ∧ Below w.heap.size w w' := by
  have HA := Aside0.mk h
  have HBn := Aside0.mk h'
  have HSm := Aside0.mk hs
  have hun := Tryd.underlying26
  have HB := Aside0.mk (below_alloc (below_alloc (Below.refl w.heap.size w) (.cells #[.int .i64 a.kind, .slice A1 a.ints.length c1, .slice A2 a.texts.length c2, .slice A3 a.kids.length c3] 26)) (.cells #[.int .i64 b.kind, .slice B1 b.ints.length d1, .slice B2 b.texts.length d2, .slice B3 b.kids.length d3] 26))
  have HXa := Aside0.mk (show ((w.alloc (.cells #[.int .i64 a.kind, .slice A1 a.ints.length c1, .slice A2 a.texts.length c2, .slice A3 a.kids.length c3] 26)).alloc (.cells #[.int .i64 b.kind, .slice B1 b.ints.length d1, .slice B2 b.texts.length d2, .slice B3 b.kids.length d3] 26)).heap[w.heap.size]? = some (.cells #[.int .i64 a.kind, .slice A1 a.ints.length c1, .slice A2 a.texts.length c2, .slice A3 a.kids.length c3] 26 (0, 0)) from by
    have : (w.alloc (.cells #[.int .i64 a.kind, .slice A1 a.ints.length c1, .slice A2 a.texts.length c2, .slice A3 a.kids.length c3] 26)).heap[w.heap.size]? = some (.cells #[.int .i64 a.kind, .slice A1 a.ints.length c1, .slice A2 a.texts.length c2, .slice A3 a.kids.length c3] 26 (0, 0)) := by simpa using heap_alloc_new w _
    exact (Below.block (below_alloc (Below.refl _ _) _) _ (by simp)).trans this)
  have HXb := Aside0.mk (show ((w.alloc (.cells #[.int .i64 a.kind, .slice A1 a.ints.length c1, .slice A2 a.texts.length c2, .slice A3 a.kids.length c3] 26)).alloc (.cells #[.int .i64 b.kind, .slice B1 b.ints.length d1, .slice B2 b.texts.length d2, .slice B3 b.kids.length d3] 26)).heap[w.heap.size + 1]? = some (.cells #[.int .i64 b.kind, .slice B1 b.ints.length d1, .slice B2 b.texts.length d2, .slice B3 b.kids.length d3] 26 (0, 0)) from by
    have := heap_alloc_new (w.alloc (.cells #[.int .i64 a.kind, .slice A1 a.ints.length c1, .slice A2 a.texts.length c2, .slice A3 a.kids.length c3] 26)) (.cells #[.int .i64 b.kind, .slice B1 b.ints.length d1, .slice B2 b.texts.length d2, .slice B3 b.kids.length d3] 26)
    simpa using this)
  have a0 := (blk_cell HXa.out 0).trans rfl
  have a1 := (blk_cell HXa.out 1).trans rfl
  have a2 := (blk_cell HXa.out 2).trans rfl
  have q0 := (blk_cell HXb.out 0).trans rfl
  have q1 := (blk_cell HXb.out 1).trans rfl
  have q2 := (blk_cell HXb.out 2).trans rfl
  have a3 := (blk_cell HXa.out 3).trans rfl
  have q3 := (blk_cell HXb.out 3).trans rfl
  clear h h' hs
  go_enter Tryd.func42, Tryd.ntmps42
  go_wp2_with fail
  refine (diff_any a b A1 c1 A2 c2 A3 c3 B1 d1 B2 d2 B3 d3 _ (HA.out.below HB.out) (HBn.out.below HB.out) HSm.out).mono ?_
  rintro e w1 ⟨A, c, rfl, hR, hB⟩
  have HB1 := Aside0.mk (below_step HB.out hB)
  have hE := ownN_eq a b
  clear hR hB a0 a1 a2 a3 q0 q1 q2 q3
  cases hal : alike a b with
  | false =>
    have HE : Aside0 (ownN a b = false) := ⟨by rw [hE, hal]; rfl⟩
    clear hE hal
    go_wp2
    go_ret
    exact ⟨ret_bool HE.out.symm, HB1.out⟩
  | true =>
    by_cases hz : (diffL a b).length = 0
    · have HE : Aside0 (ownN a b = true) := ⟨by rw [hE, hal, decide_eq_true hz]; rfl⟩
      clear hE hal
      rw [hz]
      go_wp2
      go_ret
      exact ⟨ret_bool HE.out.symm, HB1.out⟩
    · have HE : Aside0 (ownN a b = false) := ⟨by rw [hE, hal, decide_eq_false hz]; rfl⟩
      obtain ⟨m, hm⟩ : ∃ m, (diffL a b).length = m + 1 := ⟨(diffL a b).length - 1, by omega⟩
      have d0 : ((m : Int) + 1 == 0) = false := by simp; omega
      clear hE hal hz
      rw [hm]
      go_wp2
      go_ret
      exact ⟨ret_bool HE.out.symm, HB1.out⟩
end Go.Proofs.YtglfebpgdghlfaaDoor.L
end
section
namespace Go.Proofs.YtglfebpgdghlfaaDoor.L
open Go.RowKit Go.ChangeShapes Go.WideShapes Go.Proofs.YtglfebpgdghlfaaDoorW.PrintWords Go.Proofs.YtglfebpgdghlfaaDoorW.PrintLast Go.Proofs.YtglfebpgdghlfaaDoorW.PrintMore
attribute [local go_sem] max2_int min2_int max_two min_two max_three min_three max_four min_four
def sameN (a b : Node) : Bool := decide (a.kind = b.kind ∧ a.ints = b.ints ∧ a.texts = b.texts ∧ a.kids = b.kids)
theorem sameN_iff {a b : Node} : sameN a b = true ↔ a = b := by
  unfold sameN
  constructor
  · intro h
    have h := of_decide_eq_true h
    cases a; cases b
    simp only at h
    obtain ⟨rfl, rfl, rfl, rfl⟩ := h
    rfl
  · rintro rfl; exact decide_eq_true ⟨rfl, rfl, rfl, rfl⟩
set_option maxRecDepth 100000 in
set_option maxHeartbeats 2000000 in
theorem same_any (a b : Node) (A1 : Option Addr) (c1 : Nat) (A2 : Option Addr) (c2 : Nat) (A3 : Option Addr) (c3 : Nat) (B1 : Option Addr) (d1 : Nat) (B2 : Option Addr) (d2 : Nat) (B3 : Option Addr) (d3 : Nat) (w : World) (h : NodeC w a A1 c1 A2 c2 A3 c3) (h' : NodeC w b B1 d1 B2 d2 B3 d3) (hs : Small a) :
    Calls Tryd.prog 17 #[.agg #[.int .i64 a.kind, .slice A1 a.ints.length c1, .slice A2 a.texts.length c2, .slice A3 a.kids.length c3], .agg #[.int .i64 b.kind, .slice B1 b.ints.length d1, .slice B2 b.texts.length d2, .slice B3 b.kids.length d3]] w fun e w' => e = .returned (.bool (sameN a b)) ∧ Below w.heap.size w w' := by
  have HA := Aside0.mk h
  have HBn := Aside0.mk h'
  have HSm := Aside0.mk hs
  have hs3 := hs.2.2
  have hun := Tryd.underlying26
  have HB := Aside0.mk (below_alloc (below_alloc (Below.refl w.heap.size w) (.cells #[.int .i64 a.kind, .slice A1 a.ints.length c1, .slice A2 a.texts.length c2, .slice A3 a.kids.length c3] 26)) (.cells #[.int .i64 b.kind, .slice B1 b.ints.length d1, .slice B2 b.texts.length d2, .slice B3 b.kids.length d3] 26))
  have HXa := Aside0.mk (show ((w.alloc (.cells #[.int .i64 a.kind, .slice A1 a.ints.length c1, .slice A2 a.texts.length c2, .slice A3 a.kids.length c3] 26)).alloc (.cells #[.int .i64 b.kind, .slice B1 b.ints.length d1, .slice B2 b.texts.length d2, .slice B3 b.kids.length d3] 26)).heap[w.heap.size]? = some (.cells #[.int .i64 a.kind, .slice A1 a.ints.length c1, .slice A2 a.texts.length c2, .slice A3 a.kids.length c3] 26 (0, 0)) from by
    have : (w.alloc (.cells #[.int .i64 a.kind, .slice A1 a.ints.length c1, .slice A2 a.texts.length c2, .slice A3 a.kids.length c3] 26)).heap[w.heap.size]? = some (.cells #[.int .i64 a.kind, .slice A1 a.ints.length c1, .slice A2 a.texts.length c2, .slice A3 a.kids.length c3] 26 (0, 0)) := by simpa using heap_alloc_new w _
    exact (Below.block (below_alloc (Below.refl _ _) _) _ (by simp)).trans this)
  have HXb := Aside0.mk (show ((w.alloc (.cells #[.int .i64 a.kind, .slice A1 a.ints.length c1, .slice A2 a.texts.length c2, .slice A3 a.kids.length c3] 26)).alloc (.cells #[.int .i64 b.kind, .slice B1 b.ints.length d1, .slice B2 b.texts.length d2, .slice B3 b.kids.length d3] 26)).heap[w.heap.size + 1]? = some (.cells #[.int .i64 b.kind, .slice B1 b.ints.length d1, .slice B2 b.texts.length d2, .slice B3 b.kids.length d3] 26 (0, 0)) from by
    have := heap_alloc_new (w.alloc (.cells #[.int .i64 a.kind, .slice A1 a.ints.length c1, .slice A2 a.texts.length c2, .slice A3 a.kids.length c3] 26)) (.cells #[.int .i64 b.kind, .slice B1 b.ints.length d1, .slice B2 b.texts.length d2, .slice B3 b.kids.length d3] 26)
    simpa using this)
  have a0 := (blk_cell HXa.out 0).trans rfl
  have a1 := (blk_cell HXa.out 1).trans rfl
  have a2 := (blk_cell HXa.out 2).trans rfl
  have q0 := (blk_cell HXb.out 0).trans rfl
  have q1 := (blk_cell HXb.out 1).trans rfl
  have q2 := (blk_cell HXb.out 2).trans rfl
  have a3 := (blk_cell HXa.out 3).trans rfl
  have q3 := (blk_cell HXb.out 3).trans rfl
  clear h h' hs
  go_enter Tryd.func17, Tryd.ntmps17
  go_wp2_with fail
  refine (own_any a b A1 c1 A2 c2 A3 c3 B1 d1 B2 d2 B3 d3 _ (HA.out.below HB.out) (HBn.out.below HB.out) HSm.out).mono ?_
  rintro e w1 ⟨rfl, hB⟩
  have HB1 := Aside0.mk (below_step HB.out hB)
  replace HXa := Aside0.mk ((hB.block _ (blk_lt HXa.out)).trans HXa.out)
  replace HXb := Aside0.mk ((hB.block _ (blk_lt HXb.out)).trans HXb.out)
  replace a3 := (blk_cell HXa.out 3).trans rfl
  replace q3 := (blk_cell HXb.out 3).trans rfl
  clear hB a0 a1 a2 q0 q1 q2
  cases how : ownN a b with
  | false =>
    have HE : Aside0 (sameN a b = false) := ⟨decide_eq_false (fun hh => by
      have : ownN a b = true := decide_eq_true ⟨hh.1, hh.2.1, hh.2.2.1⟩
      rw [how] at this; cases this)⟩
    clear how
    go_wp2
    go_ret
    exact ⟨ret_bool HE.out.symm, HB1.out⟩
  | true =>
    have HO := Aside0.mk (of_decide_eq_true how)
    clear how
    by_cases hl : a.kids.length = b.kids.length
    · have HLn := Aside0.mk hl
      rw [← hl] at q3 HXb
      clear hl
      go_wp2
      go_loopw [5] (fun v5 W => ∃ i : Nat, i ≤ a.kids.length ∧ v5 = .int .i64 i ∧ Aside0 (∀ j : Nat, j < i → rd a.kids (j : Int) = rd b.kids (j : Int)) ∧ Aside0 (Below w1.heap.size w1 W)) (fun v5 _ => a.kids.length - (intOf v5).toNat)
      case atStart => exact ⟨0, by omega, rfl, ⟨fun j h => by omega⟩, ⟨Below.refl _ _⟩⟩
      case round =>
        obtain ⟨i, hi, rfl, HJ, HW⟩ := hrel
        replace a3 := pw_cell_below HW.out a3
        replace q3 := pw_cell_below HW.out q3
        by_cases hlt : i < a.kids.length
        · obtain ⟨ad, rfl, x1⟩ := at_nat (Kd.C_below HA.out.k (below_step HB1.out HW.out)) i hlt
          obtain ⟨bd, rfl, x2⟩ := at_nat (Kd.C_below HBn.out.k (below_step HB1.out HW.out)) i (by rw [← HLn.out]; exact hlt)
          by_cases he : rd a.kids (i : Int) = rd b.kids (i : Int)
          · have de : (rd a.kids (i : Int) != rd b.kids (i : Int)) = false := by simp [he]
            have HJ2 := Aside0.mk (ext_lt HJ.out he)
            have HW2 := Aside0.mk (pw_below_drewN HW.out 1)
            clear he
            go_wp2
            go_region
            go_wp2
            go_roundw
            case rel => exact ⟨i + 1, by omega, by go_num, HJ2, HW2⟩
            case measure => simp [intOf]; omega
          · have de : (rd a.kids (i : Int) != rd b.kids (i : Int)) = true := by simp [he]
            have HE : Aside0 (sameN a b = false) := ⟨decide_eq_false (fun hh => he (by rw [hh.2.2.2]))⟩
            clear he
            go_wp2
            go_region
            go_wp2
            go_ret
            exact ⟨ret_bool HE.out.symm, pw_below_drewN (below_step HB1.out HW.out) 1⟩
        · obtain rfl : i = a.kids.length := by omega
          have HE : Aside0 (sameN a b = true) := ⟨decide_eq_true ⟨HO.out.1, HO.out.2.1, HO.out.2.2, List.ext_getElem HLn.out (fun j h1 h2 => by rw [← rd_eq h1, ← rd_eq h2]; exact HJ.out j h1)⟩⟩
          go_wp2
          go_ret
          exact ⟨ret_bool HE.out.symm, below_step HB1.out HW.out⟩
    · have HE : Aside0 (sameN a b = false) := ⟨decide_eq_false (fun hh => hl (by rw [hh.2.2.2]))⟩
      have dl : (a.kids.length != b.kids.length) = true := by simp [hl]
      have dl' : ((a.kids.length : Int) != (b.kids.length : Int)) = true := by simp; omega
      clear hl
      go_wp2
      go_ret
      exact ⟨ret_bool HE.out.symm, HB1.out⟩
end Go.Proofs.YtglfebpgdghlfaaDoor.L
end
section
namespace Go.Proofs.YtglfebpgdghlfaaDoor.L
open Go.RowKit Go.ChangeShapes Go.WideShapes Go.Proofs.YtglfebpgdghlfaaDoorW.PrintWords Go.Proofs.YtglfebpgdghlfaaDoorW.PrintLast Go.Proofs.YtglfebpgdghlfaaDoorW.PrintMore
attribute [local go_sem] max2_int min2_int max_two min_two max_three min_three max_four min_four
open Classical in
noncomputable def sameL (xs ys : List Node) : Bool := decide (xs = ys)
theorem sameL_yes {xs ys : List Node} (h : xs = ys) : sameL xs ys = true := by unfold sameL; simp [h]
theorem sameL_no {xs ys : List Node} (h : ¬ xs = ys) : sameL xs ys = false := by unfold sameL; simp [h]
theorem nodes_ext {xs ys : List Node} (hl : xs.length = ys.length) (h : ∀ j : Nat, j < xs.length → nd xs j = nd ys j) : xs = ys := List.ext_getElem hl (fun j h1 h2 => by
  have := h j h1
  unfold nd at this
  rw [getD_eq _ h1, getD_eq _ h2] at this
  exact this)
set_option maxRecDepth 100000 in
set_option maxHeartbeats 4000000 in
theorem sameNs_any (A : Option Addr) (c : Nat) (xs : List Node) (B : Option Addr) (d : Nat) (ys : List Node) (w : World) (h : kNode.C w A xs.length xs) (h' : kNode.C w B ys.length ys) (hs : ∀ i : Nat, i < xs.length → Small (nd xs i)) :
    Calls Tryd.prog 16 #[.slice A xs.length c, .slice B ys.length d] w fun e w' => e = .returned (.bool (sameL xs ys)) ∧ Below w.heap.size w w' := by
  have HA := Aside0.mk h
  have HBn := Aside0.mk h'
  have HSm := Aside0.mk hs
  have b0 := h.2.1
  have HB := Aside0.mk (Below.refl w.heap.size w)
  have hun := Tryd.underlying26
  clear h h' hs
  by_cases hl : xs.length = ys.length
  · have HL := Aside0.mk hl
    rw [← hl]
    clear hl
    go_enter Tryd.func16, Tryd.ntmps16
    go_wp2
    go_loopw [5] (fun v5 W => ∃ i : Nat, i ≤ xs.length ∧ v5 = .int .i64 i ∧ Aside0 (∀ j : Nat, j < i → nd xs j = nd ys j) ∧ Aside0 (Below w.heap.size w W)) (fun v5 _ => xs.length - (intOf v5).toNat)
    case atStart => exact ⟨0, by omega, rfl, ⟨fun j h => by omega⟩, HB⟩
    case round =>
      obtain ⟨i, hi, rfl, HJ, HW⟩ := hrel
      by_cases hlt : i < xs.length
      · obtain ⟨ad, A1, c1, A2, c2, A3, c3, rfl, x0, x1, x2, x3, hN⟩ := at_node HA.out i hlt
        obtain ⟨bd, B1, d1, B2, d2, B3, d3, rfl, y0, y1, y2, y3, hM⟩ := at_node HBn.out i (by rw [← HL.out]; exact hlt)
        replace x0 := pw_cell_below HW.out x0
        replace x1 := pw_cell_below HW.out x1
        replace x2 := pw_cell_below HW.out x2
        replace x3 := pw_cell_below HW.out x3
        replace y0 := pw_cell_below HW.out y0
        replace y1 := pw_cell_below HW.out y1
        replace y2 := pw_cell_below HW.out y2
        replace y3 := pw_cell_below HW.out y3
        have HN := Aside0.mk hN
        have HM := Aside0.mk hM
        clear hN hM
        go_wp2
        go_region_held3 (fun W => W.cell? (ad.add (i * 4)) = some (.int .i64 (nd xs i).kind) ∧ W.cell? ⟨(ad.add (i * 4)).block, (ad.add (i * 4)).off + 1, none⟩ = some (.slice A1 (nd xs i).ints.length c1) ∧ W.cell? ⟨(ad.add (i * 4)).block, (ad.add (i * 4)).off + 2, none⟩ = some (.slice A2 (nd xs i).texts.length c2) ∧ W.cell? ⟨(ad.add (i * 4)).block, (ad.add (i * 4)).off + 3, none⟩ = some (.slice A3 (nd xs i).kids.length c3) ∧
            W.cell? (bd.add (i * 4)) = some (.int .i64 (nd ys i).kind) ∧ W.cell? ⟨(bd.add (i * 4)).block, (bd.add (i * 4)).off + 1, none⟩ = some (.slice B1 (nd ys i).ints.length d1) ∧ W.cell? ⟨(bd.add (i * 4)).block, (bd.add (i * 4)).off + 2, none⟩ = some (.slice B2 (nd ys i).texts.length d2) ∧ W.cell? ⟨(bd.add (i * 4)).block, (bd.add (i * 4)).off + 3, none⟩ = some (.slice B3 (nd ys i).kids.length d3))
          (first
            | (go_split_ands
               refine ⟨?_, ?_, ?_, ?_, ?_, ?_, ?_, ?_⟩
               all_goals first
                 | with_reducible assumption
                 | with_reducible exact pw_cell_below hB (by assumption)
                 | (simp [*]; done)))
          (first
            | (go_at_call 17; refine (same_any (nd xs i) (nd ys i) A1 c1 A2 c2 A3 c3 B1 d1 B2 d2 B3 d3 _ (HN.out.below (below_drew HW.out)) (HM.out.below (below_drew HW.out)) (HSm.out i hlt)).mono ?_; rintro e w2 ⟨rfl, hB2⟩; have hB := hB2))
        have HB2 := Aside0.mk (below_step (below_drew HW.out) hB2)
        clear x0 x1 x2 x3 y0 y1 y2 y3
        cases hc : sameN (nd xs i) (nd ys i) with
        | true =>
          have HJ2 := Aside0.mk (ext_lt HJ.out (sameN_iff.1 hc))
          clear hc
          go_wp2
          go_roundw
          case rel => exact ⟨i + 1, by omega, by go_num, HJ2, HB2⟩
          case measure => simp [intOf]; omega
        | false =>
          have HE : Aside0 (sameL xs ys = false) := ⟨sameL_no (fun e => by
            have : sameN (nd xs i) (nd ys i) = true := sameN_iff.2 (by rw [e])
            rw [hc] at this; cases this)⟩
          clear hc
          go_wp2
          go_ret
          exact ⟨ret_bool HE.out.symm, HB2.out⟩
      · obtain rfl : i = xs.length := by omega
        have HE : Aside0 (sameL xs ys = true) := ⟨sameL_yes (nodes_ext HL.out HJ.out)⟩
        go_wp2
        go_ret
        exact ⟨ret_bool HE.out.symm, HW.out⟩
  · have HE : Aside0 (sameL xs ys = false) := ⟨sameL_no (fun e => hl (by rw [e]))⟩
    have dl : (xs.length != ys.length) = true := by simp [hl]
    have dl' : ((xs.length : Int) != (ys.length : Int)) = true := by simp; omega
    clear hl
    go_enter Tryd.func16, Tryd.ntmps16
    go_wp2
    go_ret
    exact ⟨ret_bool HE.out.symm, HB.out⟩
end Go.Proofs.YtglfebpgdghlfaaDoor.L
end
section
namespace Go.Proofs.YtglfebpgdghlfaaDoor.L
open Go.RowKit Go.ChangeShapes Go.WideShapes Go.Proofs.YtglfebpgdghlfaaDoorW.PrintWords Go.Proofs.YtglfebpgdghlfaaDoorW.PrintLast Go.Proofs.YtglfebpgdghlfaaDoorW.PrintMore
attribute [local go_sem] max2_int min2_int max_two min_two max_three min_three max_four min_four
open Classical in
noncomputable def sameS (s t : Scene) : Bool := decide (s = t)
theorem sameS_yes {s t : Scene} (h : s = t) : sameS s t = true := by unfold sameS; simp [h]
theorem sameS_no {s t : Scene} (h : ¬ s = t) : sameS s t = false := by unfold sameS; simp [h]
theorem scene_ext {s t : Scene} (h1 : s.nodes = t.nodes) (h2 : s.root = t.root) : s = t := by cases s; cases t; simp only at h1 h2; subst h1 h2; rfl
set_option maxRecDepth 100000 in
set_option maxHeartbeats 4000000 in
theorem sameS_any (A : Option Addr) (c : Nat) (s : Scene) (B : Option Addr) (d : Nat) (t : Scene) (w : World) (h : kNode.C w A s.nodes.length s.nodes) (h' : kNode.C w B t.nodes.length t.nodes) (hs : ∀ i : Nat, i < s.nodes.length → Small (nd s.nodes i)) :
    Calls Tryd.prog 23 #[.agg #[.slice A s.nodes.length c, .int .i64 s.root], .agg #[.slice B t.nodes.length d, .int .i64 t.root]] w fun e w' => e = .returned (.bool (sameS s t)) ∧ Below w.heap.size w w' := by
  have HA := Aside0.mk h
  have HBn := Aside0.mk h'
  have HSm := Aside0.mk hs
  have b0 := h.2.1
  have HB := Aside0.mk (below_alloc (below_alloc (Below.refl w.heap.size w) (.cells #[.slice A s.nodes.length c, .int .i64 s.root] 39)) (.cells #[.slice B t.nodes.length d, .int .i64 t.root] 39))
  have HXa := Aside0.mk (show ((w.alloc (.cells #[.slice A s.nodes.length c, .int .i64 s.root] 39)).alloc (.cells #[.slice B t.nodes.length d, .int .i64 t.root] 39)).heap[w.heap.size]? = some (.cells #[.slice A s.nodes.length c, .int .i64 s.root] 39 (0, 0)) from by
    have : (w.alloc (.cells #[.slice A s.nodes.length c, .int .i64 s.root] 39)).heap[w.heap.size]? = some (.cells #[.slice A s.nodes.length c, .int .i64 s.root] 39 (0, 0)) := by simpa using heap_alloc_new w _
    exact (Below.block (below_alloc (Below.refl _ _) _) _ (by simp)).trans this)
  have HXb := Aside0.mk (show ((w.alloc (.cells #[.slice A s.nodes.length c, .int .i64 s.root] 39)).alloc (.cells #[.slice B t.nodes.length d, .int .i64 t.root] 39)).heap[w.heap.size + 1]? = some (.cells #[.slice B t.nodes.length d, .int .i64 t.root] 39 (0, 0)) from by
    have := heap_alloc_new (w.alloc (.cells #[.slice A s.nodes.length c, .int .i64 s.root] 39)) (.cells #[.slice B t.nodes.length d, .int .i64 t.root] 39)
    simpa using this)
  have hus := Tryd.underlying39
  have a0 := (blk_cell HXa.out 0).trans rfl
  have a1 := (blk_cell HXa.out 1).trans rfl
  have q0 := (blk_cell HXb.out 0).trans rfl
  have q1 := (blk_cell HXb.out 1).trans rfl
  have hun := Tryd.underlying26
  clear h h' hs
  by_cases hr : ¬ s.root = t.root
  · have HE : Aside0 (sameS s t = false) := ⟨sameS_no (fun e => hr (by rw [e]))⟩
    have dr : (s.root != t.root) = true := by simp [hr]
    clear hr
    go_enter Tryd.func23, Tryd.ntmps23
    go_wp2
    go_ret
    exact ⟨ret_bool HE.out.symm, HB.out⟩
  replace hr := Classical.byContradiction hr
  have HRo := Aside0.mk hr
  have dr : (s.root != t.root) = false := by simp [hr]
  clear hr
  by_cases hl : s.nodes.length = t.nodes.length
  · have HL := Aside0.mk hl
    rw [← hl] at q0 HXb HXa a0 a1 q1 HB ⊢
    clear hl
    go_enter Tryd.func23, Tryd.ntmps23
    go_wp2
    go_loopw [5] (fun v5 W => ∃ i : Nat, i ≤ s.nodes.length ∧ v5 = .int .i64 i ∧ Aside0 (∀ j : Nat, j < i → nd s.nodes j = nd t.nodes j) ∧ Aside0 (Below w.heap.size w W) ∧ Aside0 (W.cell? ⟨w.heap.size, 0, none⟩ = some (.slice A s.nodes.length c) ∧ W.cell? ⟨w.heap.size + 1, 0, none⟩ = some (.slice B s.nodes.length d))) (fun v5 _ => s.nodes.length - (intOf v5).toNat)
    case atStart => exact ⟨0, by omega, rfl, ⟨fun j h => by omega⟩, HB, ⟨a0, q0⟩⟩
    case round =>
      obtain ⟨i, hi, rfl, HJ, HW, HC⟩ := hrel
      clear a0 q0
      have a0 := HC.out.1
      have q0 := HC.out.2
      by_cases hlt : i < s.nodes.length
      · obtain ⟨ad, A1, c1, A2, c2, A3, c3, rfl, x0, x1, x2, x3, hN⟩ := at_node HA.out i hlt
        obtain ⟨bd, B1, d1, B2, d2, B3, d3, rfl, y0, y1, y2, y3, hM⟩ := at_node HBn.out i (by rw [← HL.out]; exact hlt)
        replace x0 := pw_cell_below HW.out x0
        replace x1 := pw_cell_below HW.out x1
        replace x2 := pw_cell_below HW.out x2
        replace x3 := pw_cell_below HW.out x3
        replace y0 := pw_cell_below HW.out y0
        replace y1 := pw_cell_below HW.out y1
        replace y2 := pw_cell_below HW.out y2
        replace y3 := pw_cell_below HW.out y3
        have HN := Aside0.mk hN
        have HM := Aside0.mk hM
        clear hN hM
        go_wp2
        go_region_held3 (fun W => W.cell? ⟨w.heap.size, 0, none⟩ = some (.slice (some ad) s.nodes.length c) ∧ W.cell? ⟨w.heap.size + 1, 0, none⟩ = some (.slice (some bd) s.nodes.length d) ∧ W.cell? (ad.add (i * 4)) = some (.int .i64 (nd s.nodes i).kind) ∧ W.cell? ⟨(ad.add (i * 4)).block, (ad.add (i * 4)).off + 1, none⟩ = some (.slice A1 (nd s.nodes i).ints.length c1) ∧ W.cell? ⟨(ad.add (i * 4)).block, (ad.add (i * 4)).off + 2, none⟩ = some (.slice A2 (nd s.nodes i).texts.length c2) ∧ W.cell? ⟨(ad.add (i * 4)).block, (ad.add (i * 4)).off + 3, none⟩ = some (.slice A3 (nd s.nodes i).kids.length c3) ∧
            W.cell? (bd.add (i * 4)) = some (.int .i64 (nd t.nodes i).kind) ∧ W.cell? ⟨(bd.add (i * 4)).block, (bd.add (i * 4)).off + 1, none⟩ = some (.slice B1 (nd t.nodes i).ints.length d1) ∧ W.cell? ⟨(bd.add (i * 4)).block, (bd.add (i * 4)).off + 2, none⟩ = some (.slice B2 (nd t.nodes i).texts.length d2) ∧ W.cell? ⟨(bd.add (i * 4)).block, (bd.add (i * 4)).off + 3, none⟩ = some (.slice B3 (nd t.nodes i).kids.length d3))
          (first
            | (go_split_ands
               refine ⟨?_, ?_, ?_, ?_, ?_, ?_, ?_, ?_, ?_, ?_⟩
               all_goals first
                 | with_reducible assumption
                 | with_reducible exact pw_cell_below hB (by assumption)
                 | (simp [*]; done)))
          (first
            | (go_at_call 17; refine (same_any (nd s.nodes i) (nd t.nodes i) A1 c1 A2 c2 A3 c3 B1 d1 B2 d2 B3 d3 _ (HN.out.below (below_drew HW.out)) (HM.out.below (below_drew HW.out)) (HSm.out i hlt)).mono ?_; rintro e w2 ⟨rfl, hB2⟩; have hB := hB2))
        have HB2 := Aside0.mk (below_step (below_drew HW.out) hB2)
        have HC2 := Aside0.mk (And.intro (pw_cell_below hB2 (show wr.drew.cell? _ = _ from a0)) (pw_cell_below hB2 (show wr.drew.cell? _ = _ from q0)))
        clear x0 x1 x2 x3 y0 y1 y2 y3 a0 q0
        cases hc : sameN (nd s.nodes i) (nd t.nodes i) with
        | true =>
          have HJ2 := Aside0.mk (ext_lt HJ.out (sameN_iff.1 hc))
          clear hc
          go_wp2
          go_roundw
          case rel => exact ⟨i + 1, by omega, by go_num, HJ2, HB2, HC2⟩
          case measure => simp [intOf]; omega
        | false =>
          have HE : Aside0 (sameS s t = false) := ⟨sameS_no (fun e => by
            have : sameN (nd s.nodes i) (nd t.nodes i) = true := sameN_iff.2 (by rw [e])
            rw [hc] at this; cases this)⟩
          clear hc
          go_wp2
          go_ret
          exact ⟨ret_bool HE.out.symm, HB2.out⟩
      · obtain rfl : i = s.nodes.length := by omega
        have HE : Aside0 (sameS s t = true) := ⟨sameS_yes (scene_ext (nodes_ext HL.out HJ.out) HRo.out)⟩
        go_wp2
        go_ret
        exact ⟨ret_bool HE.out.symm, HW.out⟩
  · have HE : Aside0 (sameS s t = false) := ⟨sameS_no (fun e => hl (by rw [e]))⟩
    have dl : (s.nodes.length != t.nodes.length) = true := by simp [hl]
    have dl' : ((s.nodes.length : Int) != (t.nodes.length : Int)) = true := by simp; omega
    clear hl
    go_enter Tryd.func23, Tryd.ntmps23
    go_wp2
    go_ret
    exact ⟨ret_bool HE.out.symm, HB.out⟩
end Go.Proofs.YtglfebpgdghlfaaDoor.L
end
section
namespace Go.Proofs.YtglfebpgdghlfaaDoor.L
open Go.RowKit Go.ChangeShapes Go.WideShapes Go.Proofs.YtglfebpgdghlfaaDoorW.PrintWords Go.Proofs.YtglfebpgdghlfaaDoorW.PrintLast Go.Proofs.YtglfebpgdghlfaaDoorW.PrintMore
attribute [local go_sem] max2_int min2_int max_two min_two max_three min_three max_four min_four
def aS : Scene := ⟨[⟨2, [1, 2, 3, 4], [], [1]⟩, ⟨6, [9], [], []⟩], 0⟩
def aT : Scene := ⟨[⟨7, [9, 9, 9, 1], [], []⟩, ⟨8, [4, 4, 4], [], [0]⟩, ⟨2, [1, 2, 3], [], [1]⟩], 2⟩
theorem aS_up : upS aS = ⟨[⟨2, [1, 2, 3], [], [1]⟩, ⟨8, [4, 4, 4], [], [2]⟩, ⟨7, [9, 9, 9, 1], [], []⟩], 0⟩ := by kernel_rfl
theorem aS_can : canonL (upS aS) = aT.nodes := by rw [aS_up]; kernel_rfl
theorem C_nums (T : TypeId) (W : World) (g : Nat) (hg : W.heap.size = g) (ps : List Int) (n : Nat) (hn : ps.length = n) (hm : ps.length ≤ 9223372036854775807) {cs : Array Value} (hcs : cs = (ps.flatMap fun x => [.int .i64 x]).toArray) : (Kd.int .i64).C (W.alloc (.cells cs T)) (some ⟨g, 0, none⟩) n ps := by
  subst hn
  exact (Kd.R_reads' (R_nums T W 0 g hg ps (by omega) hm hcs)).2.2
theorem K_node {W : World} (n : Node) {A1 A2 A3 : Option Addr} {l1 l2 l3 c1 c2 c3 : Nat} (e1 : l1 = n.ints.length) (e2 : l2 = n.texts.length) (e3 : l3 = n.kids.length) (h1 : n.ints.length ≤ c1) (h2 : n.texts.length ≤ c2) (h3 : n.kids.length ≤ c3)
    (hi : (Kd.int .i64).C W A1 n.ints.length n.ints) (ht : Kd.string.C W A2 n.texts.length n.texts) (hk : (Kd.int .i64).C W A3 n.kids.length n.kids) : kNode.K W n [.int .i64 n.kind, .slice A1 l1 c1, .slice A2 l2 c2, .slice A3 l3 c3] := by
  subst e1 e2 e3
  exact kNode_mk ⟨h1, h2, h3, hi, ht, hk⟩
def aW (w : World) : World := (((w.alloc (.cells #[.int .i64 1, .int .i64 2, .int .i64 3, .int .i64 4] 2)).alloc (.cells #[.int .i64 1] 3)).alloc (.cells #[.int .i64 9] 2))
theorem aS_C (w : World) : kNode.C ((aW w).alloc (.cells #[.int .i64 2, .slice (some ⟨w.heap.size, 0, none⟩) 4 4, .slice none 0 0, .slice (some ⟨w.heap.size + 1, 0, none⟩) 1 1, .int .i64 6, .slice (some ⟨w.heap.size + 1 + 1, 0, none⟩) 1 1, .slice none 0 0, .slice none 0 0] 26)) (some ⟨w.heap.size + 1 + 1 + 1, 0, none⟩) 2 aS.nodes := by
  refine C_lits kNode (aW w) 26 _ (by simp [aW]) aS.nodes [.int .i64 2, .slice (some ⟨w.heap.size, 0, none⟩) 4 4, .slice none 0 0, .slice (some ⟨w.heap.size + 1, 0, none⟩) 1 1, .int .i64 6, .slice (some ⟨w.heap.size + 1 + 1, 0, none⟩) 1 1, .slice none 0 0, .slice none 0 0] ?_ (by decide) rfl
  refine ⟨_, _, (show _ = [_, _, _, _] ++ [_, _, _, _] from rfl), K_node ⟨2, [1, 2, 3, 4], [], [1]⟩ rfl rfl rfl (by decide) (by decide) (by decide) ?_ (C_nil _ _) ?_, _, _, (show _ = [_, _, _, _] ++ [] from rfl), K_node ⟨6, [9], [], []⟩ rfl rfl rfl (by decide) (by decide) (by decide) ?_ (C_nil _ _) (C_nil _ _), rfl⟩
  · exact Kd.C_alloc (Kd.C_alloc (C_nums _ w _ rfl [1, 2, 3, 4] _ rfl (by decide) rfl) _) _
  · exact Kd.C_alloc (C_nums _ _ _ (by simp) [1] _ rfl (by decide) rfl) _
  · exact C_nums _ _ _ (by simp) [9] _ rfl (by decide) rfl
def bW (w : World) : World := (((((w.alloc (.cells #[.int .i64 9, .int .i64 9, .int .i64 9, .int .i64 1] 2)).alloc (.cells #[.int .i64 4, .int .i64 4, .int .i64 4] 2)).alloc (.cells #[.int .i64 0] 3)).alloc (.cells #[.int .i64 1, .int .i64 2, .int .i64 3] 2)).alloc (.cells #[.int .i64 1] 3))
theorem aT_C (w : World) (g : Nat) (hg : w.heap.size = g) : kNode.C ((bW w).alloc (.cells #[.int .i64 7, .slice (some ⟨g, 0, none⟩) 4 4, .slice none 0 0, .slice none 0 0, .int .i64 8, .slice (some ⟨g + 1, 0, none⟩) 3 3, .slice none 0 0, .slice (some ⟨g + 1 + 1, 0, none⟩) 1 1, .int .i64 2, .slice (some ⟨g + 1 + 1 + 1, 0, none⟩) 3 3, .slice none 0 0, .slice (some ⟨g + 1 + 1 + 1 + 1, 0, none⟩) 1 1] 26)) (some ⟨g + 1 + 1 + 1 + 1 + 1, 0, none⟩) 3 aT.nodes := by
  subst hg
  refine C_lits kNode (bW w) 26 _ (by simp [bW]) aT.nodes [.int .i64 7, .slice (some ⟨w.heap.size, 0, none⟩) 4 4, .slice none 0 0, .slice none 0 0, .int .i64 8, .slice (some ⟨w.heap.size + 1, 0, none⟩) 3 3, .slice none 0 0, .slice (some ⟨w.heap.size + 1 + 1, 0, none⟩) 1 1, .int .i64 2, .slice (some ⟨w.heap.size + 1 + 1 + 1, 0, none⟩) 3 3, .slice none 0 0, .slice (some ⟨w.heap.size + 1 + 1 + 1 + 1, 0, none⟩) 1 1] ?_ (by decide) rfl
  refine ⟨_, _, (show _ = [_, _, _, _] ++ [_, _, _, _, _, _, _, _] from rfl), K_node ⟨7, [9, 9, 9, 1], [], []⟩ rfl rfl rfl (by decide) (by decide) (by decide) ?_ (C_nil _ _) (C_nil _ _), _, _, (show _ = [_, _, _, _] ++ [_, _, _, _] from rfl), K_node ⟨8, [4, 4, 4], [], [0]⟩ rfl rfl rfl (by decide) (by decide) (by decide) ?_ (C_nil _ _) ?_,
    _, _, (show _ = [_, _, _, _] ++ [] from rfl), K_node ⟨2, [1, 2, 3], [], [1]⟩ rfl rfl rfl (by decide) (by decide) (by decide) ?_ (C_nil _ _) ?_, rfl⟩
  · exact Kd.C_alloc (Kd.C_alloc (Kd.C_alloc (Kd.C_alloc (C_nums _ w _ rfl [9, 9, 9, 1] _ rfl (by decide) rfl) _) _) _) _
  · exact Kd.C_alloc (Kd.C_alloc (Kd.C_alloc (C_nums _ _ _ (by simp) [4, 4, 4] _ rfl (by decide) rfl) _) _) _
  · exact Kd.C_alloc (Kd.C_alloc (C_nums _ _ _ (by simp) [0] _ rfl (by decide) rfl) _) _
  · exact Kd.C_alloc (C_nums _ _ _ (by simp) [1, 2, 3] _ rfl (by decide) rfl) _
  · exact C_nums _ _ _ (by simp) [1] _ rfl (by decide) rfl
theorem rise_rch {ns : List Node} (h : ∀ p : Nat, p < ns.length → ∀ k ∈ kids ns p, (p : Int) < k ∧ k < ns.length) {a : Nat} {l : List Int} (hl : ∀ k ∈ l, (a : Int) < k ∧ k < ns.length) {x : Int} (hr : Rch ns l x) : (a : Int) < x ∧ x < ns.length := by
  induction hr with
  | base hk => exact hl _ hk
  | step _ hk ih =>
    rename_i i k _
    obtain ⟨q, rfl⟩ : ∃ q : Nat, i = (q : Int) := ⟨i.toNat, by omega⟩
    have := h q (by omega) k hk
    omega
theorem rise_cyc {ns : List Node} (h : ∀ p : Nat, p < ns.length → ∀ k ∈ kids ns p, (p : Int) < k ∧ k < ns.length) (p : Nat) (hp : p < ns.length) : ¬ Cyc ns p := fun hc => by
  have := rise_rch h (h p hp) hc
  omega
theorem aS_right : Right aS := by
  have hk : ∀ p : Nat, p < aS.nodes.length → ∀ k ∈ kids aS.nodes p, (p : Int) < k ∧ k < aS.nodes.length := by decide
  refine ⟨by decide, by decide, fun p hp k hk' => ?_, rise_cyc hk, fun p hp => ?_⟩
  · have := hk p hp k hk'; omega
  · have h0 : Rch aS.nodes [aS.root] ((0 : Nat) : Int) := .base (by decide)
    match p, hp with
    | 0, _ => exact h0
    | 1, _ => exact .step h0 (by decide)
    | p + 2, h => exact absurd h (by show ¬ p + 2 < 2; omega)
theorem aU_right : Right (upS aS) := by
  rw [aS_up]
  have hk : ∀ p : Nat, p < 3 → ∀ k ∈ kids [⟨2, [1, 2, 3], [], [1]⟩, ⟨8, [4, 4, 4], [], [2]⟩, ⟨7, [9, 9, 9, 1], [], []⟩] p, (p : Int) < k ∧ k < 3 := by decide
  refine ⟨by decide, by decide, fun p hp k hk' => ?_, rise_cyc hk, fun p hp => ?_⟩
  · have := hk p hp k hk'; show 0 ≤ k ∧ k < 3; omega
  · have h0 : Rch [⟨2, [1, 2, 3], [], [1]⟩, ⟨8, [4, 4, 4], [], [2]⟩, ⟨7, [9, 9, 9, 1], [], []⟩] [0] ((0 : Nat) : Int) := .base (by decide)
    have h1 : Rch [⟨2, [1, 2, 3], [], [1]⟩, ⟨8, [4, 4, 4], [], [2]⟩, ⟨7, [9, 9, 9, 1], [], []⟩] [0] ((1 : Nat) : Int) := .step h0 (by decide)
    match p, hp with
    | 0, _ => exact h0
    | 1, _ => exact h1
    | 2, _ => exact .step h1 (by decide)
    | p + 3, h => exact absurd h (by show ¬ p + 3 < 3; omega)
theorem aS_typed : (typedS oldTab aS.nodes).1 = 0 := by kernel_rfl
theorem aS_err : upErr aS = 0 := by
  unfold upErr
  rw [if_pos aS_typed, if_pos (gcheck_right.2 aS_right)]
  exact gcheck_right.2 aU_right
theorem aS_res : upRes aS = aT := by
  unfold upRes canonR
  rw [if_pos aS_typed, if_pos (gcheck_right.2 aS_right), if_pos (gcheck_right.2 aU_right), aS_can]
  rw [aS_up]
  rfl
theorem a7_up : upR ⟨7, [], [], []⟩ = ([], 9) := by kernel_rfl
theorem aS_small : ∀ i : Nat, i < aS.nodes.length → Small (nd aS.nodes i) := fun i hi => by
  match i, hi with
  | 0, _ => exact ⟨by decide, by decide, by decide⟩
  | 1, _ => exact ⟨by decide, by decide, by decide⟩
  | i + 2, h => exact absurd h (by show ¬ i + 2 < 2; omega)
theorem aT_small : ∀ i : Nat, i < aT.nodes.length → Small (nd aT.nodes i) := fun i hi => by
  match i, hi with
  | 0, _ => exact ⟨by decide, by decide, by decide⟩
  | 1, _ => exact ⟨by decide, by decide, by decide⟩
  | 2, _ => exact ⟨by decide, by decide, by decide⟩
  | i + 3, h => exact absurd h (by show ¬ i + 3 < 3; omega)
theorem aS_texts : ∀ i : Nat, i < aS.nodes.length → TextsSmall (nd aS.nodes i) := fun i hi => by
  match i, hi with
  | 0, _ => exact fun j hj => absurd hj (by show ¬ j < 0; omega)
  | 1, _ => exact fun j hj => absurd hj (by show ¬ j < 0; omega)
  | i + 2, h => exact absurd h (by show ¬ i + 2 < 2; omega)
theorem aS_rows : rows aS.nodes ≤ 130000 := by decide
set_option maxRecDepth 100000 in
set_option maxHeartbeats 4000000 in
theorem awake_any (w : World) (hT : Tabs w) : Calls Tryd.prog 11 #[] w fun e w' => e = .returned (.bool true) ∧ Below w.heap.size w w' := by
  have HT := Aside0.mk hT
  have HS1 := Aside0.mk (aS_C w)
  have HBa : Aside0 (Below w.heap.size w (aW w)) := ⟨below_alloc (below_alloc (below_alloc (Below.refl _ _) _) _) _⟩
  have hua := Tryd.underlying39
  have hun := Tryd.underlying26
  clear hT
  go_enter Tryd.func11, Tryd.ntmps11
  go_wp2_with fail
  refine (up_any (some ⟨w.heap.size + 1 + 1 + 1, 0, none⟩) 2 aS _ (Kd.C_alloc HS1.out _) (HT.out.below (below_alloc (below_alloc HBa.out _) _)) aS_small aS_texts aS_rows).mono ?_
  rintro e w1 ⟨A1, c1, rfl, hR1, hB1⟩
  rw [aS_res] at hR1 ⊢
  rw [aS_err]
  have HB1 := Aside0.mk (below_step (below_alloc (below_alloc HBa.out _) _) hB1)
  have HC1 := Aside0.mk (Kd.R_reads' hR1).2.2
  have HX1 := Aside0.mk (show (w1.alloc (.cells #[.slice A1 3 c1, .int .i64 2] 39)).heap[w1.heap.size]? = some (.cells #[.slice A1 3 c1, .int .i64 2] 39 (0, 0)) from by simpa using heap_alloc_new w1 _)
  clear hR1 hB1
  have HS2 := Aside0.mk (aT_C (w1.alloc (.cells #[.slice A1 3 c1, .int .i64 2] 39)) (w1.heap.size + 1) (by simp))
  have HBb : Aside0 (Below (w1.alloc (.cells #[.slice A1 3 c1, .int .i64 2] 39)).heap.size (w1.alloc (.cells #[.slice A1 3 c1, .int .i64 2] 39)) (bW (w1.alloc (.cells #[.slice A1 3 c1, .int .i64 2] 39)))) := ⟨below_alloc (below_alloc (below_alloc (below_alloc (below_alloc (Below.refl _ _) _) _) _) _) _⟩
  go_wp2_with fail
  refine (upnode_any ⟨7, [], [], []⟩ none 0 none 0 none 0 _ ⟨by decide, by decide, by decide, C_nil _ _, C_nil _ _, C_nil _ _⟩ ⟨by decide, by decide, by decide⟩ (fun j hj => absurd hj (by show ¬ j < 0; omega)) ?_).mono ?_
  · exact HT.out.below (below_alloc (below_alloc (below_step (below_step HB1.out (below_alloc (Below.refl _ _) _)) HBb.out) _) _)
  rintro e w2 ⟨A2, c2, rfl, hR2, hB2⟩
  rw [a7_up]
  have HB2 := Aside0.mk (below_step (below_alloc (below_alloc (below_step (below_step HB1.out (below_alloc (Below.refl _ _) (.cells #[.slice A1 3 c1, .int .i64 2] 39))) HBb.out) (.cells #[.int .i64 7, .slice (some ⟨w1.heap.size + 1, 0, none⟩) 4 4, .slice none 0 0, .slice none 0 0, .int .i64 8, .slice (some ⟨w1.heap.size + 1 + 1, 0, none⟩) 3 3, .slice none 0 0, .slice (some ⟨w1.heap.size + 1 + 1 + 1, 0, none⟩) 1 1, .int .i64 2, .slice (some ⟨w1.heap.size + 1 + 1 + 1 + 1, 0, none⟩) 3 3, .slice none 0 0, .slice (some ⟨w1.heap.size + 1 + 1 + 1 + 1 + 1, 0, none⟩) 1 1] 26)) (.cells #[.slice (some ⟨w1.heap.size + 1 + 1 + 1 + 1 + 1 + 1, 0, none⟩) 3 3, .int .i64 2] 39)) hB2)
  have HBt : Aside0 (Below (w1.alloc (.cells #[.slice A1 3 c1, .int .i64 2] 39)).heap.size (w1.alloc (.cells #[.slice A1 3 c1, .int .i64 2] 39)) w2) := ⟨below_step (below_alloc (below_alloc HBb.out _) _) hB2⟩
  have x0 := pw_cell_below HBt.out (blk_cell HX1.out 0)
  have x1 := pw_cell_below HBt.out (blk_cell HX1.out 1)
  have HY : Aside0 (((((bW (w1.alloc (.cells #[.slice A1 3 c1, .int .i64 2] 39))).alloc (.cells #[.int .i64 7, .slice (some ⟨w1.heap.size + 1, 0, none⟩) 4 4, .slice none 0 0, .slice none 0 0, .int .i64 8, .slice (some ⟨w1.heap.size + 1 + 1, 0, none⟩) 3 3, .slice none 0 0, .slice (some ⟨w1.heap.size + 1 + 1 + 1, 0, none⟩) 1 1, .int .i64 2, .slice (some ⟨w1.heap.size + 1 + 1 + 1 + 1, 0, none⟩) 3 3, .slice none 0 0, .slice (some ⟨w1.heap.size + 1 + 1 + 1 + 1 + 1, 0, none⟩) 1 1] 26)).alloc (.cells #[.slice (some ⟨w1.heap.size + 1 + 1 + 1 + 1 + 1 + 1, 0, none⟩) 3 3, .int .i64 2] 39))).heap[w1.heap.size + 1 + 1 + 1 + 1 + 1 + 1 + 1]? = some (.cells #[.slice (some ⟨w1.heap.size + 1 + 1 + 1 + 1 + 1 + 1, 0, none⟩) 3 3, .int .i64 2] 39 (0, 0))) := ⟨by
    have := heap_alloc_new ((bW (w1.alloc (.cells #[.slice A1 3 c1, .int .i64 2] 39))).alloc (.cells #[.int .i64 7, .slice (some ⟨w1.heap.size + 1, 0, none⟩) 4 4, .slice none 0 0, .slice none 0 0, .int .i64 8, .slice (some ⟨w1.heap.size + 1 + 1, 0, none⟩) 3 3, .slice none 0 0, .slice (some ⟨w1.heap.size + 1 + 1 + 1, 0, none⟩) 1 1, .int .i64 2, .slice (some ⟨w1.heap.size + 1 + 1 + 1 + 1, 0, none⟩) 3 3, .slice none 0 0, .slice (some ⟨w1.heap.size + 1 + 1 + 1 + 1 + 1, 0, none⟩) 1 1] 26)) (.cells #[.slice (some ⟨w1.heap.size + 1 + 1 + 1 + 1 + 1 + 1, 0, none⟩) 3 3, .int .i64 2] 39)
    simpa [bW] using this⟩
  have y0 := pw_cell_below hB2 (blk_cell HY.out 0)
  have y1 := pw_cell_below hB2 (blk_cell HY.out 1)
  have HCt := Aside0.mk (Kd.C_below (Kd.C_alloc HC1.out (.cells #[.slice A1 3 c1, .int .i64 2] 39)) HBt.out)
  have HCw := Aside0.mk (Kd.C_below (Kd.C_alloc HS2.out (.cells #[.slice (some ⟨w1.heap.size + 1 + 1 + 1 + 1 + 1 + 1, 0, none⟩) 3 3, .int .i64 2] 39)) hB2)
  clear hR2 hB2
  go_wp2_with fail
  refine (sameS_any A1 c1 aT (some ⟨w1.heap.size + 1 + 1 + 1 + 1 + 1 + 1, 0, none⟩) 3 aT w2 HCt.out HCw.out aT_small).mono ?_
  rintro e w3 ⟨rfl, hB3⟩
  rw [sameS_yes rfl]
  have HB3 := Aside0.mk (below_step HB2.out hB3)
  clear hB3 x0 x1 y0 y1
  go_wp2
  go_ret
  exact ⟨rfl, HB3.out⟩
end Go.Proofs.YtglfebpgdghlfaaDoor.L
end
