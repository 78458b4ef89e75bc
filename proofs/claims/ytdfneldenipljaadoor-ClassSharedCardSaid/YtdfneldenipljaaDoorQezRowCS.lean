/- A canonical scene has as many numbers by class.Numbers as it has nodes once it is shared, and the root's is the greatest; conditions: none (every scene; the ten tables of Go's library read as the program's text lays them, and the card ties that). Conditions: those that each theorem states. -/
import Derived.Test.YtdfneldenipljaaDoorQed
import Derived.BigQuiet
set_option linter.unusedVariables false
set_option linter.unusedSimpArgs false
section
namespace Go.Proofs.YtdfneldenipljaaDoor.L
open Go.RowKit Go.ChangeShapes Go.WideShapes Go.Proofs.YtdfneldenipljaaDoorW.PrintWords Go.Proofs.YtdfneldenipljaaDoorW.PrintLast Go.Proofs.YtdfneldenipljaaDoorW.PrintMore
attribute [local go_sem] max2_int min2_int max_two min_two max_three min_three max_four min_four
def Own4 (n m : Node) : Prop := n.kind = m.kind ∧ n.ints = m.ints ∧ n.texts = m.texts ∧ n.kids.length = m.kids.length
theorem Own4.refl (n : Node) : Own4 n n := ⟨rfl, rfl, rfl, rfl⟩
theorem Own4.symm {n m : Node} (h : Own4 n m) : Own4 m n := ⟨h.1.symm, h.2.1.symm, h.2.2.1.symm, h.2.2.2.symm⟩
theorem Own4.trans {n m p : Node} (h : Own4 n m) (g : Own4 m p) : Own4 n p := ⟨h.1.trans g.1, h.2.1.trans g.2.1, h.2.2.1.trans g.2.2.1, h.2.2.2.trans g.2.2.2⟩
def Like (a b : List Node) (i j : Nat) : Prop := alkC a b (alkT a b i) i j = true
theorem ahead_kid {a : List Node} (ha : AheadN a) {i k : Nat} (hi : i < a.length) (hk : k < (nd a i).kids.length) : 0 ≤ rd (nd a i).kids (k : Int) ∧ rd (nd a i).kids (k : Int) < (i : Int) := by
  rw [rd_eq hk]
  exact ha i hi _ (List.getElem_mem hk)
theorem like_iff {a b : List Node} (ha : AheadN a) (hb : AheadN b) {i j : Nat} (hi : i < a.length) (hj : j < b.length) :
    Like a b i j ↔ Own4 (nd a i) (nd b j) ∧ ∀ k : Nat, k < (nd a i).kids.length → Like a b (rd (nd a i).kids (k : Int)).toNat (rd (nd b j).kids (k : Int)).toNat := by
  unfold Like
  conv => lhs; unfold alkC
  rw [decide_eq_true_iff]
  refine ⟨fun ⟨h1, h2, h3, h4, h5⟩ => ⟨⟨h1, h2, h3, h4⟩, fun k hk => ?_⟩, fun ⟨⟨h1, h2, h3, h4⟩, h5⟩ => ⟨h1, h2, h3, h4, fun k hk => ?_⟩⟩
  · have x1 := ahead_kid ha hi hk
    have x2 := ahead_kid hb hj (k := k) (by omega)
    have := (h5 k hk).2.2
    rwa [alk_cell a b (by omega) (by omega)] at this
  · have x1 := ahead_kid ha hi hk
    have x2 := ahead_kid hb hj (k := k) (by omega)
    refine ⟨x1.2, x2.2, ?_⟩
    rw [alk_cell a b (by omega) (by omega)]
    exact h5 k hk
theorem like_co {a b : List Node} (ha : AheadN a) (hb : AheadN b) (R : Nat → Nat → Prop)
    (hR : ∀ i j : Nat, R i j → i < a.length ∧ j < b.length ∧ Own4 (nd a i) (nd b j) ∧ ∀ k : Nat, k < (nd a i).kids.length → R (rd (nd a i).kids (k : Int)).toNat (rd (nd b j).kids (k : Int)).toNat) :
    ∀ i j : Nat, R i j → Like a b i j := by
  intro i
  induction i using Nat.strongRecOn with
  | _ i ih =>
    intro j h
    obtain ⟨hi, hj, h1, h2⟩ := hR i j h
    refine (like_iff ha hb hi hj).2 ⟨h1, fun k hk => ?_⟩
    have x1 := ahead_kid ha hi hk
    exact ih _ (by omega) _ (h2 k hk)
theorem kid_nat {a : List Node} (ha : AheadN a) {i k : Nat} (hi : i < a.length) (hk : k < (nd a i).kids.length) : (rd (nd a i).kids (k : Int)).toNat < i := by
  have := ahead_kid ha hi hk
  omega
theorem like_refl {a : List Node} (ha : AheadN a) {i : Nat} (hi : i < a.length) : Like a a i i := by
  refine like_co ha ha (fun p q => p < a.length ∧ p = q) (fun p q h => ?_) i i ⟨hi, rfl⟩
  obtain ⟨hp, rfl⟩ := h
  refine ⟨hp, hp, Own4.refl _, fun k hk => ⟨?_, rfl⟩⟩
  have := kid_nat ha hp hk
  omega
theorem like_symm {a b : List Node} (ha : AheadN a) (hb : AheadN b) {i j : Nat} (hi : i < a.length) (hj : j < b.length) (h : Like a b i j) : Like b a j i := by
  refine like_co hb ha (fun p q => p < b.length ∧ q < a.length ∧ Like a b q p) (fun p q h => ?_) j i ⟨hj, hi, h⟩
  obtain ⟨hp, hq, h⟩ := h
  obtain ⟨h1, h2⟩ := (like_iff ha hb hq hp).1 h
  refine ⟨hp, hq, h1.symm, fun k hk => ?_⟩
  have hk' : k < (nd a q).kids.length := by rw [h1.2.2.2]; exact hk
  have x1 := kid_nat hb hp hk
  have x2 := kid_nat ha hq hk'
  exact ⟨by omega, by omega, h2 k hk'⟩
theorem like_trans {a b c : List Node} (ha : AheadN a) (hb : AheadN b) (hc : AheadN c) {i j m : Nat} (hi : i < a.length) (hj : j < b.length) (hm : m < c.length) (h : Like a b i j) (g : Like b c j m) : Like a c i m := by
  refine like_co ha hc (fun p q => p < a.length ∧ q < c.length ∧ ∃ r, r < b.length ∧ Like a b p r ∧ Like b c r q) (fun p q h => ?_) i m ⟨hi, hm, j, hj, h, g⟩
  obtain ⟨hp, hq, r, hr, h, g⟩ := h
  obtain ⟨h1, h2⟩ := (like_iff ha hb hp hr).1 h
  obtain ⟨g1, g2⟩ := (like_iff hb hc hr hq).1 g
  refine ⟨hp, hq, h1.trans g1, fun k hk => ?_⟩
  have hk' : k < (nd b r).kids.length := by rw [← h1.2.2.2]; exact hk
  have hk2 : k < (nd c q).kids.length := by rw [← g1.2.2.2]; exact hk'
  have x1 := kid_nat ha hp hk
  have x2 := kid_nat hb hr hk'
  have x3 := kid_nat hc hq hk2
  exact ⟨by omega, by omega, _, by omega, h2 k hk, g2 k hk'⟩
theorem like_num {T : Lib.PrintTabs} {vs : List (List UInt8)} {a b : List Node} {p q : List Int} (ha : AheadN a) (hb : AheadN b) (hp : Numd T vs a p) (hq : Numd T vs b q) {i j : Nat} (hi : i < a.length) (hj : j < b.length) :
    Like a b i j ↔ rd p (i : Int) = rd q (j : Int) := alk_num ha hb hp hq i j hi hj
end Go.Proofs.YtdfneldenipljaaDoor.L
end
section
namespace Go.Proofs.YtdfneldenipljaaDoor.L
open Go.RowKit Go.ChangeShapes Go.WideShapes Go.Proofs.YtdfneldenipljaaDoorW.PrintWords Go.Proofs.YtdfneldenipljaaDoorW.PrintLast Go.Proofs.YtdfneldenipljaaDoorW.PrintMore
attribute [local go_sem] max2_int min2_int max_two min_two max_three min_three max_four min_four
theorem canon_ahead {s : Scene} (h : Right s) : AheadN (canonL s) := fun _ hp _ hk => isC_ahead (canon_right h) (canon_isC h) hp hk
theorem canon_len {s : Scene} (h : Right s) : (canonL s).length = s.nodes.length := (canon_iso h).len
end Go.Proofs.YtdfneldenipljaaDoor.L
end
section
namespace Go.Proofs.YtdfneldenipljaaDoor.L
open Go.RowKit Go.ChangeShapes Go.WideShapes Go.Proofs.YtdfneldenipljaaDoorW.PrintWords Go.Proofs.YtdfneldenipljaaDoorW.PrintLast Go.Proofs.YtdfneldenipljaaDoorW.PrintMore
attribute [local go_sem] max2_int min2_int max_two min_two max_three min_three max_four min_four
def canS (s : Scene) : Scene := ⟨canonL s, (s.nodes.length : Int) - 1⟩
def ownC (T : Lib.PrintTabs) (s : Scene) : List Int := (ownS T [] (canonL s)).2
def shr0 (T : Lib.PrintTabs) (s : Scene) : Scene := shrS (ownC T s) (canS s)
def shareS (T : Lib.PrintTabs) (s : Scene) : Scene := canS (shr0 T s)
def SameT (s t : Scene) : Prop := Like (canonL s) (canonL t) (s.nodes.length - 1) (t.nodes.length - 1)
section
variable {T : Lib.PrintTabs} {s t : Scene}
theorem right_pos (h : Right s) : 0 < s.nodes.length := by have := h.r0; have := h.r1; omega
theorem ownC_cls (T : Lib.PrintTabs) (h : Right s) : Cls (canonL s) (ownC T s) := own_cls T (canon_ahead h)
theorem ownC_numd (T : Lib.PrintTabs) (h : Right s) : Numd T (ownS T [] (canonL s)).1 (canonL s) (ownC T s) := (own_spec T [] (canon_ahead h)).numd
theorem ownC_like (h : Right s) {i j : Nat} (hi : i < (canonL s).length) (hj : j < (canonL s).length) : Like (canonL s) (canonL s) i j ↔ rd (ownC T s) (i : Int) = rd (ownC T s) (j : Int) :=
  like_num (canon_ahead h) (canon_ahead h) (ownC_numd T h) (ownC_numd T h) hi hj
theorem shr0_right (T : Lib.PrintTabs) (h : Right s) : Right (shr0 T s) := shr_right (s := canS s) (canon_right h) (ownC_cls T h)
theorem shr0_len (T : Lib.PrintTabs) (s : Scene) : (shr0 T s).nodes.length = cntF (ownC T s) 0 (canonL s).length := shr_len _ _ _
theorem same_lt (h : Right s) : s.nodes.length - 1 < (canonL s).length := by
  have := right_pos h
  rw [canon_len h]; omega
theorem SameT.refl (h : Right s) : SameT s s := like_refl (canon_ahead h) (same_lt h)
theorem SameT.symm (hs : Right s) (ht : Right t) (h : SameT s t) : SameT t s := like_symm (canon_ahead hs) (canon_ahead ht) (same_lt hs) (same_lt ht) h
theorem SameT.trans {u : Scene} (hs : Right s) (ht : Right t) (hu : Right u) (h : SameT s t) (g : SameT t u) : SameT s u := like_trans (canon_ahead hs) (canon_ahead ht) (canon_ahead hu) (same_lt hs) (same_lt ht) (same_lt hu) h g
end
end Go.Proofs.YtdfneldenipljaaDoor.L
end
section
namespace Go.Proofs.YtdfneldenipljaaDoor.L
open Go.RowKit Go.ChangeShapes Go.WideShapes Go.Proofs.YtdfneldenipljaaDoorW.PrintWords Go.Proofs.YtdfneldenipljaaDoorW.PrintLast Go.Proofs.YtdfneldenipljaaDoorW.PrintMore
attribute [local go_sem] max2_int min2_int max_two min_two max_three min_three max_four min_four
structure FitN (n : Node) : Prop where
  ints : n.ints.length ≤ 100
  texts : n.texts.length ≤ 100
  kids : n.kids.length ≤ 300
  size : ∀ x ∈ n.texts, x.size ≤ 500
  nb : NBd n
theorem FitN.small {n : Node} (h : FitN n) : Small n := ⟨by have := h.ints; omega, by have := h.texts; omega, by have := h.kids; omega⟩
theorem FitN.like {n m : Node} (h : FitN n) (h1 : m.kind = n.kind) (h2 : m.ints = n.ints) (h3 : m.texts = n.texts) (h4 : m.kids.length = n.kids.length) : FitN m :=
  ⟨by rw [h2]; exact h.ints, by rw [h3]; exact h.texts, by rw [h4]; exact h.kids, by rw [h3]; exact h.size, ⟨by rw [h1]; exact h.nb.kind, by rw [h2]; exact h.nb.ints⟩⟩
def Fit (ns : List Node) : Prop := ns.length ≤ 60 ∧ ∀ i : Nat, i < ns.length → FitN (nd ns i)
theorem Fit.rows {ns : List Node} (h : Fit ns) : L.rows ns ≤ 130000 := by
  have h1 := rows_leB (ns := ns) (b := 300) (fun i hi => (h.2 i hi).kids)
  have h2 : ns.length * (300 + 1) ≤ 60 * 301 := Nat.mul_le_mul (by have := h.1; omega) (by omega)
  omega
theorem Fit.small {ns : List Node} (h : Fit ns) : ∀ i : Nat, i < ns.length → Small (nd ns i) := fun i hi => (h.2 i hi).small
theorem fit_of_great {s : Scene} (hg : greatS s = false) (hN : ∀ i : Nat, i < s.nodes.length → NBd (nd s.nodes i)) : Fit s.nodes := by
  have h1 := of_decide_eq_false hg
  refine ⟨Nat.le_of_not_lt fun e => h1 (.inl e), fun i hi => ?_⟩
  have h3 := of_decide_eq_false (Bool.eq_false_iff.2 (fun e => h1 (.inr (.inr ⟨i, hi, e⟩))) : greatN (nd s.nodes i) = false)
  refine ⟨Nat.le_of_not_lt fun e => h3 (.inl e), Nat.le_of_not_lt fun e => h3 (.inr (.inl e)), Nat.le_of_not_lt fun e => h3 (.inr (.inr (.inl e))), fun x hx => ?_, hN i hi⟩
  obtain ⟨j, hj, rfl⟩ := List.getElem_of_mem hx
  refine Nat.le_of_not_lt fun e => h3 (.inr (.inr (.inr ⟨j, hj, ?_⟩)))
  unfold str
  rw [getD_eq _ hj]
  exact e
theorem fit_of_mem {ns : List Node} (h1 : ns.length ≤ 60) (h2 : ∀ n ∈ ns, FitN n) : Fit ns := ⟨h1, fun i hi => h2 _ (by unfold nd; rw [getD_eq _ hi]; exact List.getElem_mem hi)⟩
theorem Fit.canon {s : Scene} (hr : Right s) (h : Fit s.nodes) : Fit (canonL s) := by
  refine fit_of_mem (by rw [canon_len hr]; exact h.1) (fun n hn => ?_)
  obtain ⟨q, hq, rfl⟩ := List.mem_map.1 hn
  have hpl := ord_pl hr q hq
  refine (h.2 q.toNat (by have := hpl.1; have := hpl.2; omega)).like rfl rfl rfl ?_
  show (List.map _ _).length = _
  rw [List.length_map]
theorem shrU_mem {ns : List Node} {own : List Int} : ∀ {m : Nat}, ∀ n ∈ shrU ns own m, ∃ i : Nat, i < m ∧ n = reN own (nd ns i)
  | 0, n, h => by cases h
  | m + 1, n, h => by
    have h : n ∈ (if rd own (m : Int) = ((shrU ns own m).length : Int) then shrU ns own m ++ [reN own (nd ns m)] else shrU ns own m) := h
    split at h
    · rcases List.mem_append.1 h with h | h
      · obtain ⟨i, hi, e⟩ := shrU_mem n h
        exact ⟨i, by omega, e⟩
      · exact ⟨m, by omega, List.mem_singleton.1 h⟩
    · obtain ⟨i, hi, e⟩ := shrU_mem n h
      exact ⟨i, by omega, e⟩
theorem cnt_le (own : List Int) : ∀ n : Nat, cntF own 0 n ≤ n
  | 0 => Nat.le_refl _
  | n + 1 => by
    have ih := cnt_le own n
    show (if rd own (n : Int) = (cntF own 0 n : Int) then cntF own 0 n + 1 else cntF own 0 n) ≤ n + 1
    split <;> omega
theorem Fit.shr {ns : List Node} (own : List Int) (h : Fit ns) : Fit (shrU ns own ns.length) := by
  refine fit_of_mem (by rw [shr_len]; have := cnt_le own ns.length; have := h.1; omega) (fun n hn => ?_)
  obtain ⟨i, hi, rfl⟩ := shrU_mem n hn
  refine (h.2 i hi).like rfl rfl rfl ?_
  show (List.map _ _).length = _
  rw [List.length_map]
theorem Fit.shr0 {s : Scene} (T : Lib.PrintTabs) (hr : Right s) (h : Fit s.nodes) : Fit (L.shr0 T s).nodes := (h.canon hr).shr _
end Go.Proofs.YtdfneldenipljaaDoor.L
end
section
namespace Go.Proofs.YtdfneldenipljaaDoor.L
open Go.RowKit Go.ChangeShapes Go.WideShapes Go.Proofs.YtdfneldenipljaaDoorW.PrintWords Go.Proofs.YtdfneldenipljaaDoorW.PrintLast Go.Proofs.YtdfneldenipljaaDoorW.PrintMore
attribute [local go_sem] max2_int min2_int max_two min_two max_three min_three max_four min_four
theorem rcanon_right (A : Option Addr) (c : Nat) (s : Scene) (w : World) (h : kNode.C w A s.nodes.length s.nodes) (hc : s.nodes.length ≤ c) (hR : Right s) (hF : Fit s.nodes) :
    Calls Tryd.prog 37 #[.agg #[.slice A s.nodes.length c, .int .i64 s.root]] w (SceneRPost (canS s) w) := by
  have h1 := rcanon_any A c s (ord s) _ w h hc hF.small (order_f hR.dag ⟨hR.r0, hR.r1⟩ (by have := hF.rows; omega)) (by rw [ord_len hR]; have := hF.1; omega) (ord_met' hR.dag ⟨hR.r0, hR.r1⟩).shut.pl
  have e : (⟨refCanL s.nodes (ord s), ((ord s).length : Int) - 1⟩ : Scene) = canS s := by rw [refCan_eq hR.dag ⟨hR.r0, hR.r1⟩, ord_len hR]; rfl
  rwa [e] at h1
end Go.Proofs.YtdfneldenipljaaDoor.L
end
section
namespace Go.Proofs.YtdfneldenipljaaDoor.L
open Go.RowKit Go.ChangeShapes Go.WideShapes Go.Proofs.YtdfneldenipljaaDoorW.PrintWords Go.Proofs.YtdfneldenipljaaDoorW.PrintLast Go.Proofs.YtdfneldenipljaaDoorW.PrintMore
attribute [local go_sem] max2_int min2_int max_two min_two max_three min_three max_four min_four
structure IntsOut (w : World) (outs : List (List Int)) (v W) : Prop where
  out : kInts.R 31 W w.heap.size (fun _ => True) v outs
  below : Below w.heap.size w W
structure IntsIn (w Wg : World) (outs : List (List Int)) (own : List Int) (vo v : Value) (W : World) : Prop where
  out : kInts.R 31 W w.heap.size (fun q => q < Wg.heap.size) vo outs
  own : (Kd.int .i64).R 3 W w.heap.size (fun q => Wg.heap.size ≤ q) v own
  since : Below Wg.heap.size Wg W
  below : Below w.heap.size w W
theorem IntsIn.later {w Wg : World} {outs : List (List Int)} {own : List Int} {vo v : Value} {W W1 : World} (h : IntsIn w Wg outs own vo v W) (hb : Below W.heap.size W W1) : IntsIn w Wg outs own vo v W1 :=
  ⟨Kd.R_below h.out hb, Kd.R_below h.own hb, below_step h.since hb, below_step h.below hb⟩
theorem IntsIn.start {w W : World} {outs : List (List Int)} {vo : Value} (h : IntsOut w outs vo W) : IntsIn w W outs [] vo (.slice (some ⟨W.heap.size, 0, none⟩) 0 0) (W.alloc (.cells #[] 3)) := by
  have hb := below_alloc (Below.refl W.heap.size W) (.cells #[] 3)
  refine ⟨Kd.R_below (Kd.R_mono (Kd.R_bound h.out) (fun q hq => hq.2.2.1)) hb, ?_, hb, below_step h.below hb⟩
  exact Kd.R_mono (Kd.R_bound (R_empty (Kd.int .i64) 3 W W.heap.size (Nat.le_refl _))) (fun q hq => hq.2.1) |> fun h' => Kd.R_lower h' h.below.size
theorem IntsIn.pushed {w Wg : World} {outs : List (List Int)} {own : List Int} {vo v v2 : Value} {x : Int} {W W2 : World} (h : IntsIn w Wg outs own vo v W) (hR : (Kd.int .i64).R 3 W2 w.heap.size (fun q => Wg.heap.size ≤ q) v2 (own ++ [x])) (hB : Below w.heap.size w W2) (hg : W.grownBy W2 v.ownBlock) : IntsIn w Wg outs (own ++ [x]) vo v2 W2 :=
  ⟨Kd.R_grown h.out hg (fun k hk e => by have := h.own.1 k e.symm; omega), hR, h.since.grown hg h.since.size (fun q hq => h.own.1 q hq), hB⟩
def Seek (c : Nat) (P : Prop) (t z : Int) : Prop := (z = -1 ∧ P) ∨ (z = t ∧ 0 ≤ t ∧ t < (c : Int))
theorem Seek.no {c : Nat} {P : Prop} {t z : Int} (h : Seek c P t z) (hz : z < 0) : z = -1 ∧ P := by
  rcases h with h | h
  · exact h
  · omega
theorem Seek.yes {c : Nat} {P : Prop} {t z : Int} (h : Seek c P t z) (hz : ¬ z < 0) : z = t ∧ 0 ≤ t ∧ t < (c : Int) := by
  rcases h with h | h
  · omega
  · exact h
end Go.Proofs.YtdfneldenipljaaDoor.L
end
section
namespace Go.Proofs.YtdfneldenipljaaDoor.L
open Go.RowKit Go.ChangeShapes Go.WideShapes Go.Proofs.YtdfneldenipljaaDoorW.PrintWords Go.Proofs.YtdfneldenipljaaDoorW.PrintLast Go.Proofs.YtdfneldenipljaaDoorW.PrintMore
attribute [local go_sem] max2_int min2_int max_two min_two max_three min_three max_four min_four
structure ShRel (w1 : World) (xs : List Node) (l : List Int) (v4 v6 : Value) (W : World) : Prop where
  below : Below w1.heap.size w1 W
  out : W.heap[w1.heap.size]? = some (.cells #[v4, .int .i64 0] 34 (0, 0))
  row : kNode.R 52 W w1.heap.size (fun k => some k ≠ v6.ownBlock) v4 xs
  tor : (Kd.int .i64).R 3 W w1.heap.size (fun _ => True) v6 l
theorem ShRel.start (w1 : World) : ShRel w1 [] [] (.slice none 0 0) (.slice (some ⟨w1.heap.size + 1, 0, none⟩) 0 0) ((w1.alloc (.cells #[.slice none 0 0, .int .i64 0] 34)).alloc (.cells #[] 3)) := by
  have b1 := below_alloc (Below.refl w1.heap.size w1) (.cells #[.slice none 0 0, .int .i64 0] 34)
  have n1 := heap_alloc_new w1 (.cells #[.slice none 0 0, .int .i64 0] 34)
  generalize hW : w1.alloc (.cells #[.slice none 0 0, .int .i64 0] 34) = W at b1 n1
  have hs : W.heap.size = w1.heap.size + 1 := by rw [← hW]; simp
  have b2 := below_alloc (Below.refl W.heap.size W) (.cells #[] 3)
  refine ⟨below_step b1 b2, (b2.block _ (by omega)).trans n1, Kd.R_nil _ _ _ _ _, ?_⟩
  have h := R_empty (Kd.int .i64) 3 W w1.heap.size (by omega)
  rwa [hs] at h
theorem ShRel.later {w1 : World} {xs : List Node} {l : List Int} {v4 v6 : Value} {W W1 : World} (h : ShRel w1 xs l v4 v6 W) (hb : Below W.heap.size W W1) : ShRel w1 xs l v4 v6 W1 :=
  ⟨below_step h.below hb, (hb.block _ (blk_lt h.out)).trans h.out, Kd.R_below h.row hb, Kd.R_below h.tor hb⟩
theorem ShRel.node {w1 : World} {xs ys : List Node} {l : List Int} {v4 v5 v6 : Value} {W w2 : World} (h : ShRel w1 xs l v4 v6 W) (hR : kNode.R 52 w2 w1.heap.size (fun k => some k ≠ v6.ownBlock) v5 ys) (hB : Below w1.heap.size w1 w2) (hg : W.grownBy w2 v4.ownBlock) :
    w2.heap[w1.heap.size]? = some (.cells #[v4, .int .i64 0] 34 (0, 0)) ∧ ShRel w1 ys l v5 v6 (w2.setCell ⟨w1.heap.size, 0, none⟩ v5) := by
  have hb := blk_grown h.out hg (Kd.R_ne h.row h.out (by decide))
  refine ⟨hb, below_set hB (Nat.le_refl _), ?_, R_type hR hb (by decide) v5 0, R_type (Kd.R_grown (Kd.R_mono (Kd.R_tight rfl h.tor) (fun k hk => R_apart h.tor h.row (by decide) k hk)) hg (fun k hk => hk) |> fun h' => Kd.R_mono h' (fun _ _ => trivial)) hb (by decide) v5 0⟩
  have := blk_set hb 0 v5
  simpa using this
theorem ShRel.num {w1 : World} {xs : List Node} {l : List Int} {x : Int} {v4 v6 v7 : Value} {W w2 : World} (h : ShRel w1 xs l v4 v6 W) (hR : (Kd.int .i64).R 3 w2 w1.heap.size (fun _ => True) v7 (l ++ [x])) (hB : Below w1.heap.size w1 w2) (hg : W.grownBy w2 v6.ownBlock) (hat : v7.ownBlock = v6.ownBlock ∨ ∃ b, v7.ownBlock = some b ∧ W.heap.size ≤ b) :
    ShRel w1 xs (l ++ [x]) v4 v7 w2 := by
  refine ⟨hB, blk_grown h.out hg (Kd.R_ne h.tor h.out (by decide)), ?_, hR⟩
  have h1 := Kd.R_grown (Kd.R_bound h.row) hg (fun k hk => hk.1)
  refine Kd.R_mono h1 (fun k hk => ?_)
  rcases hat with e | ⟨b, e, hb⟩
  · rw [e]; exact hk.1
  · rw [e]
    intro e2
    injection e2 with e2
    have := hk.2.2.1
    omega
theorem ownC_fresh (T : Lib.PrintTabs) {ns : List Node} (hA : AheadN ns) {j : Nat} (hj : j < ns.length) (h : ∀ m : Nat, m < j → rd (ownS T [] ns).2 (m : Int) ≠ rd (ownS T [] ns).2 (j : Int)) : rd (ownS T [] ns).2 (j : Int) = (cntF (ownS T [] ns).2 0 j : Int) := by
  refine Classical.byContradiction fun hn => ?_
  rcases num_seen (T := T) (l := []) (s := ⟨ns, 0⟩) (fun x hx => by simp at hx) hA hj hn with ⟨k, m, hk, _⟩ | ⟨m, hm, he⟩
  · exact absurd hk (Nat.not_lt_zero _)
  · exact h m hm he
theorem shrU_new {ns : List Node} {own : List Int} {i : Nat} (h : rd own (i : Int) = (cntF own 0 i : Int)) : shrU ns own (i + 1) = shrU ns own i ++ [reN own (nd ns i)] := by
  show (if rd own (i : Int) = ((shrU ns own i).length : Int) then shrU ns own i ++ [reN own (nd ns i)] else shrU ns own i) = _
  rw [shr_len, if_pos h]
theorem shrU_old {ns : List Node} {own : List Int} {i : Nat} (h : rd own (i : Int) < (cntF own 0 i : Int)) : shrU ns own (i + 1) = shrU ns own i := by
  show (if rd own (i : Int) = ((shrU ns own i).length : Int) then shrU ns own i ++ [reN own (nd ns i)] else shrU ns own i) = _
  rw [shr_len, if_neg (by omega)]
set_option maxRecDepth 100000 in
set_option maxHeartbeats 8000000 in
theorem rshare_any (T : Lib.PrintTabs) (A : Option Addr) (c : Nat) (s : Scene) (w : World) (h : kNode.C w A s.nodes.length s.nodes) (hc : s.nodes.length ≤ c) (hRt : Right s) (hF : Fit s.nodes) :
    Calls Tryd.prog 21 #[.agg #[.slice A s.nodes.length c, .int .i64 s.root]] w (SceneRPost (shareS T s) w) := by
  have HR := Aside0.mk h
  have HRt := Aside0.mk hRt
  have HF := Aside0.mk hF
  have hu := Tryd.underlying34
  have hun := Tryd.underlying52
  have HB := Aside0.mk (below_alloc (below_alloc (Below.refl w.heap.size w) (.cells #[.slice A s.nodes.length c, .int .i64 s.root] 34)) (.cells #[.slice none 0 0, .int .i64 0] 34))
  have k0 := box_cell2 w _ rfl #[.slice A s.nodes.length c, .int .i64 s.root] 34 (.cells #[.slice none 0 0, .int .i64 0] 34) 0 (.slice A s.nodes.length c) rfl
  have k1 := box_cell2 w _ rfl #[.slice A s.nodes.length c, .int .i64 s.root] 34 (.cells #[.slice none 0 0, .int .i64 0] 34) 1 (.int .i64 s.root) rfl
  have HL := Aside0.mk (show ((w.alloc (.cells #[.slice A s.nodes.length c, .int .i64 s.root] 34)).alloc (.cells #[.slice none 0 0, .int .i64 0] 34)).heap[w.heap.size + 1]? = some (.cells #[.slice none 0 0, .int .i64 0] 34 (0, 0)) from by
    have := heap_alloc_new (w.alloc (.cells #[.slice A s.nodes.length c, .int .i64 s.root] 34)) (.cells #[.slice none 0 0, .int .i64 0] 34)
    simpa using this)
  -- the canonical scene, and its numbers
  have HCA := Aside0.mk (show AheadN (canS s).nodes from canon_ahead hRt)
  have HCF := Aside0.mk (show Fit (canS s).nodes from hF.canon hRt)
  have HCr := Aside0.mk (show (canS s).root = ((canS s).nodes.length : Int) - 1 ∧ 0 < (canS s).nodes.length from by
    have h1 := canon_len hRt
    have h2 := right_pos hRt
    exact ⟨by show (s.nodes.length : Int) - 1 = ((canonL s).length : Int) - 1; rw [h1], by show 0 < (canonL s).length; omega⟩)
  have HOw := Aside0.mk (show Cls (canS s).nodes (ownC T s) from ownC_cls T hRt)
  have HOl := Aside0.mk (show (ownC T s).length = (canS s).nodes.length from own_len T [] _ _ rfl)
  have HOf := Aside0.mk (show ∀ j : Nat, j < (canS s).nodes.length → (∀ m : Nat, m < j → rd (ownC T s) (m : Int) ≠ rd (ownC T s) (j : Int)) → rd (ownC T s) (j : Int) = (cntF (ownC T s) 0 j : Int) from fun j hj hh => ownC_fresh T (canon_ahead hRt) hj hh)
  have HOt := Aside0.mk (show ∀ i j : Nat, i < (canS s).nodes.length → j < (canS s).nodes.length → (((alkT (canS s).nodes (canS s).nodes (canS s).nodes.length).getD i []).getD j false = true ↔ rd (ownC T s) (i : Int) = rd (ownC T s) (j : Int)) from fun i j hi hj => by
    rw [alk_cell _ _ hi hj]
    exact ownC_like hRt hi hj)
  have HSh := Aside0.mk (show shr0 T s = ⟨shrU (canS s).nodes (ownC T s) (canS s).nodes.length, rd (ownC T s) (canS s).root⟩ from rfl)
  have HSr := Aside0.mk (shr0_right T hRt)
  have HSf := Aside0.mk (hF.shr0 T hRt)
  have HSe := Aside0.mk (show shareS T s = canS (shr0 T s) from rfl)
  clear h hRt hF
  go_enter Tryd.func21, Tryd.ntmps21
  go_wp2_with fail
  refine (rcanon_right A c s _ (Kd.C_below HR.out HB.out) hc HRt.out HF.out).mono ?_
  rintro e w1 ⟨B, d, rfl, hR1, hB1⟩
  have HB1 := Aside0.mk (below_step HB.out hB1)
  have HL1 := Aside0.mk ((hB1.block _ (blk_lt HL.out)).trans HL.out)
  have HC1 := Aside0.mk (Kd.R_reads' hR1).2.2
  have hcd := (Kd.R_reads' hR1).2.1
  clear hR1 hB1 k0 k1 HL HB HR HF HRt
  generalize shr0 T s = S0 at HSh HSr HSf HSe
  generalize ownC T s = own at HOw HOl HOf HOt HSh
  generalize canS s = C at HCA HCF HCr HOw HOl HOf HOt HSh HC1 hcd ⊢
  have hn60 : C.nodes.length ≤ 60 := HCF.out.1
  have e0 := box_cell w1 _ rfl #[.slice B C.nodes.length d, .int .i64 C.root] 34 0 (.slice B C.nodes.length d) rfl
  have e1 := box_cell w1 _ rfl #[.slice B C.nodes.length d, .int .i64 C.root] 34 1 (.int .i64 C.root) rfl
  have hA2 := below_alloc (Below.refl w1.heap.size w1) (.cells #[.slice B C.nodes.length d, .int .i64 C.root] 34)
  go_wp2_with fail
  generalize w1.alloc (.cells #[.slice B C.nodes.length d, .int .i64 C.root] 34) = w2 at e0 e1 hA2 ⊢
  have HC2 := Aside0.mk (Kd.C_below HC1.out hA2)
  have HL2 := Aside0.mk ((hA2.block _ (blk_lt HL1.out)).trans HL1.out)
  have HB2 := Aside0.mk (below_step HB1.out hA2)
  clear hA2 HC1 HL1 HB1
  refine (alike_any B d C B d C w2 HC2.out hcd HC2.out hcd HCF.out.small (fun p hp q hq => (HCA.out p hp q hq).1) (fun p hp q hq => (HCA.out p hp q hq).1) (by omega) (by omega)).mono ?_
  rintro e w3 ⟨A3, c3, rfl, hc3, hTab, hB3⟩
  replace e0 := pw_cell_below hB3 e0
  replace e1 := pw_cell_below hB3 e1
  have HE0 := Aside0.mk e0
  have HE1 := Aside0.mk e1
  have HC3 := Aside0.mk (Kd.C_below HC2.out hB3)
  have HL3 := Aside0.mk ((hB3.block _ (blk_lt HL2.out)).trans HL2.out)
  have HB3 := Aside0.mk (below_step HB2.out hB3)
  have HTab := Aside0.mk hTab
  have HTr := Aside0.mk (fun (p : Nat) (hp : p < C.nodes.length) => alkT_row C.nodes C.nodes hp)
  clear hTab hB3 HC2 HL2 HB2 e0 e1
  generalize alkT C.nodes C.nodes C.nodes.length = tab at HTab HTr HOt
  have HTs := Aside0.mk (fun (p : Nat) (hp : p < C.nodes.length) => (show (tab.getD p []).length = C.nodes.length from by rw [HTr.out p hp]; simp))
  clear HTr
  have HI0 := Aside0.mk (ShRel.start w3)
  go_wp2
  generalize (w3.alloc (.cells #[.slice none 0 0, .int .i64 0] 34)).alloc (.cells #[] 3) = W5 at HI0 ⊢
  go_loopw [7, 6] (fun v7 v6 W => ∃ (i : Nat) (v4 vt : Value), i ≤ C.nodes.length ∧ v7 = .int .i64 i ∧ vt = v6 ∧ Aside0 (ShRel w3 (shrU C.nodes own i) (own.take i) v4 vt W)) (fun v7 _ _ => C.nodes.length - (intOf v7).toNat)
  case atStart => exact ⟨0, _, _, by omega, rfl, rfl, ⟨by rw [List.take_zero]; exact HI0.out⟩⟩
  case round =>
    clear HI0
    obtain ⟨i, v4, vt, hi, rfl, rfl, HI⟩ := hrel
    have e0 := pw_cell_below HI.out.below HE0.out
    by_cases hlt : i < C.nodes.length
    · have HT0 := Aside0.mk (HOw.out.rise i hlt)
      have HTf := Aside0.mk (HOf.out i hlt)
      generalize ht : rd own (i : Int) = t at HT0 HTf
      have HTe := Aside0.mk ht
      clear ht
      have HOx := Aside0.mk (show own.take (i + 1) = own.take i ++ [t] from by rw [take_succ_rd (by rw [HOl.out]; exact hlt), HTe.out])
      have HOl2 := Aside0.mk (show (own.take i).length = i ∧ i ≤ 60 ∧ ∀ m : Nat, m < i → rd (own.take i) (m : Int) = rd own (m : Int) from ⟨by rw [List.length_take, HOl.out]; omega, by omega, fun m hm => by
        have h1 : m < (own.take i).length := by rw [List.length_take, HOl.out]; omega
        rw [rd_eq h1, rd_eq (by rw [HOl.out]; omega), List.getElem_take]⟩)
      have HXl := Aside0.mk (show (shrU C.nodes own i).length = cntF own 0 i ∧ cntF own 0 i ≤ i from ⟨shr_len _ _ _, cnt_le _ _⟩)
      have HXo := Aside0.mk (fun h => shrU_old (ns := C.nodes) (own := own) (i := i) h)
      have HXn := Aside0.mk (fun h => shrU_new (ns := C.nodes) (own := own) (i := i) h)
      rw [HTe.out] at HXo HXn
      generalize shrU C.nodes own i = xs at HI HXl HXo HXn
      generalize own.take i = tol at HI HOx HOl2
      go_wp2
      clear e0
      go_loopw [9, 8] (fun v9 v8 W => ∃ (m : Nat) (z : Int), m ≤ i ∧ v9 = .int .i64 m ∧ v8 = .int .i64 z ∧ Aside0 (Seek (cntF own 0 i) (∀ m' : Nat, m' < m → rd own (m' : Int) ≠ t) t z) ∧ Aside0 (ShRel w3 xs tol v4 vt W)) (fun v9 _ _ => i - (intOf v9).toNat)
      case atStart => exact ⟨0, -1, by omega, rfl, rfl, ⟨.inl ⟨rfl, fun k h => by omega⟩⟩, HI⟩
      case round =>
        clear HI
        obtain ⟨m, z, hm, rfl, rfl, HZ, HI⟩ := hrel
        have e0 := pw_cell_below HI.out.below HE0.out
        by_cases hz : z < 0
        · obtain ⟨hz1, hP4⟩ := HZ.out.no hz
          subst hz1
          have HP4 := Aside0.mk hP4
          by_cases hml : m < i
          · obtain ⟨a2, Bp, dp, rfl, o0, -, hCp⟩ := at_bools HTab.out i hlt
            rw [HTs.out i hlt] at o0 hCp
            obtain ⟨ap, rfl, o1⟩ := at_bool hCp m (by omega)
            replace o0 := pw_cell_below HI.out.below o0
            replace o1 := pw_cell_below HI.out.below o1
            have hmi := HOt.out i m hlt (by omega)
            have hjk : (i : Int) < (C.nodes.length : Int) := by omega
            have hmk : (m : Int) < (C.nodes.length : Int) := by omega
            rw [HTe.out] at hmi
            clear hP4 hCp hz HZ e0
            cases hzb : (tab.getD i []).getD m false with
            | false =>
              rw [hzb] at o1 hmi
              have HP5 := Aside0.mk (ext_lt HP4.out (fun e => by have := hmi.2 e.symm; cases this))
              clear hzb hmi
              go_wp2
              go_roundw
              case rel => exact ⟨m + 1, -1, by omega, by go_num, rfl, ⟨.inl ⟨rfl, HP5.out⟩⟩, HI⟩
              case measure => simp [intOf]; omega
            | true =>
              rw [hzb] at o1 hmi
              have he := hmi.1 rfl
              obtain ⟨Av, cv, hv⟩ := Kd.R_slice HI.out.tor
              subst hv
              obtain ⟨av, rfl, r1⟩ := at_nat (Kd.R_reads' HI.out.tor).2.2 m (by have := HOl2.out.1; omega)
              rw [HOl2.out.2.2 m hml, ← he] at r1
              have hmo : (m : Int) < (tol.length : Int) := by have := HOl2.out.1; omega
              have hlt2 := HOw.out.rise.lt (i := m) (m := i) hml (by omega)
              have h02 := (HOw.out.rise m (by omega)).1
              rw [← he] at hlt2 h02
              have HS5 := Aside0.mk (show Seek (cntF own 0 i) (∀ m' : Nat, m' < m + 1 → rd own (m' : Int) ≠ t) t t from .inr ⟨rfl, h02, hlt2⟩)
              clear hzb hmi he hlt2 h02
              go_wp2
              go_roundw
              case rel => exact ⟨m + 1, t, by omega, by go_num, rfl, HS5, HI⟩
              case measure => simp [intOf]; omega
          · obtain rfl : i = m := by omega
            have HTq := Aside0.mk (HTf.out hP4)
            have HXe := Aside0.mk (HXn.out HTq.out)
            have HNk := Aside0.mk (HCA.out i hlt)
            have HSq := Aside0.mk ((HCF.out.2 i hlt).small)
            have hkl : (nd C.nodes i).kids.length ≤ 300 := (HCF.out.2 i hlt).kids
            obtain ⟨adn, A1, c1, A2, c2, A5, c5, rfl, x0, x1, x2, x3, hN⟩ := at_node HC3.out i hlt
            replace x0 := pw_cell_below HI.out.below x0
            replace x1 := pw_cell_below HI.out.below x1
            replace x2 := pw_cell_below HI.out.below x2
            replace x3 := pw_cell_below HI.out.below x3
            have HN := Aside0.mk hN
            clear hN hP4 hz HZ
            unfold reN at HXe
            generalize nd C.nodes i = n at x0 x1 x2 x3 HN HXe HNk HSq hkl
            go_wp2_with fail
            refine (rcopy_any n A1 c1 A2 c2 A5 c5 wr (HN.out.below HI.out.below) HSq.out).mono ?_
            rintro e w6 ⟨_, rfl, ⟨v1, v2, v3, rfl, hM⟩, hB6⟩
            obtain ⟨v1', v2', v3', ev, hR1, hR2, hR3⟩ := kNode_openM hM
            injection ev with _ ev
            injection ev with f1 ev
            injection ev with f2 ev
            injection ev with f3 _
            subst f1 f2 f3
            obtain ⟨B1, d1, rfl⟩ := Kd.R_slice hR1
            obtain ⟨B2, d2, rfl⟩ := Kd.R_slice hR2
            obtain ⟨B3, d3, rfl⟩ := Kd.R_slice hR3
            have HK : Aside0 (KidB (rd own) n (.slice B1 n.ints.length d1) (.slice B2 n.texts.length d2) (.slice B3 n.kids.length d3) 0 w6.heap.size wr (w6.alloc (.cells #[.int .i64 n.kind, .slice B1 n.ints.length d1, .slice B2 n.texts.length d2, .slice B3 n.kids.length d3] 52))) := ⟨⟨below_step hB6 (below_alloc (Below.refl _ _) _), hB6.size, by simpa using heap_alloc_new w6 _, Kd.R_alloc hR1 _, Kd.R_alloc hR2 _, by rw [mapTake_zero]; exact Kd.R_alloc hR3 _⟩⟩
            clear hM hR1 hR2 hR3 hB6 x0 x1 x2 x3 e0
            go_wp2
            generalize (w6.alloc (.cells #[.int .i64 n.kind, .slice B1 n.ints.length d1, .slice B2 n.texts.length d2, .slice B3 n.kids.length d3] 52)) = W7 at HK ⊢
            generalize w6.heap.size = g6 at HK ⊢
            obtain ⟨W0, hW0⟩ : ∃ W, W = wr := ⟨_, rfl⟩
            rw [← hW0] at HI HK
            clear hW0
            obtain ⟨Av, cv, hv⟩ := Kd.R_slice HI.out.tor
            subst hv
            go_loopw [11] (fun v11 W => ∃ j : Nat, j ≤ n.kids.length ∧ v11 = .int .i64 j ∧ Aside0 (KidB (rd own) n (.slice B1 n.ints.length d1) (.slice B2 n.texts.length d2) (.slice B3 n.kids.length d3) j g6 W0 W)) (fun v11 _ => n.kids.length - (intOf v11).toNat)
            case atStart => exact ⟨0, by omega, rfl, HK⟩
            case round =>
              clear HK
              obtain ⟨j, hj, rfl, HJ⟩ := hrel
              have hq3 : wr.cell? ⟨g6, 3, none⟩ = some (.slice B3 n.kids.length d3) := (blk_cell HJ.out.box 3).trans rfl
              by_cases hjl : j < n.kids.length
              · obtain ⟨g7, c7', hv, -⟩ := Kd.R_form HJ.out.r3 (by rw [mapTake_len]; omega)
                injection hv with hA hmm hcc
                clear hmm
                subst hA hcc
                have hkk := HNk.out _ (rd_mem hjl)
                obtain ⟨k, hk⟩ : ∃ k : Nat, rd n.kids (j : Int) = (k : Int) := ⟨_, (Int.toNat_of_nonneg hkk.1).symm⟩
                obtain ⟨s1, s2, s3, hs4⟩ := HJ.out.set hjl
                obtain ⟨av, rfl, r1⟩ := at_nat (Kd.R_reads' HI.out.tor).2.2 k (by have := HOl2.out.1; omega)
                rw [HOl2.out.2.2 k (by omega)] at r1
                replace r1 := pw_cell_below HJ.out.below r1
                rw [hk] at s1 hs4 hkk
                have hko : (k : Int) < (tol.length : Int) := by have := HOl2.out.1; omega
                have hjn : (j : Int) < (n.kids.length : Int) := by omega
                have HS4 := Aside0.mk hs4
                clear hk hkk hs4
                go_wp2
                go_region
                have HS5 := Aside0.mk HS4.out.drew
                clear HS4 s1 s2 s3 r1 hq3
                go_wp2
                go_roundw
                case rel => exact ⟨j + 1, by omega, by go_num, HS5⟩
                case measure => simp [intOf]; omega
              · obtain rfl : j = n.kids.length := by omega
                have HI7 := Aside0.mk (HI.out.later HJ.out.below)
                obtain ⟨A4, c4, hv4⟩ := Kd.R_slice HI7.out.row
                subst hv4
                have q0 := (blk_cell HJ.out.box 0).trans rfl
                have q1 := (blk_cell HJ.out.box 1).trans rfl
                have q2 := (blk_cell HJ.out.box 2).trans rfl
                have o0 := (blk_cell HI7.out.out 0).trans rfl
                have hsz1 := HI.out.below.size
                have HMk := Aside0.mk (kNode_mkM (n := ⟨n.kind, n.ints, n.texts, n.kids.map (rd own)⟩) (Kd.R_lower (Kd.R_mono (Kd.R_bound HJ.out.r1) (fun k hk => hk.2.1)) hsz1) (Kd.R_lower (Kd.R_mono (Kd.R_bound HJ.out.r2) (fun k hk => hk.2.1)) hsz1) (Kd.R_lower (Kd.R_mono (Kd.R_bound (by have h := HJ.out.r3; rw [mapTake_all] at h; exact h)) (fun k hk => hk.2.1)) hsz1) : kNode.M wr w3.heap.size (fun k => W0.heap.size ≤ k) ⟨n.kind, n.ints, n.texts, n.kids.map (rd own)⟩ [.int .i64 n.kind, .slice B1 n.ints.length d1, .slice B2 n.texts.length d2, .slice B3 n.kids.length d3])
                have hlx : xs.length ≤ 60 := by have := HXl.out; omega
                have HOkp := Aside0.mk (fun (k : Nat) (hk : W0.heap.size ≤ k) => (show some k ≠ (Value.slice Av tol.length cv).ownBlock ∧ some k ≠ (Value.slice A4 xs.length c4).ownBlock from ⟨fun e => by have := Kd.R_lt HI.out.tor k e.symm; omega, fun e => by have := Kd.R_lt HI.out.row k e.symm; omega⟩))
                have HFr := Aside0.mk (fun (k : Nat) (hk : wr.heap.size ≤ k) => (show some k ≠ (Value.slice Av tol.length cv).ownBlock from fun e => by have := Kd.R_lt HI7.out.tor k e.symm; omega))
                have hl8 : (xs ++ [(⟨n.kind, n.ints, n.texts, n.kids.map (rd own)⟩ : Node)]).length = xs.length + 1 := by simp
                have HE := Aside0.mk (show t = (xs.length : Int) from by rw [HTq.out, HXl.out.1])
                go_wp2_with (first
                  | (at_builtin; refine Kd.R_append kNode (w0 := w3) w3.heap.size rfl (.tmp 77) (.tmp 79) 32 52 (.agg #[.int .i64 0, .slice none 0 0, .slice none 0 0, .slice none 0 0]) 80 rfl Tryd.underlying32 info_nodez rfl (by decide) (by omega) (.slice A4 xs.length c4) xs ⟨n.kind, n.ints, n.texts, n.kids.map (rd own)⟩ [.int .i64 n.kind, .slice B1 n.ints.length d1, .slice B2 n.texts.length d2, .slice B3 n.kids.length d3] (fun k => some k ≠ (Value.slice Av tol.length cv).ownBlock) (fun k => W0.heap.size ≤ k) rfl (by go_simp) HMk.out HOkp.out HFr.out HI7.out.row HI7.out.below HI7.out.below.size (by omega) ?_; intro v5 w8 hR8 hB8 hg8 hat8; obtain ⟨A8, c8, rfl⟩ := Kd.R_slice hR8; rw [hl8] at hR8 ⊢; obtain ⟨hb8, hN8⟩ := HI7.out.node hR8 hB8 hg8; have HN8 := Aside0.mk hN8; have y0 := (blk_cell hb8 0).trans rfl; have y0f := blk_frozen hb8 0; clear hR8 hB8 hg8 hat8 hN8 hb8 q0 q1 q2 o0 hq3)
                  | (at_builtin; refine Kd.R_append (Kd.int .i64) (w0 := w3) w3.heap.size rfl (.tmp 82) (.tmp 84) 31 3 (.int .i64 0) 8 rfl Tryd.underlying31 info_int rfl (by decide) (by omega) (.slice Av tol.length cv) tol (xs.length : Int) [.int .i64 (xs.length : Int)] (fun _ => True) (fun _ => False) rfl (by go_simp) rfl (fun _ h => h.elim) (fun _ _ => trivial) HN8.out.tor HN8.out.below HN8.out.below.size (by have := HOl2.out; omega) ?_; intro v7 w7 hR7 hB7 hg7 hat7; have HL := Aside0.mk (HN8.out.num hR7 hB7 hg7 hat7); clear hR7 hB7 hg7 hat7))
                all_goals
                  go_roundw
                  case rel => exact ⟨i + 1, _, _, by omega, by go_num, rfl, by rw [HXe.out, HOx.out, HE.out]; exact HL⟩
                  case measure => simp [intOf]; omega
        · have d0 : decide (z < 0) = false := decide_eq_false hz
          obtain ⟨hzt, ht0, htc⟩ := HZ.out.yes hz
          subst hzt
          have HXe := Aside0.mk (HXo.out htc)
          obtain ⟨Av, cv, hv⟩ := Kd.R_slice HI.out.tor
          subst hv
          clear hz HZ htc e0
          go_wp2_with (at_builtin; refine Kd.R_append (Kd.int .i64) (w0 := w3) w3.heap.size rfl (.tmp 82) (.tmp 84) 31 3 (.int .i64 0) 8 rfl Tryd.underlying31 info_int rfl (by decide) (by omega) (.slice Av tol.length cv) tol z [.int .i64 z] (fun _ => True) (fun _ => False) rfl (by go_simp) rfl (fun _ h => h.elim) (fun _ _ => trivial) HI.out.tor HI.out.below HI.out.below.size (by have := HOl2.out; omega) ?_; intro v7 w7 hR7 hB7 hg7 hat7; have HL := Aside0.mk (HI.out.num hR7 hB7 hg7 hat7); clear hR7 hB7 hg7 hat7)
          all_goals
            go_roundw
            case rel => exact ⟨i + 1, _, _, by omega, by go_num, rfl, by rw [HXe.out, HOx.out]; exact HL⟩
            case measure => simp [intOf]; omega
    · obtain rfl : i = C.nodes.length := by omega
      obtain ⟨r, hr⟩ : ∃ r : Nat, C.root = (r : Int) := ⟨C.root.toNat, by have := HCr.out; omega⟩
      have hrn : r < C.nodes.length := by have := HCr.out; omega
      have HTk := Aside0.mk (show own.take C.nodes.length = own from by rw [← HOl.out, List.take_length])
      rw [HTk.out] at HI
      have HS0 := Aside0.mk (show S0 = ⟨shrU C.nodes own C.nodes.length, rd own (r : Int)⟩ from by rw [HSh.out, hr])
      have HXl := Aside0.mk (show (shrU C.nodes own C.nodes.length).length ≤ 60 from by rw [shr_len]; have := cnt_le own C.nodes.length; omega)
      generalize shrU C.nodes own C.nodes.length = xs at HI HS0 HXl
      obtain ⟨Av, cv, hv⟩ := Kd.R_slice HI.out.tor
      subst hv
      obtain ⟨av, rfl, r1⟩ := at_nat (Kd.R_reads' HI.out.tor).2.2 r (by rw [HOl.out]; exact hrn)
      have e1 := pw_cell_below HI.out.below HE1.out
      rw [hr] at e1
      have hol := HOl.out
      have hro : (r : Int) < (own.length : Int) := by omega
      obtain ⟨A4, c4, hv4⟩ := Kd.R_slice HI.out.row
      subst hv4
      have o1 := (blk_cell HI.out.out 1).trans rfl
      have o1f := blk_frozen HI.out.out 1
      have hb1 := blk_set HI.out.out 1 (.int .i64 (rd own (r : Int)))
      have p0 := (blk_cell hb1 0).trans rfl
      have p1 := (blk_cell hb1 1).trans rfl
      have HRow := Aside0.mk (R_type HI.out.row HI.out.out (by decide) (.int .i64 (rd own (r : Int))) 1)
      have HBw := Aside0.mk (below_set (g := w3.heap.size) (j := 1) (v := .int .i64 (rd own (r : Int))) HI.out.below (Nat.le_refl _))
      clear hb1 hr
      clear hol
      go_wp2_with fail
      clear e0 e1 r1 o1 o1f p0 p1 hro
      have hS := HS0.out
      subst hS
      have HResw := Aside0.mk ((HBw.out.block _ (blk_lt HL3.out)).trans HL3.out)
      refine (rcanon_right A4 c4 ⟨xs, rd own (r : Int)⟩ _ (Kd.R_reads' HRow.out).2.2 (Kd.R_reads' HRow.out).2.1 HSr.out HSf.out).mono ?_
      rintro e w8 ⟨B8, d8, rfl, hR8, hB8⟩
      have hres := (hB8.block _ (blk_lt HResw.out)).trans HResw.out
      have HB8 := Aside0.mk (below_step (below_step HB3.out HBw.out) hB8)
      have hbase := (below_step HB3.out HBw.out).size
      generalize canS ⟨xs, rd own (r : Int)⟩ = D at hR8 HSe ⊢
      have HR8 := Aside0.mk (Kd.R_lower hR8 hbase)
      clear hR8 hB8 hbase
      have l0 := (blk_cell hres 0).trans rfl
      have l0f := blk_frozen hres 0
      have l1 := (blk_cell (blk_set hres 0 (.slice B8 D.nodes.length d8)) 1).trans rfl
      have l1f := blk_frozen (blk_set hres 0 (.slice B8 D.nodes.length d8)) 1
      go_wp2
      have h2 := And.intro ((blk_cell (box2 hres (.slice B8 D.nodes.length d8) (.int .i64 D.root)) 0).trans rfl) ((blk_cell (box2 hres (.slice B8 D.nodes.length d8) (.int .i64 D.root)) 1).trans rfl)
      have hRR := R_type (R_type HR8.out hres (by decide) (.slice B8 D.nodes.length d8) 0) (blk_set hres 0 _) (by decide) (.int .i64 D.root) 1
      exact bodyPost_ret (v := .agg #[.slice B8 D.nodes.length d8, .int .i64 D.root]) (by simp [results, Tryd.results21, go_sem, h2]) rfl ⟨B8, d8, by rw [HSe.out], by rw [HSe.out]; exact hRR, below_set2 HB8.out (by omega)⟩
end Go.Proofs.YtdfneldenipljaaDoor.L
end
section
namespace Go.Proofs.YtdfneldenipljaaDoor.L
open Go.RowKit Go.ChangeShapes Go.WideShapes Go.Proofs.YtdfneldenipljaaDoorW.PrintWords Go.Proofs.YtdfneldenipljaaDoorW.PrintLast Go.Proofs.YtdfneldenipljaaDoorW.PrintMore
attribute [local go_sem] max2_int min2_int max_two min_two max_three min_three max_four min_four
theorem field_nodes (v u : Value) (W : World) : (Instr.field 34 (.agg #[v, u]) 0).run Tryd.prog W = .ok v W := by kernel_rfl
theorem root_last {s : Scene} {own : List Int} (hr : Right s) (h : Cls s.nodes own) : (cntF own 0 s.nodes.length : Int) = rd own s.root + 1 := by
  have r0 := hr.r0
  have r1 := hr.r1
  obtain ⟨r, er⟩ : ∃ r : Nat, s.root = (r : Int) := ⟨s.root.toNat, by omega⟩
  have h1 := h.rise.lt (i := r) (m := s.nodes.length) (by omega) (Nat.le_refl _)
  have h2 := (h.rise r (by omega)).1
  obtain ⟨j, hj, ej⟩ := cnt_onto (own := own) (c := 0) (m := s.nodes.length) (k := cntF own 0 s.nodes.length - 1) (Nat.zero_le _) (by omega)
  have h3 := (root_most hr h hj).1
  rw [er] at h3 ⊢
  omega
def MaxTo (own : List Int) (k : Nat) (mx : Int) : Prop := 0 ≤ mx ∧ (∀ m : Nat, m < k → rd own (m : Int) ≤ mx) ∧ (mx = 0 ∨ ∃ m : Nat, m < k ∧ mx = rd own (m : Int))
theorem MaxTo.step {own : List Int} {k : Nat} {mx : Int} (h : MaxTo own k mx) : MaxTo own (k + 1) (if mx < rd own (k : Int) then rd own (k : Int) else mx) := by
  obtain ⟨h0, h1, h2⟩ := h
  split
  · rename_i hlt
    refine ⟨by omega, fun m hm => ?_, .inr ⟨k, by omega, rfl⟩⟩
    by_cases e : m = k
    · subst e; exact Int.le_refl _
    · have := h1 m (by omega)
      omega
  · rename_i hlt
    refine ⟨h0, fun m hm => ?_, ?_⟩
    · by_cases e : m = k
      · subst e; omega
      · exact h1 m (by omega)
    · rcases h2 with h2 | ⟨m, hm, e⟩
      · exact .inl h2
      · exact .inr ⟨m, by omega, e⟩
theorem MaxTo.done {s : Scene} {own : List Int} {mx : Int} (hr : Right s) (h : Cls s.nodes own) (hm : MaxTo own s.nodes.length mx) : mx = rd own s.root := by
  obtain ⟨h0, h1, h2⟩ := hm
  have r0 := hr.r0
  have r1 := hr.r1
  obtain ⟨r, er⟩ : ∃ r : Nat, s.root = (r : Int) := ⟨s.root.toNat, by omega⟩
  have h3 := h1 r (by omega)
  have h4 := (h.rise r (by omega)).1
  rw [er]
  rcases h2 with h2 | ⟨m, hm, e⟩
  · omega
  · have := (root_most hr h hm).1
    rw [er] at this
    omega
set_option maxRecDepth 100000 in
set_option maxHeartbeats 8000000 in
theorem classShared_any (T : Lib.PrintTabs) (A : Option Addr) (c : Nat) (s : Scene) (w : World) (h : kNode.C w A s.nodes.length s.nodes) (hc : s.nodes.length ≤ c)
    (hN : ∀ i : Nat, i < s.nodes.length → NBd (nd s.nodes i)) (hT : QTabs T w) :
    Calls Tryd.prog 6 #[.agg #[.slice A s.nodes.length c, .int .i64 s.root]] w fun e w' => e = .returned (.bool true) ∧ Below w.heap.size w w' := by
  have HR := Aside0.mk h
  have HT := Aside0.mk hT
  have HN := Aside0.mk hN
  have HB := Aside0.mk (below_alloc (Below.refl w.heap.size w) (.cells #[.slice A s.nodes.length c, .int .i64 s.root] 34))
  have k0 := box_cell w _ rfl #[.slice A s.nodes.length c, .int .i64 s.root] 34 0 (.slice A s.nodes.length c) rfl
  have k1 := box_cell w _ rfl #[.slice A s.nodes.length c, .int .i64 s.root] 34 1 (.int .i64 s.root) rfl
  have hu := Tryd.underlying34
  have HKa := Aside0.mk (fun (W : World) (hW : Below w.heap.size w W) => scK (Kd.C_below HR.out hW) hc)
  clear h hT hN
  go_enter Tryd.func6, Tryd.ntmps6
  go_wp2_with fail
  refine (cawake_any T _ (HT.out.below HB.out)).mono ?_
  rintro e w1 ⟨rfl, hB1⟩
  replace k0 := pw_cell_below hB1 k0
  replace k1 := pw_cell_below hB1 k1
  have HB1 := Aside0.mk (below_step HB.out hB1)
  clear hB1 HB
  go_wp2_with fail
  have hA2 := below_alloc (Below.refl w1.heap.size w1) (.cells #[.slice A s.nodes.length c, .int .i64 s.root] 34)
  refine (great19_any _ 1 [s] _ (sc_row1 w1 _ rfl (HKa.out w1 HB1.out))).mono ?_
  rintro e w2 ⟨rfl, hB2⟩
  have hB2 := below_step hA2 hB2
  replace k0 := pw_cell_below hB2 k0
  replace k1 := pw_cell_below hB2 k1
  have HB2 := Aside0.mk (below_step HB1.out hB2)
  clear hB2 hA2 HB1
  cases hg : great19 [s] with
  | true =>
    clear hg
    go_wp2_with fail
    refine (cawake_any T _ (HT.out.below HB2.out)).mono ?_
    rintro e w3 ⟨rfl, hB3⟩
    have HB3 := Aside0.mk (below_step HB2.out hB3)
    clear hB3 k0 k1
    go_wp2
    go_ret
    exact ⟨rfl, HB3.out⟩
  | false =>
    have hgs : greatC s = false := Bool.eq_false_iff.2 (fun e => of_decide_eq_false hg (.inr ⟨0, by simp, e⟩))
    have HGa := Aside0.mk (greatC_bd hgs HN.out)
    have HFt := Aside0.mk (fit_of_great (show greatS s = false from by unfold greatC at hgs; exact (Bool.or_eq_false_iff.1 hgs).1) HN.out)
    clear hg hgs
    go_wp2_with fail
    refine (ris_any A c s _ (Kd.C_below HR.out HB2.out) hc HGa.out.1.2 (fun i hi => (HGa.out.1.1 i hi).1)).mono ?_
    rintro e w3 ⟨rfl, hB3⟩
    replace k0 := pw_cell_below hB3 k0
    replace k1 := pw_cell_below hB3 k1
    have HB3 := Aside0.mk (below_step HB2.out hB3)
    clear hB3 HB2
    cases hia : isC s with
    | false =>
      clear hia
      go_wp2_with fail
      refine (cawake_any T _ (HT.out.below HB3.out)).mono ?_
      rintro e w4 ⟨rfl, hB4⟩
      have HB4 := Aside0.mk (below_step HB3.out hB4)
      clear hB4 k0 k1
      go_wp2
      go_ret
      exact ⟨rfl, HB4.out⟩
    | true =>
      have HRt := Aside0.mk (isC_right hia)
      have HIa := Aside0.mk hia
      have HEn := Aside0.mk (show canonL s = s.nodes from (congrArg Scene.nodes (isC_eq HRt.out hia)).symm)
      have HCl := Aside0.mk (show Cls s.nodes (ownS T [] s.nodes).2 from own_cls T (fun p hp k hk => isC_ahead HRt.out hia hp hk))
      have HEo := Aside0.mk (show ownC T s = (ownS T [] s.nodes).2 from by unfold ownC; rw [HEn.out])
      have HOl := Aside0.mk (show (ownS T [] s.nodes).2.length = s.nodes.length from own_len T [] _ _ rfl)
      have HSn := Aside0.mk (show ((shareS T s).nodes.length : Int) = rd (ownS T [] s.nodes).2 s.root + 1 from by
        show ((canonL (shr0 T s)).length : Int) = _
        rw [canon_len (shr0_right T HRt.out), shr0_len, HEn.out, HEo.out]
        exact root_last HRt.out HCl.out)
      have HAs := Aside0.mk (show (allS T [s]).2 = [(ownS T [] s.nodes).2] from rfl)
      have hn25 : s.nodes.length ≤ 25 := HGa.out.2
      clear hia HEo
      generalize (ownS T [] s.nodes).2 = own at HCl HOl HSn HAs
      go_wp2_with fail
      have hA5 := below_alloc (Below.refl w3.heap.size w3) (.cells #[.slice A s.nodes.length c, .int .i64 s.root] 34)
      refine (numbers_any T _ 1 [s] _ (sc_row1 w3 _ rfl (HKa.out w3 HB3.out)) (fun i hi => by
        obtain rfl : i = 0 := by simp at hi; omega
        exact HGa.out.1) (by simp) (HT.out.below (below_step HB3.out hA5))).mono ?_
      rintro e w5 ⟨hB5, (⟨-, v, rfl, hR5⟩ | ⟨⟨i, hi, hbad⟩, rfl⟩)⟩
      rotate_left
      · obtain rfl : i = 0 := by simp at hi; omega
        have h1 : isC s = false := hbad
        rw [HIa.out] at h1
        cases h1
      rw [HAs.out] at hR5
      obtain ⟨A5, c5, hv5⟩ := Kd.R_slice hR5
      subst hv5
      have hB5 := below_step hA5 hB5
      replace k0 := pw_cell_below hB5 k0
      replace k1 := pw_cell_below hB5 k1
      have HB5 := Aside0.mk (below_step HB3.out hB5)
      have HL5 := Aside0.mk (Kd.R_reads' hR5).2.2
      clear hR5 hB5 hA5 HB3
      obtain ⟨al, B0, d0, rfl, x0, -, hC0⟩ := at_ints HL5.out 0 (by simp)
      have HC0 := Aside0.mk (show (Kd.int .i64).C w5 B0 own.length own from hC0)
      have x0 : w5.cell? al = some (.slice B0 own.length d0) := by
        rw [add_zero al] at x0
        exact x0
      clear hC0 HL5
      rw [HOl.out] at x0 HC0
      have n1 : ((s.nodes.length : Int) != (s.nodes.length : Int)) = false := by simp
      go_wp2
      go_quiet (fail)
      clear n1
      have hbq := pw_below_drewN (Below.refl w5.heap.size w5) nq
      replace k0 := pw_cell_below hbq k0
      replace k1 := pw_cell_below hbq k1
      replace x0 := pw_cell_below hbq x0
      replace HC0 := Aside0.mk (Kd.C_below HC0.out hbq)
      replace HB5 := Aside0.mk (below_step HB5.out hbq)
      clear hbq
      generalize w5.drewN nq = w6 at k0 k1 x0 HC0 HB5 ⊢
      go_wp2
      go_loopw [48, 5] (fun v48 v5 W => ∃ (k : Nat) (mx : Int), k ≤ s.nodes.length ∧ v48 = .int .i64 k ∧ v5 = .int .i64 mx ∧ Aside0 (MaxTo own k mx) ∧ W = w6) (fun v48 _ _ => s.nodes.length - (intOf v48).toNat)
      case atStart => exact ⟨0, 0, by omega, rfl, rfl, ⟨⟨Int.le_refl _, fun m h => by omega, .inl rfl⟩⟩, rfl⟩
      case round =>
        obtain ⟨k, mx, hk, rfl, rfl, HM, rfl⟩ := hrel
        by_cases hlt : k < s.nodes.length
        · obtain ⟨bd, rfl, y0⟩ := at_nat HC0.out k hlt
          have HM2 := Aside0.mk HM.out.step
          go_wp2
          go_roundw
          case rel => exact ⟨k + 1, _, by omega, by go_num, rfl, HM2, by first | rfl | trivial⟩
          case measure => simp [intOf]; omega
        · obtain rfl : k = s.nodes.length := by omega
          have hmx := HM.out.done HRt.out HCl.out
          obtain ⟨r, hr⟩ : ∃ r : Nat, s.root = (r : Int) := ⟨_, (Int.toNat_of_nonneg HRt.out.r0).symm⟩
          have hrn : r < s.nodes.length := by have := HRt.out.r1; omega
          obtain ⟨bd, rfl, y0⟩ := at_nat HC0.out r hrn
          subst hmx
          have HSn2 := HSn.out
          have hq0 : 0 ≤ rd own (r : Int) := (HCl.out.rise r hrn).1
          have hq1 : rd own (r : Int) ≤ 100 := by
            have h1 := HCl.out.rise.lt (i := r) hrn (Nat.le_refl _)
            have h2 := cnt_le own s.nodes.length
            omega
          rw [hr] at k1 HSn2 ⊢
          generalize rd own (r : Int) = q at y0 HSn2 hq0 hq1 ⊢
          have hrl : (r : Int) < (s.nodes.length : Int) := by omega
          have HB6 := Aside0.mk (below_drew HB5.out)
          generalize hm : (shareS T s).nodes.length = ml at HSn2
          have heq : (q + 1 == (ml : Int)) = true := by simp; omega
          have hqq : (q == q) = true := by simp
          have HMl := Aside0.mk hm
          have HX := Aside0.mk (And.intro k0 (And.intro k1 (And.intro x0 y0)))
          have HCall := Aside0.mk (show ∀ W : World, Below w.heap.size w W → Calls Tryd.prog 21 #[.agg #[.slice A s.nodes.length c, .int .i64 (r : Int)]] W fun e w' => ∃ A' c' x, e = .returned (.agg #[.slice A' ml c', .int .i64 x]) ∧ Below W.heap.size W w' from fun W hW => by
            have h1 := rshare_any T A c s W (Kd.C_below HR.out hW) hc HRt.out HFt.out
            rw [hr] at h1
            refine h1.mono ?_
            rintro e w' ⟨A', c', rfl, -, hB⟩
            exact ⟨A', c', _, by rw [HMl.out], hB⟩)
          have hfld := field_nodes
          obtain ⟨qn, rfl⟩ : ∃ qn : Nat, q = (qn : Int) := ⟨_, (Int.toNat_of_nonneg hq0).symm⟩
          have hqn : qn ≤ 100 := by omega
          have hwx : IntKind.i64.wrap ((qn : Int) + 1) = (qn : Int) + 1 := wrap_i (by omega) (by omega)
          clear HSn2 hm hq0 hq1
          go_wp2
          have z0 : wr.drew.cell? ⟨w.heap.size, 0, none⟩ = some (.slice A s.nodes.length c) := HX.out.1
          have z1 : wr.drew.cell? ⟨w.heap.size, 1, none⟩ = some (.int .i64 (r : Int)) := HX.out.2.1
          have z2 : wr.drew.cell? al = some (.slice (some bd) s.nodes.length d0) := HX.out.2.2.1
          have z3 : wr.drew.cell? (bd.add r) = some (.int .i64 (qn : Int)) := HX.out.2.2.2
          go_region_held3 (fun W => W.cell? ⟨w.heap.size, 0, none⟩ = some (.slice A s.nodes.length c) ∧ W.cell? ⟨w.heap.size, 1, none⟩ = some (.int .i64 (r : Int)) ∧ W.cell? al = some (.slice (some bd) s.nodes.length d0) ∧ W.cell? (bd.add r) = some (.int .i64 (qn : Int)))
            (first
              | (go_split_ands
                 (repeat' apply And.intro)
                 all_goals first
                   | with_reducible assumption
                   | with_reducible exact pw_cell_below hB8 (by assumption)
                   | (simp [*]; done)))
            (first
              | (go_at_call 21; refine (HCall.out wr.drew HB6.out).mono ?_; rintro e w8 ⟨B8, d8, x8, rfl, hB8⟩; have HB8 := Aside0.mk (below_step HB6.out hB8)))
          all_goals
            go_wp2
            go_ret
            exact ⟨rfl, HB8.out⟩
end Go.Proofs.YtdfneldenipljaaDoor.L
end
section
namespace Go.Proofs.YtdfneldenipljaaDoor.L
open Go.RowKit Go.ChangeShapes Go.WideShapes Go.Proofs.YtdfneldenipljaaDoorW.PrintWords Go.Proofs.YtdfneldenipljaaDoorW.PrintLast Go.Proofs.YtdfneldenipljaaDoorW.PrintMore
attribute [local go_sem] max2_int min2_int max_two min_two max_three min_three max_four min_four
namespace classShared
open Go.ChangeShapes Go.WideShapes Go.ChangeAt Go.RowKit
set_option maxRecDepth 100000 in
theorem lifted (os : Os) (started : os.Started) (H : Type) (enc : TypeId × Value → H) :
    ReturnsInHanded {} Tryd.checked os 6 .any (fun w args => (Rows.classSharedSpec.pre enc Tryd.prog Tryd.f6 [] false w args ∧ laidMetH Tryd.prog rowLaid w) ∧ sizedMet enc Tryd.prog Tryd.f6 (OpenSpec.ofChange Rows.classSharedSpec) false w args)
      (Rows.classSharedSpec.post enc Tryd.prog Tryd.f6 false true false false) := by
  refine returnsInHanded_of_change_and (C := Tryd.checked) (X := fun w _ => laidMetH Tryd.prog rowLaid w) (fun _ _ _ hh h => h.of_heap hh) own started (by kernel_rfl) Tryd.func6
    (ChangeSpec.witness_shaped (enc := enc) (C := Tryd.checked) (os := os) (X := fun w _ => laidMetH Tryd.prog rowLaid w) false (World.laidAll Tryd.prog os rowLaid) #[.agg #[.slice none 0 0, .int .i64 0]] 8 (World.laidAll_os _ _ _)
      (World.shaped_of_ZipB (by kernel_rfl) (by kernel_rfl)) (by kernel_rfl) (by kernel_rfl) (by kernel_rfl) (laid_met os _)) ?_
  intro W base args ds gs before hval0 hW hc _ hL _
  have hval : ∀ (j : Nat) t v, (Tryd.f6).params[j]? = some t → args[j]? = some v → Value.okWide Tryd.prog W .any base t v := hval0
  have hW' := hW
  obtain ⟨p, q, hA0, hV, rfl, hfz, hnd⟩ := hW
  have hA : DataW.TrodAll enc Tryd.prog W 0 (fun _ => true) true (Tryd.f6).params.toList args.toList ds p := hA0
  rw [Tryd.params6] at hA hval
  obtain ⟨v0, vs0, d0, ds0, p0, q0, hargs, rfl, rfl, h0, r0⟩ := trodAll_cons hA
  obtain ⟨rfl, rfl, rfl⟩ := trodAll_nil r0
  obtain rfl : args = #[v0] := by cases args; simp_all
  obtain ⟨rfl, rfl⟩ := trodVars_none hV
  have lt0 : ∀ x ∈ p0, x.block < W.heap.size := by obtain ⟨m, hm⟩ := h0; exact DataW.trod_lt m _ _ _ hm
  obtain ⟨s0, cs0, rfl, hK0, hG0⟩ := Opens.arg_struct Tryd.underlying34 opens_sceneB (hval 0 34 v0 rfl rfl) h0
  obtain ⟨A0, c0, hcs0, hlc0, hC0⟩ := kScene_open hK0
  obtain rfl : cs0 = #[.slice A0 s0.nodes.length c0, .int .i64 s0.root] := by cases cs0; simp_all
  clear hA0 hval0
  refine (classShared_any Lib.goPrintTabs A0 c0 s0 W hC0 hlc0 hG0 (qtabs_of_laid hL)).mono fun e W' ⟨he, bel⟩ => ?_
  subst he
  exact ⟨_, rfl, _, _, _, [], _, [], hW', trodAll_mk1 (shut_bool Tryd.underlying4 _), (trodAll_cons_mk (Below.trod laidOut (by kernel_rfl) (of_decide_eq_true (by kernel_rfl)) h0 bel lt0) trodAll_mk0), rfl, bel.frame _, fun h => by cases h⟩
theorem over : Rows.ClassSharedSaid :=
  OpenClaim.holds_of_wide 6 Tryd.f6 rfl rfl rfl rfl rfl rfl rfl ⟨rfl, rfl, rfl, rfl, rfl⟩ rfl rfl rfl rfl rfl (by kernel_rfl) Tryd.func6 (by kernel_rfl)
    (of_decide_eq_true (by kernel_rfl)) (by unfold Func.isWrapper; first | (rw [if_pos (by decide +kernel)]; kernel_rfl) | (rw [if_neg (by decide +kernel)]; exact ⟨rfl, rfl⟩))
    (fun os started H enc _ => lifted os started H enc)
theorem card_holds : Rows.ClassSharedCardSaid :=
  Claim7.holds_tied_plain_at .later [] [.data, .data, .data, .data, .pinned, .pinned, .pinned, .pinned, .pinned, .pinned] true (true, "6733ca2e7fb67cc65005b080e6ff8756d91017a8676886b3aaa4db3429368ce6") false over (fun _ h => by cases h) (by kernel_rfl) (fun _ h => by cases h) classShared_row_tie rfl ⟨rfl, rfl⟩ (by kernel_rfl) rfl
    (fun f fn hf hfn => by
      obtain rfl : f = 6 := Option.some.inj ((show Tryd.prog.funcNamed "diorama/dioramalaw19.ClassShared" = some 6 by kernel_rfl).symm.trans hf) |>.symm
      obtain rfl : fn = Tryd.f6 := (Option.some.inj ((Tryd.func6).symm.trans hfn)).symm
      exact ⟨by kernel_rfl, fun j t ht => by
        rw [Tryd.params6] at ht
        have hm : t ∈ [34] := by simpa using Array.mem_of_getElem? ht
        have hall : ([34].all fun u => !Tryd.prog.wantsStandIn u) = true := by kernel_rfl
        exact (show Tryd.prog.wantsStandIn t = false by simpa using List.all_eq_true.1 hall t hm)⟩)
    (by kernel_rfl)
#print axioms card_holds
end classShared
end Go.Proofs.YtdfneldenipljaaDoor.L
end
