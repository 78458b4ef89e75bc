/- Part 2 of the texts that YtglfebpgdghlfaaDoorRowUN rests on, joined by a program: what its functions come to. Conditions: those that each theorem states. -/
import Derived.Test.YtglfebpgdghlfaaDoorQna
import Derived.Test.YtglfebpgdghlfaaDoorProg
import Derived.StillTailTactics
import Derived.Deep.Slices
import Derived.ProofKit
import Derived.ChangeSame
import Derived.Maps.OwnSet
import Derived.Maps.OwnOps
import Derived.Below
import Derived.WalkSpells
import Derived.Deep.RegionHeld3
import Derived.Shelf.Small.Wraps
import Derived.Shelf.Unicode.Decode
import Derived.Shelf.Bits.Mul64
import Derived.Shelf.Unicode.DecodeSlow
import Derived.Shelf.Unicode.DecodeAny
import Derived.Ground.Names2Prog
import Derived.Shelf.Slices.Clone
import Derived.Shelf.Slices.SearchI
import Derived.Laws.CopyOwn
import Derived.Deep.RegionLaw
import Derived.Lib.OthersKept
import Derived.Laws.RangeAny
import Derived.Stop.FmtQuoteTie
import Derived.Deep.LoopGhost
set_option linter.unusedVariables false
set_option linter.unusedSimpArgs false
section
namespace Go.Proofs.YtglfebpgdghlfaaDoor.L
open Go.RowKit Go.ChangeShapes Go.WideShapes Go.Proofs.YtglfebpgdghlfaaDoorW.PrintWords Go.Proofs.YtglfebpgdghlfaaDoorW.PrintLast Go.Proofs.YtglfebpgdghlfaaDoorW.PrintMore
attribute [local go_sem] max2_int min2_int max_two min_two max_three min_three max_four min_four
theorem rd_eq {xs : List Int} {i : Nat} (h : i < xs.length) : rd xs (i : Int) = xs[i] := by
  unfold rd
  rw [List.getD_eq_getElem?_getD, Int.toNat_natCast, List.getElem?_eq_getElem h]; rfl
theorem rd_set (l : List Int) (i i' : Nat) (v : Int) (h1 : i < l.length) : rd (l.set i v) (i' : Int) = if i' = i then v else rd l (i' : Int) := by
  unfold rd
  rw [List.getD_eq_getElem?_getD, List.getD_eq_getElem?_getD, List.getElem?_set, Int.toNat_natCast]
  by_cases e : i' = i
  · subst e; rw [if_pos rfl, if_pos rfl, if_pos h1]; rfl
  · rw [if_neg e, if_neg (fun h => e h.symm)]
theorem getD_eq {α : Type} {xs : List α} {i : Nat} (d : α) (h : i < xs.length) : xs.getD i d = xs[i] := by
  rw [List.getD_eq_getElem?_getD, List.getElem?_eq_getElem h]; rfl
theorem take_succ_rd {xs : List Int} {i : Nat} (h : i < xs.length) : xs.take (i + 1) = xs.take i ++ [rd xs (i : Int)] := by
  rw [List.take_succ_eq_append_getElem h, rd_eq h]
theorem ret_bool {a b : Bool} (h : a = b) : Ending.returned (.bool a) = .returned (.bool b) := by rw [h]
theorem ret_int {k : IntKind} {a b : Int} (h : a = b) : Ending.returned (.int k a) = .returned (.int k b) := by rw [h]
theorem wrap_id {x : Int} (h0 : -9223372036854775808 ≤ x) (h1 : x ≤ 9223372036854775807) : wrap64 x = x := by
  unfold wrap64
  omega
theorem wrap_i {x : Int} (h0 : -9223372036854775808 ≤ x) (h1 : x ≤ 9223372036854775807) : IntKind.i64.wrap x = x := (i64_w _).trans (wrap_id h0 h1)
theorem wf_i64 {x : Int} (h : (Lit.int .i64 x).wf = true) : -9223372036854775808 ≤ x ∧ x ≤ 9223372036854775807 := by
  have h' : IntKind.min .i64 ≤ x ∧ x ≤ IntKind.max .i64 := by simpa [Lit.wf] using h
  have e1 : IntKind.min .i64 = -9223372036854775808 := by decide
  have e2 : IntKind.max .i64 = 9223372036854775807 := by decide
  omega
theorem snoc_cases {α : Type} (l : List α) : l = [] ∨ ∃ i e, l = i ++ [e] := by
  rcases List.eq_nil_or_concat l with h | ⟨i, e, h⟩
  · exact .inl h
  · exact .inr ⟨i, e, by rw [h, List.concat_eq_append]⟩
theorem ext_lt {P : Nat → Prop} {k : Nat} (h : ∀ j, j < k → P j) (hk : P k) : ∀ j, j < k + 1 → P j := fun j hj => by
  rcases Nat.lt_or_ge j k with h' | h'
  · exact h j h'
  · obtain rfl : j = k := by omega
    exact hk
theorem at_nat {w : World} {A : Option Addr} {n : Nat} {k : IntKind} {xs : List Int} (h : (Kd.int k).C w A n xs) (i : Nat) (h1 : i < n) : ∃ ad, A = some ad ∧ w.cell? (ad.add i) = some (.int k (rd xs (i : Int))) := by
  obtain ⟨ad, e, hx⟩ := Kd.at_int h (i : Int) (by omega) (by omega)
  exact ⟨ad, e, by simpa using hx⟩
def str (xs : List ByteArray) (i : Nat) : ByteArray := xs.getD i ByteArray.empty
theorem at_str {w : World} {A : Option Addr} {n : Nat} {xs : List ByteArray} (h : Kd.string.C w A n xs) (i : Nat) (h1 : i < n) : ∃ ad, A = some ad ∧ w.cell? (ad.add i) = some (.string (str xs i)) := by
  obtain ⟨ad, c, e, _, hK, hc0⟩ := Kd.C_get h ByteArray.empty (i : Int) (by omega) (by omega)
  have hK : c = [.string (str xs i)] := by
    rw [Int.toNat_natCast] at hK
    exact hK
  subst hK
  exact ⟨ad, e, by simpa [show Kd.string.sz = 1 from rfl] using hc0 0 _ rfl⟩
section
variable {α : Type} {d : Kd α} {e base g n cap : Nat} {W : World} {ok okp : Nat → Prop} {xs : List α}
theorem R_elemN (h : d.R e W base ok (.slice (some ⟨g, 0, none⟩) n cap) xs) (z : α) (i : Nat) (h1 : i < n) :
    ∃ c, c.length = d.sz ∧ d.M W base (fun k => ok k ∧ k ≠ g) (xs.getD i z) c ∧ (∀ j u, c[j]? = some u → W.cell? ⟨g, i * d.sz + j, none⟩ = some u) ∧ ∀ j, W.frozen? ⟨g, i * d.sz + j, none⟩ = false := by
  simpa using Kd.R_elem h z (i : Int) (by omega) (by omega)
theorem R_segN (h : d.R e W base ok (.slice (some ⟨g, 0, none⟩) n cap) xs) (i : Nat) (h1 : i < n) {c seg : List Value} {j : Nat} (hcl : c.length = d.sz) (hcc : ∀ j u, c[j]? = some u → W.cell? ⟨g, i * d.sz + j, none⟩ = some u)
    (hj : j + seg.length ≤ d.sz) {x' : α} (hM : d.M W base okp x' (c.take j ++ seg ++ c.drop (j + seg.length))) (hokp : ∀ k, okp k → ok k ∧ k ≠ g) :
    d.R e (W.setCells g (i * d.sz + j) seg) base ok (.slice (some ⟨g, 0, none⟩) n cap) (xs.set i x') ∧ W.grownBy (W.setCells g (i * d.sz + j) seg) (some g) := by
  simpa using Kd.R_seg h (i : Int) (by omega) (by omega) hcl (by simpa using hcc) hj hM hokp
theorem R_empty (d : Kd α) (e : Nat) (W : World) (base : Nat) (hb : base ≤ W.heap.size) : d.R e (W.alloc (.cells #[] e)) base (fun _ => True) (.slice (some ⟨W.heap.size, 0, none⟩) 0 0) [] :=
  ⟨fun _ _ => trivial, OwnRow.lit W base (Reps.none _ _) hb (by simp)⟩
end
theorem C_nil {α : Type} (d : Kd α) (w : World) : Kd.C d w none ([] : List α).length [] := ⟨rfl, by simp, fun h => by simp at h⟩
theorem C_sub {α : Type} {d : Kd α} (hs : d.sz = 1) {w : World} {A : Option Addr} {xs : List α} (h : d.C w A xs.length xs) (i m : Nat) (hm : i + m ≤ xs.length) : d.C w (A.map (fun x => x.add i)) m ((xs.drop i).take m) := by
  refine ⟨by rw [List.length_take, List.length_drop]; omega, by have := h.2.1; omega, fun hp => ?_⟩
  obtain ⟨ad, rfl, hc⟩ := h.2.2 (by omega)
  refine ⟨_, rfl, fun j p hj => ?_⟩
  rw [List.getElem?_take] at hj
  split at hj
  · rw [List.getElem?_drop] at hj
    obtain ⟨c, h1, h2, h3⟩ := hc (i + j) p hj
    refine ⟨c, h1, h2, fun q u hu => ?_⟩
    have := h3 q u hu
    rw [hs] at this ⊢
    rw [Addr.add_add, show i + (j * 1 + q) = (i + j) * 1 + q from by omega]
    exact this
  · cases hj
theorem ints_cell {W : World} {base g n cap e : Nat} {k : IntKind} {ok : Nat → Prop} {xs : List Int} (h : (Kd.int k).R e W base ok (.slice (some ⟨g, 0, none⟩) n cap) xs) (i : Nat) (hi : i < n) : W.cell? ⟨g, i, none⟩ = some (.int k (rd xs (i : Int))) ∧ W.frozen? ⟨g, i, none⟩ = false := by
  obtain ⟨c, hcl, hM, hcc, hfr⟩ := R_elemN h 0 i hi
  obtain rfl : c = [.int k (xs.getD i 0)] := hM
  have h1 := hcc 0 _ rfl
  have h2 := hfr 0
  exact ⟨by simpa [show (Kd.int k).sz = 1 from rfl, rd] using h1, by simpa [show (Kd.int k).sz = 1 from rfl] using h2⟩
theorem ints_store {W : World} {base g n cap e : Nat} {k : IntKind} {ok : Nat → Prop} {xs : List Int} (h : (Kd.int k).R e W base ok (.slice (some ⟨g, 0, none⟩) n cap) xs) (i : Nat) (hi : i < n) (v : Int) :
    (Kd.int k).R e (W.setCell ⟨g, i, none⟩ (.int k v)) base ok (.slice (some ⟨g, 0, none⟩) n cap) (xs.set i v) ∧ W.grownBy (W.setCell ⟨g, i, none⟩ (.int k v)) (some g) ∧ base ≤ g := by
  obtain ⟨c, hcl, hM, hcc, hfr⟩ := R_elemN h 0 i hi
  obtain ⟨hs, hg⟩ := R_segN h i hi (seg := [.int k v]) (j := 0) hcl hcc (Nat.le_refl 1) (x' := v) (okp := fun _ => False) (by simp [hcl, show (Kd.int k).sz = 1 from rfl, List.drop_eq_nil_of_le]; rfl) (fun _ h => h.elim)
  have e' : W.setCells g (i * (Kd.int k).sz + 0) [.int k v] = W.setCell ⟨g, i, none⟩ (.int k v) := by
    rw [show (Kd.int k).sz = 1 from rfl, Nat.mul_one]; rfl
  rw [e'] at hs hg
  exact ⟨hs, hg, Kd.R_base h g (by simp [Value.ownBlock])⟩
theorem box_cell (w : World) (n : Nat) (hn : w.heap.size = n) (cs : Array Value) (t : TypeId) (i : Nat) (v : Value) (h : cs[i]? = some v) : (w.alloc (.cells cs t)).cell? ⟨n, i, none⟩ = some v := by
  subst hn
  have hh : (w.alloc (.cells cs t)).heap[w.heap.size]? = some (.cells cs t (0, 0)) := by simpa using heap_alloc_new w _
  rw [blk_cell hh, h]
theorem box_cell2 (w : World) (n : Nat) (hn : w.heap.size = n) (cs : Array Value) (t : TypeId) (o : Obj) (i : Nat) (v : Value) (h : cs[i]? = some v) : ((w.alloc (.cells cs t)).alloc o).cell? ⟨n, i, none⟩ = some v :=
  pw_cell_below (below_alloc (Below.refl _ _) o) (box_cell w n hn cs t i v h)
theorem reps_more {α : Type} {R : α → List Value → Prop} {size : Nat} (f : α → List Value) (h : ∀ p, R p (f p)) (hl : ∀ p, (f p).length = size) : ∀ (ps qs : List α) (cs : List Value), Reps R size qs cs → Reps R size (qs ++ ps) (cs ++ ps.flatMap f) := by
  intro ps
  induction ps with
  | nil => intro qs cs hr; simpa using hr
  | cons p ps ih =>
    intro qs cs hr
    have := ih (qs ++ [p]) (cs ++ f p) (Reps.snoc hr (h p) (hl p))
    simpa using this
theorem reps_flatMap {α : Type} {R : α → List Value → Prop} {size : Nat} (f : α → List Value) (h : ∀ p, R p (f p)) (hl : ∀ p, (f p).length = size) (ps : List α) : Reps R size ps (ps.flatMap f) := by
  simpa using reps_more f h hl ps [] [] (Reps.none _ _)
theorem R_lits {α : Type} (d : Kd α) (e : Nat) (f : α → List Value) (W : World) (base : Nat) (ps : List α) (h : ∀ p, d.M W base (fun _ => False) p (f p)) (hl : ∀ p, (f p).length = d.sz) (hb : base ≤ W.heap.size) (hm : ps.length ≤ 9223372036854775807) {cs : Array Value} (hcs : cs = (ps.flatMap f).toArray) :
    d.R e (W.alloc (.cells cs e)) base (fun _ => True) (.slice (some ⟨W.heap.size, 0, none⟩) ps.length ps.length) ps := by
  subst hcs
  exact ⟨fun _ _ => trivial, OwnRow.imp_ (OwnRow.lit (R := fun p c => d.M W base (fun _ => False) p c) W base (reps_flatMap f h hl ps) hb hm) (fun p c hp => d.M_mono (fun _ h => h.elim) (Kd.M_alloc hp _))⟩
theorem C_ints (W : World) (e n : Nat) (hn : W.heap.size = n) (ps : List Int) (hm : ps.length ≤ 9223372036854775807) {cs : Array Value} (hcs : cs = (ps.flatMap fun x => [.int .i64 x]).toArray) : Kd.C (Kd.int .i64) (W.alloc (.cells cs e)) (some ⟨n, 0, none⟩) ps.length ps := by
  subst hn
  exact (Kd.R_reads' (R_lits (Kd.int .i64) e (fun x => [.int .i64 x]) W W.heap.size ps (fun _ => rfl) (fun _ => rfl) (Nat.le_refl _) hm hcs)).2.2
structure Node where
  kind : Int
  ints : List Int
  texts : List ByteArray
  kids : List Int
structure Scene where
  nodes : List Node
  root : Int
def nodez : Node := ⟨0, [], [], []⟩
def kNode : Kd Node := Kd.iso (Kd.pair (Kd.int .i64) (Kd.pair (Kd.slice 2 (Kd.int .i64)) (Kd.pair (Kd.slice 9 Kd.string) (Kd.slice 3 (Kd.int .i64))))) (fun x : Node => (x.kind, x.ints, x.texts, x.kids))
def nd (xs : List Node) (i : Nat) : Node := xs.getD i nodez
structure NodeC (w : World) (n : Node) (A1 : Option Addr) (c1 : Nat) (A2 : Option Addr) (c2 : Nat) (A3 : Option Addr) (c3 : Nat) : Prop where
  l1 : n.ints.length ≤ c1
  l2 : n.texts.length ≤ c2
  l3 : n.kids.length ≤ c3
  i : (Kd.int .i64).C w A1 n.ints.length n.ints
  t : Kd.string.C w A2 n.texts.length n.texts
  k : (Kd.int .i64).C w A3 n.kids.length n.kids
theorem NodeC.below {w w' : World} {n : Node} {A1 A2 A3 : Option Addr} {c1 c2 c3 : Nat} (h : NodeC w n A1 c1 A2 c2 A3 c3) (hb : Below w.heap.size w w') : NodeC w' n A1 c1 A2 c2 A3 c3 :=
  ⟨h.l1, h.l2, h.l3, Kd.C_below h.i hb, Kd.C_below h.t hb, Kd.C_below h.k hb⟩
theorem NodeC.alloc {w : World} {n : Node} {A1 A2 A3 : Option Addr} {c1 c2 c3 : Nat} (h : NodeC w n A1 c1 A2 c2 A3 c3) (o : Obj) : NodeC (w.alloc o) n A1 c1 A2 c2 A3 c3 := h.below (below_alloc (Below.refl _ _) o)
theorem NodeC.drewN {w : World} {n : Node} {A1 A2 A3 : Option Addr} {c1 c2 c3 : Nat} (h : NodeC w n A1 c1 A2 c2 A3 c3) (m : Nat) : NodeC (w.drewN m) n A1 c1 A2 c2 A3 c3 := h.below (pw_below_drewN (Below.refl _ _) m)
theorem kNode_open {w : World} {x : Node} {cs : List Value} (h : kNode.K w x cs) : ∃ A1 c1 A2 c2 A3 c3, cs = [.int .i64 x.kind, .slice A1 x.ints.length c1, .slice A2 x.texts.length c2, .slice A3 x.kids.length c3] ∧ NodeC w x A1 c1 A2 c2 A3 c3 := by
  obtain ⟨_, _, rfl, rfl, ⟨_, _, rfl, ⟨A1, c1, rfl, l1, h1⟩, ⟨_, _, rfl, ⟨A2, c2, rfl, l2, h2⟩, ⟨A3, c3, rfl, l3, h3⟩⟩⟩⟩ := h
  exact ⟨A1, c1, A2, c2, A3, c3, rfl, l1, l2, l3, h1, h2, h3⟩
theorem kNode_mk {w : World} {x : Node} {A1 A2 A3 : Option Addr} {c1 c2 c3 : Nat} (h : NodeC w x A1 c1 A2 c2 A3 c3) : kNode.K w x [.int .i64 x.kind, .slice A1 x.ints.length c1, .slice A2 x.texts.length c2, .slice A3 x.kids.length c3] :=
  ⟨[_], _, rfl, rfl, ⟨[_], _, rfl, ⟨A1, c1, rfl, h.l1, h.i⟩, ⟨[_], _, rfl, ⟨A2, c2, rfl, h.l2, h.t⟩, ⟨A3, c3, rfl, h.l3, h.k⟩⟩⟩⟩
theorem at_node {w : World} {A : Option Addr} {n : Nat} {xs : List Node} (h : kNode.C w A n xs) (i : Nat) (h1 : i < n) :
    ∃ ad A1 c1 A2 c2 A3 c3, A = some ad ∧ w.cell? (ad.add (i * 4)) = some (.int .i64 (nd xs i).kind) ∧ w.cell? ⟨(ad.add (i * 4)).block, (ad.add (i * 4)).off + 1, none⟩ = some (.slice A1 (nd xs i).ints.length c1) ∧ w.cell? ⟨(ad.add (i * 4)).block, (ad.add (i * 4)).off + 2, none⟩ = some (.slice A2 (nd xs i).texts.length c2) ∧ w.cell? ⟨(ad.add (i * 4)).block, (ad.add (i * 4)).off + 3, none⟩ = some (.slice A3 (nd xs i).kids.length c3) ∧ NodeC w (nd xs i) A1 c1 A2 c2 A3 c3 := by
  obtain ⟨ad, c, e, _, hK, hc0⟩ := Kd.C_get h nodez (i : Int) (by omega) (by omega)
  have hc : ∀ j u, c[j]? = some u → w.cell? (ad.add (i * 4 + j)) = some u := fun j u h => by simpa [show kNode.sz = 4 from rfl] using hc0 j u h
  have hK' : kNode.K w (nd xs i) c := by simpa [nd] using hK
  obtain ⟨A1, c1, A2, c2, A3, c3, rfl, hN⟩ := kNode_open hK'
  refine ⟨ad, A1, c1, A2, c2, A3, c3, e, hc 0 _ rfl, ?_, ?_, ?_, hN⟩
  · rw [← add_field _ _ 1 (by omega)]; exact hc 1 _ rfl
  · rw [← add_field _ _ 2 (by omega)]; exact hc 2 _ rfl
  · rw [← add_field _ _ 3 (by omega)]; exact hc 3 _ rfl
section
open Go.Maps
def heldE (v : Value) : Option (DataW Value × List MemPlace) := some (.held v, [])
def MapF (P : Program) (k : TypeId) (w : World) (b n : Nat) (f : Lit → Option Value) : Prop :=
  ∃ D : DataW Value, w.ownsMap P k heldE b n D ∧ ∀ q, Maps.has D q = (f q).isSome ∧ ∀ v z, f q = some v → D.atKey q z = .held v
section
variable {P : Program} {k : TypeId} {w w1 : World} {b n : Nat} {f : Lit → Option Value}
theorem MapF.made (P : Program) (k : TypeId) (w : World) : MapF P k (w.alloc (.map #[] 0)) w.heap.size 0 (fun _ => none) :=
  ⟨.map [], World.ownsMap_made w P k heldE, fun q => ⟨rfl, fun v z h => by cases h⟩⟩
theorem MapF.lt (h : MapF P k w b n f) : b < w.heap.size := by
  obtain ⟨D, h, _⟩ := h
  exact h.lt
theorem MapF.kept {row : Option Nat} (h : MapF P k w b n f) (hg : w.grownBy w1 row) (hne : some b ≠ row) : MapF P k w1 b n f := by
  obtain ⟨D, h, hf⟩ := h
  exact ⟨D, h.kept hg hne, hf⟩
theorem MapF.below (h : MapF P k w b n f) (hb : Below w.heap.size w w1) : MapF P k w1 b n f := h.kept (row := none) ⟨hb.os, hb.tape, hb.output, hb.size, fun i hi _ => hb.block i hi⟩ (by simp)
theorem MapF.setCell (h : MapF P k w b n f) {a : Addr} (ha : b ≠ a.block) (u : Value) : MapF P k (w.setCell a u) b n f := by
  obtain ⟨D, h, hf⟩ := h
  exact ⟨D, h.setCell ha u, hf⟩
theorem MapF.mono (h : MapF P k w b n f) {n' : Nat} (hn : n ≤ n') : MapF P k w b n' f := by
  obtain ⟨D, h, hf⟩ := h
  exact ⟨D, h.mono hn, hf⟩
theorem MapF.not_cells (h : MapF P k w b n f) {cs : Array Value} {t : TypeId} {fr : Nat × Nat} : ¬ w.heap[b]? = some (.cells cs t fr) := by
  obtain ⟨D, ⟨es, clock, hb, _⟩, _⟩ := h
  rw [hb]
  intro h
  cases h
theorem MapF.ne_row {α : Type} {d : Kd α} {e base : Nat} {ok : Nat → Prop} {v : Value} {xs : List α} (h : MapF P k w b n f) (hR : d.R e w base ok v xs) : some b ≠ v.ownBlock := fun he => by
  obtain ⟨cells, hc⟩ := Kd.R_typed hR b he.symm
  exact h.not_cells hc
theorem R_past_map {α : Type} {d : Kd α} {e base : Nat} {ok : Nat → Prop} {v : Value} {xs : List α} (hR : d.R e w base ok v xs) (h : MapF P k w b n f) (hg : w.grownBy w1 (some b)) : d.R e w1 base ok v xs :=
  Kd.R_mono (Kd.R_grown (Kd.R_bound hR) hg (fun q hq he => by
    obtain ⟨_, _, _, e', _, cells, hc⟩ := hq
    injection he with he
    subst he
    exact h.not_cells hc)) (fun _ hq => hq.1)
theorem below_map {B : Nat} {w0 : World} (h : Below B w0 w) (hB : B ≤ w.heap.size) (hg : w.grownBy w1 (some b)) (hb : B ≤ b) : Below B w0 w1 := h.grown hg hB (fun q hq => by injection hq with hq; omega)
open Classical in
noncomputable def putF (f : Lit → Option Value) (q : Lit) (v : Value) : Lit → Option Value := fun x => if x = q then some v else f x
theorem putF_same (f : Lit → Option Value) (q : Lit) (v : Value) : putF f q v q = some v := by simp [putF]
theorem putF_other (f : Lit → Option Value) {q x : Lit} (v : Value) (h : x ≠ q) : putF f q v x = f x := by simp [putF, h]
end
section
variable {P : Program} (w : World) {ops : Array Oper} {rest : List Oper} {o : Oper} {a : Act} {Q : Exit → Act → World → Prop}
theorem MapF.run_lookup {b n : Nat} {f : Lit → Option Value} {k e : TypeId} (t : TypeId) (hown : MapF P k w b n f) (K : Keyed P k) (ht : P.underlying t = some (.map k e)) {z : Value} (hz : (zeroValue e).run P w = .ok z w) {key : Value} {kl : Lit} (hkey : keyOf P k key = some kl) :
    (Instr.lookup t (.map (some b)) key false).run P w = .ok ((f kl).getD z) w := by
  obtain ⟨D, hown, hf⟩ := hown
  obtain ⟨v, ps, hrun, hv⟩ := hown.lookup (z := z) (zd := .held z) (zp := []) K ht hz rfl hkey
  have e : v = (f kl).getD z := by
    have hv' : DataW.held v = D.atKey kl (.held z) := by
      have := Option.some.inj hv
      exact (Prod.mk.inj this).1
    cases hq : f kl with
    | none =>
      have h1 := (hf kl).1
      rw [hq] at h1
      rw [Maps.atKey_of_not_has h1] at hv'
      exact DataW.held.inj hv'
    | some u =>
      rw [(hf kl).2 u _ hq] at hv'
      exact DataW.held.inj hv'
  rw [← e]; exact hrun
theorem wpList_lookup_F (hg : o.guard = none) (m x : Operand) (t : TypeId) (hop : o.op = Op.lookup t m x false)
    (k e : TypeId) (K : Keyed P k) (ht : P.underlying t = some (.map k e)) {z : Value} (hz : (zeroValue e).run P w = .ok z w) (b n : Nat) (f : Lit → Option Value)
    (hm : a.eval m = .map (some b)) (hown : MapF P k w b n f) (key : Value) (kl : Lit) (hx : a.eval x = key) (hkey : keyOf P k key = some kl) (u : Value) (hu : (f kl).getD z = u)
    (hK : wpList P ops Q rest (a.put o.dst u) w) :
    wpList P ops Q (o :: rest) a w := by
  subst hu
  obtain ⟨D, hown, hf⟩ := hown
  refine wpList_plain hg fun K' hK' => ?_
  obtain ⟨v, ps, hrun, hv⟩ := hown.lookup (z := z) (zd := .held z) (zp := []) K ht hz rfl hkey
  have e : v = (f kl).getD z := by
    have hv' : DataW.held v = D.atKey kl (.held z) := by
      have := Option.some.inj hv
      exact (Prod.mk.inj this).1
    cases hq : f kl with
    | none =>
      have h1 := (hf kl).1
      rw [hq] at h1
      rw [Maps.atKey_of_not_has h1] at hv'
      exact DataW.held.inj hv'
    | some u =>
      rw [(hf kl).2 u _ hq] at hv'
      exact DataW.held.inj hv'
  subst e
  unfold Oper.wp
  simp [execOp, hop, hm, hx, hrun, Result.andThen]
  exact hK' _ _ hK
theorem wpList_update_F (hg : o.guard = none) (m x v : Operand) (t : TypeId) (hop : o.op = Op.mapUpdate t m x v)
    (k e : TypeId) (K : Keyed P k) (ht : P.underlying t = some (.map k e)) (b n : Nat) (f : Lit → Option Value)
    (hm : a.eval m = .map (some b)) (hown : MapF P k w b n f) (hn : n < maxLen) (key val : Value) (kl : Lit) (hx : a.eval x = key) (hv : a.eval v = val) (hkey : keyOf P k key = some kl)
    (hK : ∀ w', MapF P k w' b (n + 1) (putF f kl val) → w.grownBy w' (some b) → wpList P ops Q rest (a.put o.dst undef) w') :
    wpList P ops Q (o :: rest) a w := by
  obtain ⟨D, hown, hf⟩ := hown
  have hm' := hown.isMap
  have hkl : WideAt.IsKeyLit kl := K.key hkey
  refine wpList_mapUpdate_own w hg m x v t hop k e K ht heldE b n D hm hown hn key val kl hx hv hkey (.held val) [] rfl ?_
  intro w' h1 h2
  refine hK w' ⟨_, h1, fun q => ?_⟩ h2
  by_cases hq : q = kl
  · subst hq
    rw [Maps.has_put_same hm' hkl, putF_same]
    refine ⟨rfl, fun u z hu => ?_⟩
    cases hu
    exact Maps.atKey_put_same hm' hkl _ _
  · rw [Maps.has_put_other hq, putF_other f val hq]
    refine ⟨(hf q).1, fun u z hu => ?_⟩
    rw [Maps.atKey_put_other hq]
    exact (hf q).2 u z hu
end
end
end Go.Proofs.YtglfebpgdghlfaaDoor.L
end
section
namespace Go.Proofs.YtglfebpgdghlfaaDoor.L
open Go.RowKit Go.ChangeShapes Go.WideShapes Go.Proofs.YtglfebpgdghlfaaDoorW.PrintWords Go.Proofs.YtglfebpgdghlfaaDoorW.PrintLast Go.Proofs.YtglfebpgdghlfaaDoorW.PrintMore
attribute [local go_sem] max2_int min2_int max_two min_two max_three min_three max_four min_four
def RowPost {α : Type} (d : Kd α) (t : Nat) (l : List α) (w : World) (e : Ending) (w' : World) : Prop := ∃ A c, e = .returned (.slice A l.length c) ∧ d.R t w' w.heap.size (fun _ => True) (.slice A l.length c) l ∧ Below w.heap.size w w'
theorem RowPost.mk {α : Type} {d : Kd α} {t : Nat} {l : List α} {w w' : World} {v : Value} (h : d.R t w' w.heap.size (fun _ => True) v l) (hb : Below w.heap.size w w') : RowPost d t l w (.returned v) w' := by
  obtain ⟨A, c, rfl⟩ := Kd.R_slice h
  exact ⟨A, c, rfl, h, hb⟩
theorem info_i64 : (Tryd.prog.info? 2).map (fun i => (i.zero, i.size, i.bytes)) = some (some (.int .i64 0), 1, 8) := by kernel_rfl
theorem info_int : (Tryd.prog.info? 3).map (fun i => (i.zero, i.size, i.bytes)) = some (some (.int .i64 0), 1, 8) := by kernel_rfl
theorem info_str : (Tryd.prog.info? 9).map (fun i => (i.zero, i.size, i.bytes)) = some (some (.string ByteArray.empty), 1, 16) := by kernel_rfl
set_option maxHeartbeats 1000000 in
theorem clone_i64 (A : Option Addr) (c : Nat) (l : List Int) (w : World) (h : (Kd.int .i64).C w A l.length l) (hl : l.length ≤ 8000000000000) :
    Calls Tryd.prog 74 #[.slice A l.length c] w (RowPost (Kd.int .i64) 2 l w) := by
  have HR := Aside0.mk h
  have HB := Aside0.mk (Below.refl w.heap.size w)
  clear h
  have hn := fun (w : World) (a : Option Addr) (n c : Nat) => Lib.run_eql_slice_nil (P := Tryd.prog) w 22 2 a n c 0 0 Tryd.underlying22
  cases A with
  | none =>
    have HE : Aside0 (l = []) := ⟨by
      rcases Nat.eq_zero_or_pos l.length with h0 | h0
      · exact List.eq_nil_of_length_eq_zero h0
      · obtain ⟨ad, h, _⟩ := HR.out.2.2 h0; cases h⟩
    go_enter Tryd.func74, Tryd.ntmps74
    go_wp2
    go_ret
    exact RowPost.mk (by rw [HE.out]; exact Kd.R_nil _ _ _ _ _) HB.out
  | some ad =>
    go_enter Tryd.func74, Tryd.ntmps74
    go_wp2_with (at_builtin; refine Kd.R_append_rows (Kd.int .i64) (Rr := fun x cs => cs = [.int .i64 x]) (w0 := w) w.heap.size rfl (.tmp 5) (.tmp 6) 22 2 (.int .i64 0) 8 rfl Tryd.underlying22 info_i64 rfl (by decide) (by omega) (.slice (some ⟨w.heap.size, 0, none⟩) 0 0) [] l _ _ _ (fun _ => True) (fun _ => False) rfl rfl (R_empty _ _ _ _ (Nat.le_refl _)) (Kd.C_alloc HR.out _) (fun _ _ h => h) (fun _ h => h.elim) (fun _ _ => trivial) (below_alloc HB.out _) (below_alloc HB.out _).size (by simp; omega) ?_; intro v2 w2 hR2 hB2 _ _; have HR2 := Aside0.mk hR2; have HB2 := Aside0.mk hB2; clear hR2 hB2)
    go_ret
    exact RowPost.mk (by have := HR2.out; rwa [List.nil_append] at this) HB2.out
set_option maxHeartbeats 1000000 in
theorem clone_int (A : Option Addr) (c : Nat) (l : List Int) (w : World) (h : (Kd.int .i64).C w A l.length l) (hl : l.length ≤ 8000000000000) :
    Calls Tryd.prog 39 #[.slice A l.length c] w (RowPost (Kd.int .i64) 3 l w) := by
  have HR := Aside0.mk h
  have HB := Aside0.mk (Below.refl w.heap.size w)
  clear h
  have hn := fun (w : World) (a : Option Addr) (n c : Nat) => Lib.run_eql_slice_nil (P := Tryd.prog) w 24 3 a n c 0 0 Tryd.underlying24
  cases A with
  | none =>
    have HE : Aside0 (l = []) := ⟨by
      rcases Nat.eq_zero_or_pos l.length with h0 | h0
      · exact List.eq_nil_of_length_eq_zero h0
      · obtain ⟨ad, h, _⟩ := HR.out.2.2 h0; cases h⟩
    go_enter Tryd.func39, Tryd.ntmps39
    go_wp2
    go_ret
    exact RowPost.mk (by rw [HE.out]; exact Kd.R_nil _ _ _ _ _) HB.out
  | some ad =>
    go_enter Tryd.func39, Tryd.ntmps39
    go_wp2_with (at_builtin; refine Kd.R_append_rows (Kd.int .i64) (Rr := fun x cs => cs = [.int .i64 x]) (w0 := w) w.heap.size rfl (.tmp 5) (.tmp 6) 24 3 (.int .i64 0) 8 rfl Tryd.underlying24 info_int rfl (by decide) (by omega) (.slice (some ⟨w.heap.size, 0, none⟩) 0 0) [] l _ _ _ (fun _ => True) (fun _ => False) rfl rfl (R_empty _ _ _ _ (Nat.le_refl _)) (Kd.C_alloc HR.out _) (fun _ _ h => h) (fun _ h => h.elim) (fun _ _ => trivial) (below_alloc HB.out _) (below_alloc HB.out _).size (by simp; omega) ?_; intro v2 w2 hR2 hB2 _ _; have HR2 := Aside0.mk hR2; have HB2 := Aside0.mk hB2; clear hR2 hB2)
    go_ret
    exact RowPost.mk (by have := HR2.out; rwa [List.nil_append] at this) HB2.out
set_option maxHeartbeats 1000000 in
theorem clone_str (A : Option Addr) (c : Nat) (l : List ByteArray) (w : World) (h : Kd.string.C w A l.length l) (hl : l.length ≤ 8000000000000) :
    Calls Tryd.prog 77 #[.slice A l.length c] w (RowPost Kd.string 9 l w) := by
  have HR := Aside0.mk h
  have HB := Aside0.mk (Below.refl w.heap.size w)
  clear h
  have hn := fun (w : World) (a : Option Addr) (n c : Nat) => Lib.run_eql_slice_nil (P := Tryd.prog) w 23 9 a n c 0 0 Tryd.underlying23
  cases A with
  | none =>
    have HE : Aside0 (l = []) := ⟨by
      rcases Nat.eq_zero_or_pos l.length with h0 | h0
      · exact List.eq_nil_of_length_eq_zero h0
      · obtain ⟨ad, h, _⟩ := HR.out.2.2 h0; cases h⟩
    go_enter Tryd.func77, Tryd.ntmps77
    go_wp2
    go_ret
    exact RowPost.mk (by rw [HE.out]; exact Kd.R_nil _ _ _ _ _) HB.out
  | some ad =>
    go_enter Tryd.func77, Tryd.ntmps77
    go_wp2_with (at_builtin; refine Kd.R_append_rows Kd.string (Rr := fun x cs => cs = [.string x]) (w0 := w) w.heap.size rfl (.tmp 5) (.tmp 6) 23 9 (.string ByteArray.empty) 16 rfl Tryd.underlying23 info_str rfl (by decide) (by omega) (.slice (some ⟨w.heap.size, 0, none⟩) 0 0) [] l _ _ _ (fun _ => True) (fun _ => False) rfl rfl (R_empty _ _ _ _ (Nat.le_refl _)) (Kd.C_alloc HR.out _) (fun _ _ h => h) (fun _ h => h.elim) (fun _ _ => trivial) (below_alloc HB.out _) (below_alloc HB.out _).size (by simp; omega) ?_; intro v2 w2 hR2 hB2 _ _; have HR2 := Aside0.mk hR2; have HB2 := Aside0.mk hB2; clear hR2 hB2)
    go_ret
    exact RowPost.mk (by have := HR2.out; rwa [List.nil_append] at this) HB2.out
end Go.Proofs.YtglfebpgdghlfaaDoor.L
end
section
namespace Go.Proofs.YtglfebpgdghlfaaDoor.L
open Go.RowKit Go.ChangeShapes Go.WideShapes Go.Proofs.YtglfebpgdghlfaaDoorW.PrintWords Go.Proofs.YtglfebpgdghlfaaDoorW.PrintLast Go.Proofs.YtglfebpgdghlfaaDoorW.PrintMore
attribute [local go_sem] max2_int min2_int max_two min_two max_three min_three max_four min_four
def Lives (k b : Nat) (W : World) : Prop := ∃ cs : Array Value, cs.size = k ∧ ∃ t, W.heap[b]? = some (.cells cs t (0, 0))
noncomputable def cellAt (W : World) (b i : Nat) : Value := (W.cell? ⟨b, i, none⟩).getD undef
theorem Lives.at {k b : Nat} {W : World} (h : Lives k b W) (i : Nat) (hi : i < k) : W.cell? ⟨b, i, none⟩ = some (cellAt W b i) ∧ W.frozen? ⟨b, i, none⟩ = false := by
  obtain ⟨cs, hk, t, h⟩ := h
  have hx : W.cell? ⟨b, i, none⟩ = some (cs[i]'(by omega)) := by rw [blk_cell h i, Array.getElem?_eq_getElem]
  exact ⟨by unfold cellAt; rw [hx]; rfl, blk_frozen h i⟩
theorem Lives.set {k b : Nat} {W : World} (h : Lives k b W) (i : Nat) (u : Value) : Lives k b (W.setCell ⟨b, i, none⟩ u) := by
  obtain ⟨cs, hk, t, h⟩ := h
  exact ⟨_, by simpa using hk, t, blk_set h i u⟩
theorem Lives.below {k b : Nat} {W W1 : World} (h : Lives k b W) (hb : Below W.heap.size W W1) : Lives k b W1 := by
  obtain ⟨cs, hk, t, h⟩ := h
  exact ⟨cs, hk, t, (hb.block b (blk_lt h)).trans h⟩
theorem Lives.drew {k b : Nat} {W : World} (h : Lives k b W) : Lives k b W.drew := h
theorem Lives.new (W : World) (cs : Array Value) (t : Nat) : Lives cs.size W.heap.size (W.alloc (.cells cs t)) := ⟨cs, rfl, t, by simpa using heap_alloc_new W _⟩
theorem far_set {W : World} {p : Addr} {v : Value} (h : W.cell? p = some v) (b i : Nat) (hne : b ≠ p.block) (u : Value) : (W.setCell ⟨b, i, none⟩ u).cell? p = some v := (World.cell?_setCell_far W ⟨b, i, none⟩ p u hne).trans h
theorem Lives.set4 {b : Nat} {W : World} (h : Lives 4 b W) (u0 u1 u2 u3 : Value) :
    (((((W.setCell ⟨b, 0, none⟩ u0).setCell ⟨b, 1, none⟩ u1).setCell ⟨b, 2, none⟩ u2).setCell ⟨b, 3, none⟩ u3).cell? ⟨b, 0, none⟩ = some u0 ∧ ((((W.setCell ⟨b, 0, none⟩ u0).setCell ⟨b, 1, none⟩ u1).setCell ⟨b, 2, none⟩ u2).setCell ⟨b, 3, none⟩ u3).cell? ⟨b, 1, none⟩ = some u1) ∧
    ((((W.setCell ⟨b, 0, none⟩ u0).setCell ⟨b, 1, none⟩ u1).setCell ⟨b, 2, none⟩ u2).setCell ⟨b, 3, none⟩ u3).cell? ⟨b, 2, none⟩ = some u2 ∧ ((((W.setCell ⟨b, 0, none⟩ u0).setCell ⟨b, 1, none⟩ u1).setCell ⟨b, 2, none⟩ u2).setCell ⟨b, 3, none⟩ u3).cell? ⟨b, 3, none⟩ = some u3 := by
  obtain ⟨cs, hk, t, h⟩ := h
  have h4 := blk_set (blk_set (blk_set (blk_set h 0 u0) 1 u1) 2 u2) 3 u3
  refine ⟨⟨?_, ?_⟩, ?_, ?_⟩ <;> rw [blk_cell h4] <;> simp [Array.getElem?_setIfInBounds, hk]
structure Stored (b : Nat) (cs : List Value) (W W1 : World) : Prop where
  here : ∃ t, W1.heap[b]? = some (.cells cs.toArray t (0, 0))
  far : ∀ k, k ≠ b → W1.heap[k]? = W.heap[k]?
  os : W1.os = W.os
  tape : W1.tape = W.tape
  output : W1.output = W.output
  size : W1.heap.size = W.heap.size
theorem Stored.cell {b : Nat} {cs : List Value} {W W1 : World} (h : Stored b cs W W1) (i : Nat) : W1.cell? ⟨b, i, none⟩ = cs[i]? := by
  obtain ⟨t, h⟩ := h.here
  rw [blk_cell h i]
  simp
theorem Stored.other {b : Nat} {cs : List Value} {W W1 : World} (h : Stored b cs W W1) {p : Addr} {v : Value} (hc : W.cell? p = some v) (hp : p.block ≠ b) : W1.cell? p = some v := by
  rw [← hc]
  unfold World.cell?
  rw [h.far _ hp]
theorem Stored.below {b B : Nat} {cs : List Value} {w0 W W1 : World} (h : Stored b cs W W1) (hb : Below B w0 W) (hB : B ≤ b) : Below B w0 W1 :=
  hb.trans ⟨h.os, h.tape, h.output, by rw [h.size]; exact Nat.le_refl _, fun k hk => h.far k (by omega)⟩
theorem Stored.grown {b : Nat} {cs : List Value} {W W1 : World} (h : Stored b cs W W1) : W.grownBy W1 (some b) :=
  ⟨h.os, h.tape, h.output, by rw [h.size]; exact Nat.le_refl _, fun k _ hk => h.far k (fun e => hk (by rw [e]))⟩
theorem R_old_far {α : Type} {d : Kd α} {e B b i : Nat} {w : World} {v : Value} {xs : List α} (h : d.R e w B (fun _ => True) v xs) (hb : b < B) (u : Value) : d.R e (w.setCell ⟨b, i, none⟩ u) B (fun _ => True) v xs :=
  Kd.R_mono (Kd.R_far (p := ⟨b, i, none⟩) (Kd.R_bound h) (fun k hk => by have h1 := hk.2.1; show k ≠ b; omega) u) (fun _ _ => trivial)
theorem R_old4 {α : Type} {d : Kd α} {e B b i0 i1 i2 i3 : Nat} {w : World} {v : Value} {xs : List α} (h : d.R e w B (fun _ => True) v xs) (hb : b < B) (u0 u1 u2 u3 : Value) : d.R e ((((w.setCell ⟨b, i0, none⟩ u0).setCell ⟨b, i1, none⟩ u1).setCell ⟨b, i2, none⟩ u2).setCell ⟨b, i3, none⟩ u3) B (fun _ => True) v xs :=
  R_old_far (R_old_far (R_old_far (R_old_far h hb u0) hb u1) hb u2) hb u3
theorem below_set4 {w W : World} {g i0 i1 i2 i3 : Nat} {u0 u1 u2 u3 : Value} (h : Below w.heap.size w W) (hg : w.heap.size ≤ g) : Below w.heap.size w ((((W.setCell ⟨g, i0, none⟩ u0).setCell ⟨g, i1, none⟩ u1).setCell ⟨g, i2, none⟩ u2).setCell ⟨g, i3, none⟩ u3) :=
  below_set (below_set (below_set (below_set h hg) hg) hg) hg
end Go.Proofs.YtglfebpgdghlfaaDoor.L
end
section
namespace Go.Proofs.YtglfebpgdghlfaaDoor.L
open Go.RowKit Go.ChangeShapes Go.WideShapes Go.Proofs.YtglfebpgdghlfaaDoorW.PrintWords Go.Proofs.YtglfebpgdghlfaaDoorW.PrintLast Go.Proofs.YtglfebpgdghlfaaDoorW.PrintMore
attribute [local go_sem] max2_int min2_int max_two min_two max_three min_three max_four min_four
theorem kNode_mkM {w : World} {base : Nat} {ok : Nat → Prop} {n : Node} {v1 v2 v3 : Value} (h1 : (Kd.int .i64).R 2 w base ok v1 n.ints) (h2 : Kd.string.R 9 w base ok v2 n.texts) (h3 : (Kd.int .i64).R 3 w base ok v3 n.kids) :
    kNode.M w base ok n [.int .i64 n.kind, v1, v2, v3] := ⟨[_], [v1, v2, v3], rfl, rfl, ⟨[v1], [v2, v3], rfl, ⟨v1, rfl, h1⟩, ⟨[v2], [v3], rfl, ⟨v2, rfl, h2⟩, ⟨v3, rfl, h3⟩⟩⟩⟩
theorem kNode_openM {w : World} {base : Nat} {ok : Nat → Prop} {n : Node} {cs : List Value} (h : kNode.M w base ok n cs) : ∃ v1 v2 v3, cs = [.int .i64 n.kind, v1, v2, v3] ∧ (Kd.int .i64).R 2 w base ok v1 n.ints ∧ Kd.string.R 9 w base ok v2 n.texts ∧ (Kd.int .i64).R 3 w base ok v3 n.kids := by
  obtain ⟨_, _, rfl, rfl, ⟨_, _, rfl, ⟨v1, rfl, h1⟩, ⟨_, _, rfl, ⟨v2, rfl, h2⟩, ⟨v3, rfl, h3⟩⟩⟩⟩ := h
  exact ⟨v1, v2, v3, rfl, h1, h2, h3⟩
def Small (n : Node) : Prop := n.ints.length ≤ 1000000 ∧ n.texts.length ≤ 1000000 ∧ n.kids.length ≤ 1000000
def IsNodeM (base : Nat) (n : Node) (v : Value) (w : World) : Prop := ∃ v1 v2 v3, v = .agg #[.int .i64 n.kind, v1, v2, v3] ∧ kNode.M w base (fun _ => True) n [.int .i64 n.kind, v1, v2, v3]
def CopyPost (n : Node) (w : World) (e : Ending) (w' : World) : Prop := ∃ v, e = .returned v ∧ IsNodeM w.heap.size n v w' ∧ Below w.heap.size w w'
set_option maxRecDepth 100000 in
set_option maxHeartbeats 400000 in
theorem copy_any (n : Node) (A1 : Option Addr) (c1 : Nat) (A2 : Option Addr) (c2 : Nat) (A3 : Option Addr) (c3 : Nat) (w : World) (h : NodeC w n A1 c1 A2 c2 A3 c3) (hs : Small n) :
    Calls Tryd.prog 88 #[.agg #[.int .i64 n.kind, .slice A1 n.ints.length c1, .slice A2 n.texts.length c2, .slice A3 n.kids.length c3]] w (CopyPost n w) := by
  have HN := Aside0.mk h
  have HS := Aside0.mk hs
  have HB := Aside0.mk (Below.refl w.heap.size w)
  clear h hs
  have HL := Aside0.mk (show Lives 4 (w.heap.size + 1) ((w.alloc (Obj.cells #[.int .i64 n.kind, .slice A1 n.ints.length c1, .slice A2 n.texts.length c2, .slice A3 n.kids.length c3] 26)).alloc (Obj.cells #[Value.int IntKind.i64 0, Value.slice none 0 0, Value.slice none 0 0, Value.slice none 0 0] 26)) from by
    have := Lives.new (w.alloc (Obj.cells #[.int .i64 n.kind, .slice A1 n.ints.length c1, .slice A2 n.texts.length c2, .slice A3 n.kids.length c3] 26)) #[Value.int IntKind.i64 0, Value.slice none 0 0, Value.slice none 0 0, Value.slice none 0 0] 26
    simpa using this)
  have HBa := Aside0.mk (below_alloc (below_alloc HB.out (Obj.cells #[.int .i64 n.kind, .slice A1 n.ints.length c1, .slice A2 n.texts.length c2, .slice A3 n.kids.length c3] 26)) (Obj.cells #[Value.int IntKind.i64 0, Value.slice none 0 0, Value.slice none 0 0, Value.slice none 0 0] 26))
  have hu := Tryd.underlying26
  have hL0 := fun (W : World) (h : Lives 4 (w.heap.size + 1) W) => h.at 0 (by omega)
  have hL1 := fun (W : World) (h : Lives 4 (w.heap.size + 1) W) => h.at 1 (by omega)
  have hL2 := fun (W : World) (h : Lives 4 (w.heap.size + 1) W) => h.at 2 (by omega)
  have hL3 := fun (W : World) (h : Lives 4 (w.heap.size + 1) W) => h.at 3 (by omega)
  go_enter Tryd.func88, Tryd.ntmps88
  go_wp2_with fail
  go_region_held3 (fun W => W.cell? ⟨w.heap.size, 0, none⟩ = some (.int .i64 n.kind) ∧ W.cell? ⟨w.heap.size, 1, none⟩ = some (.slice A1 n.ints.length c1) ∧ W.cell? ⟨w.heap.size, 2, none⟩ = some (.slice A2 n.texts.length c2) ∧ W.cell? ⟨w.heap.size, 3, none⟩ = some (.slice A3 n.kids.length c3) ∧ Lives 4 (w.heap.size + 1) W)
    (first
      | (go_split_ands
         refine ⟨?_, ?_, ?_, ?_, ?_⟩
         all_goals first
           | with_reducible exact HL.out
           | with_reducible exact pw_cell_below hB (by assumption)
           | with_reducible exact Lives.below (by assumption) hB
           | with_reducible exact far_set (far_set (far_set (far_set (by assumption) _ _ (by simp) _) _ _ (by simp) _) _ _ (by simp) _) _ _ (by simp) _
           | with_reducible exact Lives.set (Lives.set (Lives.set (Lives.set (by assumption) _ _) _ _) _ _) _ _
           | (simp; done)
           | exact HL.out))
    (first
      | (go_at_call 74; refine (clone_i64 A1 c1 n.ints _ ?_ ?_).mono ?_; (exact Kd.C_below HN.out.i (below_drew HBa.out)); (exact Nat.le_trans HS.out.1 (by omega)); rintro e w1 ⟨B1, d1, rfl, hR1, hB1⟩; have HB1 := Aside0.mk (below_step (below_drew HBa.out) hB1); have hB := hB1)
      | (go_at_call 77; refine (clone_str A2 c2 n.texts _ ?_ ?_).mono ?_; (exact Kd.C_below HN.out.t HB1.out); (exact Nat.le_trans HS.out.2.1 (by omega)); rintro e w2 ⟨B2, d2, rfl, hR2, hB2⟩; have HB2 := Aside0.mk (below_step HB1.out hB2); have hB := hB2)
      | (go_at_call 39; refine (clone_int A3 c3 n.kids _ ?_ ?_).mono ?_; (exact Kd.C_below HN.out.k HB2.out); (exact Nat.le_trans HS.out.2.2 (by omega)); rintro e w3 ⟨B3, d3, rfl, hR3, hB3⟩; have HB3 := Aside0.mk (below_step HB2.out hB3); have hB := hB3))
  have HSz := Aside0.mk (show w.heap.size + 2 ≤ w1.heap.size from by have := hB1.size; simpa using this)
  have HSz2 := Aside0.mk hB2.size
  have HR1 := Aside0.mk (Kd.R_below (Kd.R_below hR1 hB2) hB3)
  have HR2 := Aside0.mk (Kd.R_below hR2 hB3)
  have HR3 := Aside0.mk hR3
  have HLv := Aside0.mk (Lives.below (Lives.below (Lives.below (Lives.drew HL.out) hB1) hB2) hB3)
  clear hB hB1 hB2 hB3 hR1 hR2 hR3 hL0 hL1 hL2 hL3
  go_wp2
  have h4 := HLv.out.set4 (.int .i64 n.kind) (.slice B1 n.ints.length d1) (.slice B2 n.texts.length d2) (.slice B3 n.kids.length d3)
  exact bodyPost_ret (v := .agg #[.int .i64 n.kind, .slice B1 n.ints.length d1, .slice B2 n.texts.length d2, .slice B3 n.kids.length d3]) (by simp [results, Tryd.results88, go_sem, h4]) rfl
    ⟨_, rfl, ⟨_, _, _, rfl, kNode_mkM (Kd.R_lower (R_old4 HR1.out (by simp) _ _ _ _) (by simp; omega)) (Kd.R_lower (R_old4 HR2.out (by have := HSz.out; omega) _ _ _ _) (by have := HSz.out; omega)) (Kd.R_lower (R_old4 HR3.out (by have := HSz.out; have := HSz2.out; omega) _ _ _ _) (by have := HSz.out; have := HSz2.out; omega))⟩, below_set4 HB3.out (by omega)⟩
end Go.Proofs.YtglfebpgdghlfaaDoor.L
end
section
namespace Go.Proofs
open Go.Shelf
def Tryd.lays197_ren : Go.Shelf.Ren := ⟨fun | 197 => 105 | 260 => 118 | n => n, fun | 9 => 9 | 21 => 21 | 3 => 3 | 4 => 4 | 5 => 5 | 105 => 136 | 119 => 164 | 0 => 0 | 46 => 153 | 139 => 167 | 138 => 166 | n => n, fun | 3 => 0 | 4 => 1 | n => n⟩
theorem Tryd.lays197 : Go.Proofs.Lays.n197 Tryd.prog Tryd.lays197_ren := {
  mixed := by kernel_rfl
  f197 := Tryd.func105.trans (congrArg some (by kernel_rfl))
  f260 := Tryd.func118.trans (congrArg some (by kernel_rfl))
  t0 := Tryd.underlying0
  a0 := Tryd.isAgg0
  z0 := Tryd.sizeOf0
  v0 := Tryd.zeroValue0
  t3 := Tryd.underlying3
  a3 := Tryd.isAgg3
  z3 := Tryd.sizeOf3
  v3 := Tryd.zeroValue3
  t4 := Tryd.underlying4
  a4 := Tryd.isAgg4
  z4 := Tryd.sizeOf4
  v4 := Tryd.zeroValue4
  t5 := Tryd.underlying5
  a5 := Tryd.isAgg5
  z5 := Tryd.sizeOf5
  v5 := Tryd.zeroValue5
  t9 := Tryd.underlying9
  a9 := Tryd.isAgg9
  z9 := Tryd.sizeOf9
  v9 := Tryd.zeroValue9
  t21 := Tryd.underlying21
  a21 := Tryd.isAgg21
  z21 := Tryd.sizeOf21
  v21 := Tryd.zeroValue21
  t46 := Tryd.underlying153
  a46 := Tryd.isAgg153
  z46 := Tryd.sizeOf153
  v46 := Tryd.zeroValue153
  t105 := Tryd.underlying136
  a105 := Tryd.isAgg136
  z105 := Tryd.sizeOf136
  v105 := Tryd.zeroValue136
  t119 := Tryd.underlying164
  a119 := Tryd.isAgg164
  z119 := Tryd.sizeOf164
  t138 := Tryd.underlying166
  a138 := Tryd.isAgg166
  z138 := Tryd.sizeOf166
  v138 := Tryd.zeroValue166
  t139 := Tryd.underlying167
  a139 := Tryd.isAgg167
  z139 := Tryd.sizeOf167
  v139 := Tryd.zeroValue167
  g3 := by kernel_rfl
  g4 := by kernel_rfl }
def Tryd.lays212_ren : Go.Shelf.Ren := ⟨fun | 212 => 117 | 263 => 120 | 264 => 121 | n => n, fun | 46 => 153 | 51 => 158 | 146 => 159 | 53 => 161 | 148 => 162 | n => n, fun | n => n⟩
theorem Tryd.lays212 : Go.Proofs.Lays.n212 Tryd.prog Tryd.lays212_ren := {
  mixed := by kernel_rfl
  f212 := Tryd.func117.trans (congrArg some (by kernel_rfl))
  f263 := Tryd.func120.trans (congrArg some (by kernel_rfl))
  f264 := Tryd.func121.trans (congrArg some (by kernel_rfl))
  t46 := Tryd.underlying153
  a46 := Tryd.isAgg153
  z46 := Tryd.sizeOf153
  v46 := Tryd.zeroValue153
  t51 := Tryd.underlying158
  a51 := Tryd.isAgg158
  z51 := Tryd.sizeOf158
  v51 := Tryd.zeroValue158
  t53 := Tryd.underlying161
  a53 := Tryd.isAgg161
  z53 := Tryd.sizeOf161
  v53 := Tryd.zeroValue161
  t146 := Tryd.underlying159
  a146 := Tryd.isAgg159
  z146 := Tryd.sizeOf159
  v146 := Tryd.zeroValue159
  t148 := Tryd.underlying162
  a148 := Tryd.isAgg162
  z148 := Tryd.sizeOf162
  v148 := Tryd.zeroValue162 }
open Go.RowKit Go.Lib in
theorem Tryd.bits_Mul (x y : Nat) (hx : x < 18446744073709551616) (hy : y < 18446744073709551616) (w : World) :
    Calls Tryd.prog 117 #[.int .u64 x, .int .u64 y] w fun e w' => e = .returned (.tuple #[.int .u64 ((x * y / 18446744073709551616 : Nat) : Int), .int .u64 ((x * y % 18446744073709551616 : Nat) : Int)]) ∧ w' = w := Any.bits_Mul Tryd.lays212 x y hx hy w
def Tryd.lays260_ren : Go.Shelf.Ren := ⟨fun | 260 => 118 | n => n, fun | 9 => 9 | 21 => 21 | 3 => 3 | 4 => 4 | 5 => 5 | 119 => 164 | 0 => 0 | 46 => 153 | 139 => 167 | 138 => 166 | n => n, fun | 3 => 0 | 4 => 1 | n => n⟩
theorem Tryd.lays260 : Go.Proofs.Lays.n260 Tryd.prog Tryd.lays260_ren := {
  mixed := by kernel_rfl
  f260 := Tryd.func118.trans (congrArg some (by kernel_rfl))
  t0 := Tryd.underlying0
  a0 := Tryd.isAgg0
  z0 := Tryd.sizeOf0
  v0 := Tryd.zeroValue0
  t3 := Tryd.underlying3
  a3 := Tryd.isAgg3
  z3 := Tryd.sizeOf3
  v3 := Tryd.zeroValue3
  t4 := Tryd.underlying4
  a4 := Tryd.isAgg4
  z4 := Tryd.sizeOf4
  v4 := Tryd.zeroValue4
  t5 := Tryd.underlying5
  a5 := Tryd.isAgg5
  z5 := Tryd.sizeOf5
  v5 := Tryd.zeroValue5
  t9 := Tryd.underlying9
  a9 := Tryd.isAgg9
  z9 := Tryd.sizeOf9
  v9 := Tryd.zeroValue9
  t21 := Tryd.underlying21
  a21 := Tryd.isAgg21
  z21 := Tryd.sizeOf21
  v21 := Tryd.zeroValue21
  t46 := Tryd.underlying153
  a46 := Tryd.isAgg153
  z46 := Tryd.sizeOf153
  v46 := Tryd.zeroValue153
  t119 := Tryd.underlying164
  a119 := Tryd.isAgg164
  z119 := Tryd.sizeOf164
  t138 := Tryd.underlying166
  a138 := Tryd.isAgg166
  z138 := Tryd.sizeOf166
  v138 := Tryd.zeroValue166
  t139 := Tryd.underlying167
  a139 := Tryd.isAgg167
  z139 := Tryd.sizeOf167
  v139 := Tryd.zeroValue167
  g3 := by kernel_rfl
  g4 := by kernel_rfl }
open Go.RowKit Go.Lib in
theorem Tryd.utf8_DecodeRuneInString (s : ByteArray) (w : World) (hT : Lib.Utf8Tabs 0 1 w) :
    Calls Tryd.prog 105 #[.string s] w fun e w' => e = .returned (.tuple #[.int .i32 (Lib.decodeGo s).1, .int .i64 (Lib.decodeGo s).2]) ∧ Below w.heap.size w w' := Any.utf8_DecodeRuneInString Tryd.lays197 s w hT
end Go.Proofs
end
section
namespace Go.Proofs.YtglfebpgdghlfaaDoor.L
open Go.RowKit Go.ChangeShapes Go.WideShapes Go.Proofs.YtglfebpgdghlfaaDoorW.PrintWords Go.Proofs.YtglfebpgdghlfaaDoorW.PrintLast Go.Proofs.YtglfebpgdghlfaaDoorW.PrintMore
attribute [local go_sem] max2_int min2_int max_two min_two max_three min_three max_four min_four
theorem own_block {W : World} {base e g n : Nat} {xs : List Value} (h : W.ownsRow base e 1 (.slice (some ⟨g, 0, none⟩) n n) n xs) : W.heap[g]? = some (.cells xs.toArray e (0, 0)) ∧ base ≤ g := by
  rcases h.2 with ⟨hv, _⟩ | ⟨g', cap, cur, hv, hb, hh, hnc, hcm, hcs, htake⟩
  · cases hv
  · injection hv with ha _ hc
    injection ha with ha
    injection ha with hg'
    subst hg'; subst hc
    refine ⟨?_, hb⟩
    have : xs.toArray = cur := by
      apply Array.toList_inj.1
      rw [← htake, List.take_of_length_le (by rw [Array.length_toList]; omega)]
    rw [this]; exact hh
theorem R_of_block {W : World} {base e g : Nat} {xs : List Int} (h : W.heap[g]? = some (.cells (xs.map (Value.int .i64)).toArray e (0, 0))) (hb : base ≤ g) (hm : xs.length ≤ 9223372036854775807) :
    (Kd.int .i64).R e W base (fun _ => True) (.slice (some ⟨g, 0, none⟩) xs.length xs.length) xs := by
  refine Kd.R_of_own (enc := Value.int .i64) (h1 := fun _ => rfl) ⟨by simp [encs], .inr ⟨g, xs.length, _, rfl, hb, h, Nat.le_refl _, by unfold maxLen; omega, by simp, by rw [List.take_of_length_le (by simp)]; rfl⟩⟩ (fun _ _ => trivial)
theorem made_zero (m : Nat) : (madeCells (Value.int .i64 0).cells (m * 1)).toList = List.replicate m (.int .i64 0) := by
  rw [List.eq_replicate_iff]
  refine ⟨by simp [size_madeCells], fun b hb => ?_⟩
  unfold madeCells at hb
  simp only [Array.toList_map, List.mem_map] at hb
  obtain ⟨j, _, rfl⟩ := hb
  show (#[Value.int .i64 0])[j % 1]! = _
  rw [Nat.mod_one]
  rfl
theorem src_one {W : World} {ad : Addr} {x : Value} (h : W.cell? ad = some x) : ∀ j u, [x][j]? = some u → W.cell? (ad.add j) = some u := by
  intro j u hu
  match j with
  | 0 =>
    have : u = x := by simpa using hu.symm
    subst this
    have e : ad.add 0 = ad := by unfold Addr.add; split <;> simp_all
    rw [e]; exact h
  | j + 1 => simp at hu
theorem copy_run {P : Program} {w : World} (dT sT ty : TypeId) (elem : TypeId) (hu : P.underlying dT = some (.slice elem)) (hsz : (P.info? elem).map (·.size) = some 1)
    (dLen dCap : Nat) (ad : Addr) (sLen sCap : Nat) (g off : Nat) (cur : List Value) (t : TypeId) (hg : w.heap[g]? = some (.cells cur.toArray t (0, 0))) (cs : List Value) (hn : cs.length = Nat.min sLen dLen)
    (hsrc : ∀ j v, cs[j]? = some v → w.cell? (ad.add j) = some v) (hfit : off + cs.length ≤ cur.length) (h1 : ∀ v ∈ cs, v.oneCell' = true) (B : Nat) (w0 : World) (hb : Below B w0 w) (hBg : B ≤ g) :
    ∃ w', (Builtin.copy_ #[dT, sT] ty #[.slice (some ⟨g, off, none⟩) dLen dCap, .slice (some ad) sLen sCap]).run P w = .ok (goInt cs.length) w' ∧ w'.heap[g]? = some (.cells (splice cur off cs).toArray t (0, 0)) ∧ Below B w0 w' :=
  ⟨_, run_copy_row (P := P) w dT sT ty elem g off dLen dCap ad sLen sCap cur.toArray t cs hu hsz hg hn hsrc (by simpa using hfit) h1, by simpa [splice] using setRow_heap w g _ _ t _ hg, below_setRow hb hBg _⟩
theorem src_block {W : World} {g : Nat} {t : TypeId} {cur : List Value} (h : W.heap[g]? = some (.cells cur.toArray t (0, 0))) {cs : List Value} (hc : ∀ (j : Nat) (u : Value), cs[j]? = some u → cur[j]? = some u) : ∀ (j : Nat) (u : Value), cs[j]? = some u → W.cell? ((⟨g, 0, none⟩ : Addr).add j) = some u := by
  intro j u hu
  rw [Go.Proofs.YtglfebpgdghlfaaDoorW.PrintWords.add_plain, blk_cell h j]
  simpa using hc j u hu
def repl (n m : Nat) (v : Int) : List Int := List.replicate n v ++ List.replicate (m - n) 0
theorem repl_full (m : Nat) (v : Int) : repl m m v = List.replicate m v := by simp [repl]
theorem repl_length {n m : Nat} (h : n ≤ m) (v : Int) : (repl n m v).length = m := by simp [repl]; omega
theorem repl_src {n m : Nat} (h : n ≤ m) (v : Int) : ∀ (j : Nat) (u : Value), ((List.replicate (min n (m - n)) v).map (Value.int .i64))[j]? = some u → ((repl n m v).map (Value.int .i64))[j]? = some u := by
  intro j u hu
  rw [List.map_replicate, List.getElem?_replicate] at hu
  split at hu
  · rw [repl, List.map_append, List.getElem?_append_left (by simp; omega), List.map_replicate, List.getElem?_replicate, if_pos (by omega)]
    exact hu
  · cases hu
theorem repl_splice {n m : Nat} (h : n ≤ m) (v : Int) : splice ((repl n m v).map (Value.int .i64)) n ((List.replicate (min n (m - n)) v).map (Value.int .i64)) = (repl (n + min n (m - n)) m v).map (Value.int .i64) := by
  unfold splice repl
  simp only [List.map_append, List.map_replicate, List.length_replicate]
  rw [List.take_append_of_le_length (by simp), List.take_of_length_le (by simp), List.drop_append, List.drop_eq_nil_of_le (by simp)]
  simp only [List.length_replicate, List.drop_replicate, List.nil_append, ← List.append_assoc, List.replicate_append_replicate]
  congr 2
  omega
theorem repl_first {m : Nat} (h : 1 ≤ m) (v : Int) : splice ((repl 0 m v).map (Value.int .i64)) 0 [.int .i64 v] = (repl 1 m v).map (Value.int .i64) := by
  obtain ⟨m, rfl⟩ : ∃ j, m = j + 1 := ⟨m - 1, by omega⟩
  simp [splice, repl, List.replicate_succ]
def repeat_intRel (g m n : Nat) (v : Int) (w W : World) : Prop := W.heap[g]? = some (.cells ((repl n m v).map (Value.int .i64)).toArray 3 (0, 0)) ∧ Below w.heap.size w W
set_option maxRecDepth 100000 in
set_option maxHeartbeats 1000000 in
theorem repeat_int (ad : Addr) (c : Nat) (v : Int) (m : Nat) (w : World) (hx : w.cell? ad = some (.int .i64 v)) (h1 : 1 ≤ m) (h2 : m ≤ 1000000) :
    Calls Tryd.prog 102 #[.slice (some ad) 1 c, .int .i64 m] w (RowPost (Kd.int .i64) 3 (List.replicate m v) w) := by
  have HB := Aside0.mk (Below.refl w.heap.size w)
  have HX := Aside0.mk hx
  clear hx
  obtain ⟨i0, hi, hz0, hz1, hz2⟩ := info_parts info_int
  have hm0 : ¬ (m : Int) < 0 := by omega
  go_enter Tryd.func102, Tryd.ntmps102
  go_wp2_with fail
  refine (Tryd.bits_Mul 1 m (by omega) (by omega) _).mono ?_
  rintro e w' ⟨rfl, hw⟩
  obtain rfl : w = w' := hw.symm
  have e1 : 1 * m / 18446744073709551616 = 0 := by omega
  have e2 : 1 * m % 18446744073709551616 = m := by omega
  rw [e1, e2]
  clear e1 e2
  go_wp2_with (refine wpList_make_full _ rfl (.tmp 29) (.tmp 29) 24 rfl w.heap.size 3 i0 (.int .i64 0) 1 Tryd.underlying24 hi hz0 hz1 .i64 .i64 (m : Int) (m : Int) m rfl rfl rfl rfl (by rw [hz2]; omega) (by unfold maxLen; omega) (Nat.le_refl _) ?_; intro w1 hown hg1; have HO := Aside0.mk (show w1.heap[w.heap.size]? = some (.cells ((repl 0 m v).map (Value.int .i64)).toArray 3 (0, 0)) from by rw [(own_block hown).1, made_zero]; simp [repl]); have HB1 := Aside0.mk (below_step HB.out ⟨hg1.os, hg1.tape, hg1.output, hg1.size, fun i hi => hg1.block i hi (by simp)⟩); clear hown hg1; obtain ⟨w2, hcp, hg2, hb2⟩ := copy_run (P := Tryd.prog) 24 24 3 3 Tryd.underlying24 (by rw [hi]; exact congrArg some hz1) m m ad 1 c w.heap.size 0 _ 3 HO.out [.int .i64 v] (Nat.min_eq_left h1).symm (src_one (pw_cell_below HB1.out HX.out)) (by rw [List.length_map, repl_length (Nat.zero_le _)]; exact h1) (by simp [Value.oneCell']) w.heap.size w HB1.out (Nat.le_refl _); have HG := Aside0.mk (show repeat_intRel w.heap.size m 1 v w w2 from ⟨by rw [← repl_first h1]; exact hg2, hb2⟩); clear hg2 hb2)
  go_loopw [8] (fun v8 W => ∃ n : Nat, 1 ≤ n ∧ n ≤ m ∧ v8 = .int .i64 n ∧ Aside0 (repeat_intRel w.heap.size m n v w W)) (fun v8 _ => m - (intOf v8).toNat)
  case atStart => exact ⟨1, by omega, h1, rfl, HG⟩
  case round =>
    obtain ⟨n, hn1, hn2, rfl, HR⟩ := hrel
    by_cases hlt : n < m
    · have HW := Aside0.mk (show IntKind.i64.wrap ((n : Int) + ((min n (m - n) : Nat) : Int)) = ((n + min n (m - n) : Nat) : Int) from by rw [wrap_i (by omega) (by omega)]; push_cast; rfl)
      have hmn : ¬ m = n := by omega
      obtain ⟨w3, hcp3, hg3, hb3⟩ := copy_run (P := Tryd.prog) (w := wr.drew) 24 24 3 3 Tryd.underlying24 (by rw [hi]; exact congrArg some hz1) (m - n) (m - n) ⟨w.heap.size, 0, none⟩ n m w.heap.size n _ 3 HR.out.1 ((List.replicate (min n (m - n)) v).map (Value.int .i64)) (by simp) (src_block HR.out.1 (repl_src hn2 v)) (by simp only [List.length_map, List.length_replicate]; rw [repl_length hn2]; omega) (fun x hx => by simp only [List.mem_map] at hx; obtain ⟨y, _, rfl⟩ := hx; rfl) w.heap.size w (below_drew1 HR.out.2) (Nat.le_refl _)
      have HG3 := Aside0.mk (show repeat_intRel w.heap.size m (n + min n (m - n)) v w w3 from ⟨by rw [← repl_splice hn2]; exact hg3, hb3⟩)
      rw [List.length_map, List.length_replicate] at hcp3
      clear hg3 hb3
      have hw3 := HW.out
      go_wp2
      go_region
      go_wp2
      go_roundw
      case rel => exact ⟨n + min n (m - n), by omega, by omega, rfl, HG3⟩
      case measure => simp [intOf]; omega
    · obtain rfl : n = m := by omega
      go_wp2
      go_ret
      exact RowPost.mk (v := .slice (some ⟨w.heap.size, 0, none⟩) n n) (by
        have h := HR.out.1
        rw [repl_full] at h
        have := R_of_block h (Nat.le_refl _) (by simp; omega)
        simpa using this) HR.out.2
def repeat_i64Rel (g m n : Nat) (v : Int) (w W : World) : Prop := W.heap[g]? = some (.cells ((repl n m v).map (Value.int .i64)).toArray 2 (0, 0)) ∧ Below w.heap.size w W
set_option maxRecDepth 100000 in
set_option maxHeartbeats 1000000 in
theorem repeat_i64 (ad : Addr) (c : Nat) (v : Int) (m : Nat) (w : World) (hx : w.cell? ad = some (.int .i64 v)) (h1 : 1 ≤ m) (h2 : m ≤ 1000000) :
    Calls Tryd.prog 106 #[.slice (some ad) 1 c, .int .i64 m] w (RowPost (Kd.int .i64) 2 (List.replicate m v) w) := by
  have HB := Aside0.mk (Below.refl w.heap.size w)
  have HX := Aside0.mk hx
  clear hx
  obtain ⟨i0, hi, hz0, hz1, hz2⟩ := info_parts info_i64
  have hm0 : ¬ (m : Int) < 0 := by omega
  go_enter Tryd.func106, Tryd.ntmps106
  go_wp2_with fail
  refine (Tryd.bits_Mul 1 m (by omega) (by omega) _).mono ?_
  rintro e w' ⟨rfl, hw⟩
  obtain rfl : w = w' := hw.symm
  have e1 : 1 * m / 18446744073709551616 = 0 := by omega
  have e2 : 1 * m % 18446744073709551616 = m := by omega
  rw [e1, e2]
  clear e1 e2
  go_wp2_with (refine wpList_make_full _ rfl (.tmp 29) (.tmp 29) 22 rfl w.heap.size 2 i0 (.int .i64 0) 1 Tryd.underlying22 hi hz0 hz1 .i64 .i64 (m : Int) (m : Int) m rfl rfl rfl rfl (by rw [hz2]; omega) (by unfold maxLen; omega) (Nat.le_refl _) ?_; intro w1 hown hg1; have HO := Aside0.mk (show w1.heap[w.heap.size]? = some (.cells ((repl 0 m v).map (Value.int .i64)).toArray 2 (0, 0)) from by rw [(own_block hown).1, made_zero]; simp [repl]); have HB1 := Aside0.mk (below_step HB.out ⟨hg1.os, hg1.tape, hg1.output, hg1.size, fun i hi => hg1.block i hi (by simp)⟩); clear hown hg1; obtain ⟨w2, hcp, hg2, hb2⟩ := copy_run (P := Tryd.prog) 22 22 3 2 Tryd.underlying22 (by rw [hi]; exact congrArg some hz1) m m ad 1 c w.heap.size 0 _ 2 HO.out [.int .i64 v] (Nat.min_eq_left h1).symm (src_one (pw_cell_below HB1.out HX.out)) (by rw [List.length_map, repl_length (Nat.zero_le _)]; exact h1) (by simp [Value.oneCell']) w.heap.size w HB1.out (Nat.le_refl _); have HG := Aside0.mk (show repeat_i64Rel w.heap.size m 1 v w w2 from ⟨by rw [← repl_first h1]; exact hg2, hb2⟩); clear hg2 hb2)
  go_loopw [8] (fun v8 W => ∃ n : Nat, 1 ≤ n ∧ n ≤ m ∧ v8 = .int .i64 n ∧ Aside0 (repeat_i64Rel w.heap.size m n v w W)) (fun v8 _ => m - (intOf v8).toNat)
  case atStart => exact ⟨1, by omega, h1, rfl, HG⟩
  case round =>
    obtain ⟨n, hn1, hn2, rfl, HR⟩ := hrel
    by_cases hlt : n < m
    · have HW := Aside0.mk (show IntKind.i64.wrap ((n : Int) + ((min n (m - n) : Nat) : Int)) = ((n + min n (m - n) : Nat) : Int) from by rw [wrap_i (by omega) (by omega)]; push_cast; rfl)
      have hmn : ¬ m = n := by omega
      obtain ⟨w3, hcp3, hg3, hb3⟩ := copy_run (P := Tryd.prog) (w := wr.drew) 22 22 3 2 Tryd.underlying22 (by rw [hi]; exact congrArg some hz1) (m - n) (m - n) ⟨w.heap.size, 0, none⟩ n m w.heap.size n _ 2 HR.out.1 ((List.replicate (min n (m - n)) v).map (Value.int .i64)) (by simp) (src_block HR.out.1 (repl_src hn2 v)) (by simp only [List.length_map, List.length_replicate]; rw [repl_length hn2]; omega) (fun x hx => by simp only [List.mem_map] at hx; obtain ⟨y, _, rfl⟩ := hx; rfl) w.heap.size w (below_drew1 HR.out.2) (Nat.le_refl _)
      have HG3 := Aside0.mk (show repeat_i64Rel w.heap.size m (n + min n (m - n)) v w w3 from ⟨by rw [← repl_splice hn2]; exact hg3, hb3⟩)
      rw [List.length_map, List.length_replicate] at hcp3
      clear hg3 hb3
      have hw3 := HW.out
      go_wp2
      go_region
      go_wp2
      go_roundw
      case rel => exact ⟨n + min n (m - n), by omega, by omega, rfl, HG3⟩
      case measure => simp [intOf]; omega
    · obtain rfl : n = m := by omega
      go_wp2
      go_ret
      exact RowPost.mk (v := .slice (some ⟨w.heap.size, 0, none⟩) n n) (by
        have h := HR.out.1
        rw [repl_full] at h
        have := R_of_block h (Nat.le_refl _) (by simp; omega)
        simpa using this) HR.out.2
end Go.Proofs.YtglfebpgdghlfaaDoor.L
end
section
namespace Go.Proofs.YtglfebpgdghlfaaDoor.L
open Go.RowKit Go.ChangeShapes Go.WideShapes Go.Proofs.YtglfebpgdghlfaaDoorW.PrintWords Go.Proofs.YtglfebpgdghlfaaDoorW.PrintLast Go.Proofs.YtglfebpgdghlfaaDoorW.PrintMore
attribute [local go_sem] max2_int min2_int max_two min_two max_three min_three max_four min_four
abbrev kGrid : Kd (List Int) := Kd.slice 3 (Kd.int .i64)
def row (t : List (List Int)) (i : Nat) : List Int := t.getD i []
theorem row_set {t : List (List Int)} {k j : Nat} (hk : k < t.length) (r : List Int) : row (t.set k r) j = if j = k then r else row t j := by
  unfold row
  rw [List.getD_eq_getElem?_getD, List.getD_eq_getElem?_getD, List.getElem?_set]
  by_cases h : j = k
  · subst h; rw [if_pos rfl, if_pos rfl, if_pos hk]; rfl
  · rw [if_neg (fun e => h e.symm), if_neg h]
theorem grid_lend {W : World} {base g n cap eT : Nat} {ok : Nat → Prop} {t : List (List Int)} (h : Kd.S kGrid eT W base ok (.slice (some ⟨g, 0, none⟩) n cap) t) (hfresh : ∀ q, W.heap.size ≤ q → ok q) (k : Nat) (hk : k < n) :
    ∃ vk, W.cell? ⟨g, k, none⟩ = some vk ∧ W.frozen? ⟨g, k, none⟩ = false ∧ base ≤ g ∧ (Kd.int .i64).R 3 W base (fun _ => True) vk (row t k) ∧ (∀ q, vk.ownBlock = some q → ok q ∧ q ≠ g) ∧
      ∀ (w1 : World) (v1 : Value) (r : List Int), W.grownBy w1 vk.ownBlock → (Kd.int .i64).R 3 w1 base (fun _ => True) v1 r → (v1.ownBlock = vk.ownBlock ∨ ∃ b, v1.ownBlock = some b ∧ W.heap.size ≤ b) →
        w1.cell? ⟨g, k, none⟩ = some vk ∧ w1.frozen? ⟨g, k, none⟩ = false ∧ Kd.S kGrid eT (w1.setCell ⟨g, k, none⟩ v1) base ok (.slice (some ⟨g, 0, none⟩) n cap) (t.set k r) ∧ w1.grownBy (w1.setCell ⟨g, k, none⟩ v1) (some g) := by
  obtain ⟨oki, c, hcl, hM, hcc, hfr, hoki, hH⟩ := Kd.S_elem h ([] : List Int) (k : Int) (by omega) (by omega)
  obtain ⟨vk, rfl, hR⟩ := hM
  have hR' : (Kd.int .i64).R 3 W base oki vk (row t k) := by simpa [row] using hR
  have hg : g < W.heap.size ∧ base ≤ g := by
    obtain ⟨g', cap', e, h1, h2, _⟩ := Kd.S_form h (by have := (Kd.S_reads' h).1; omega)
    injection e with e _ _
    injection e with e
    injection e with e
    subst e
    exact ⟨h2, h1⟩
  have hc0 : W.cell? ⟨g, k, none⟩ = some vk := by have := hcc 0 vk rfl; simpa [show (kGrid).sz = 1 from rfl] using this
  have hf0 : W.frozen? ⟨g, k, none⟩ = false := by have := hfr 0; simpa [show (kGrid).sz = 1 from rfl] using this
  refine ⟨vk, hc0, hf0, hg.2, Kd.R_mono hR' (fun _ _ => trivial), fun q hq => hoki q (hR'.1 q hq), fun w1 v1 r hgr hR1 hat => ?_⟩
  have hne : some g ≠ vk.ownBlock := fun he => (hoki g (hR'.1 g he.symm)).2 rfl
  have hhg : w1.heap[g]? = W.heap[g]? := hgr.block g hg.1 hne
  refine ⟨by rw [← hc0]; unfold World.cell?; rw [hhg], by rw [← hf0]; unfold World.frozen?; rw [hhg], ?_⟩
  have hH1 := Kd.H_grown (Kd.H_widen hH) hgr (fun q hq => .inl (hR'.1 q hq))
  have hM1 : kGrid.M w1 base (fun q => oki q ∨ ok q ∧ W.heap.size ≤ q) r [v1] := ⟨v1, rfl, Kd.R_mono (Kd.R_tight rfl hR1) (fun q hq => by
    rcases hat with hat | ⟨b, hb, hle⟩
    · rw [hat] at hq; exact .inl (hR'.1 q hq.symm)
    · rw [hb] at hq; injection hq with hq; exact .inr ⟨hfresh q (by omega), by omega⟩)⟩
  have hs := Kd.S_seg (okg := fun _ => False) (seg := [v1]) (j := 0) (x' := r) (Kd.H_mono hH1 (fun q hq => ⟨hq, fun h => h⟩)) (by omega) (by omega) (Nat.le_refl 1) hM1 (fun q hq => .inl hq) (fun _ h => h.elim)
  have e : w1.setCells g ((k : Int).toNat * (kGrid).sz + 0) [v1] = w1.setCell ⟨g, k, none⟩ v1 := by
    rw [show (kGrid).sz = 1 from rfl, Int.toNat_natCast, Nat.mul_one]; rfl
  rw [e, Int.toNat_natCast] at hs
  exact hs
theorem grid_read {W : World} {base g n cap eT : Nat} {ok : Nat → Prop} {t : List (List Int)} (h : Kd.S kGrid eT W base ok (.slice (some ⟨g, 0, none⟩) n cap) t) (k : Nat) (hk : k < n) :
    ∃ A c, W.cell? ⟨g, k, none⟩ = some (.slice A (row t k).length c) ∧ (Kd.int .i64).C W A (row t k).length (row t k) := by
  obtain ⟨oki, c, hcl, hM, hcc, hfr, hoki, hH⟩ := Kd.S_elem h ([] : List Int) (k : Int) (by omega) (by omega)
  obtain ⟨vk, rfl, hR⟩ := hM
  have hR' : (Kd.int .i64).R 3 W base oki vk (row t k) := by simpa [row] using hR
  obtain ⟨A, c, rfl⟩ := Kd.R_slice hR'
  exact ⟨A, c, by have := hcc 0 _ rfl; simpa [show (kGrid).sz = 1 from rfl] using this, (Kd.R_reads' hR').2.2⟩
theorem R_grown1 {W W1 : World} {base e : Nat} {k : IntKind} {v : Value} {xs : List Int} {r : Option Nat} (h : (Kd.int k).R e W base (fun _ => True) v xs) (hg : W.grownBy W1 r) (hne : ∀ q, v.ownBlock = some q → some q ≠ r) : (Kd.int k).R e W1 base (fun _ => True) v xs :=
  Kd.R_mono (Kd.R_grown (Kd.R_tight rfl h) hg (fun q hq => hne q hq.symm)) (fun _ _ => trivial)
structure OM (w0 : World) (n gt ct go co : Nat) (vo : Value) (t : List (List Int)) (op out : List Int) (W : World) : Prop where
  tab : Kd.S kGrid 24 W w0.heap.size (fun q => q ≠ go ∧ some q ≠ vo.ownBlock) (.slice (some ⟨gt, 0, none⟩) n ct) t
  opn : (Kd.int .i64).R 3 W w0.heap.size (fun _ => True) (.slice (some ⟨go, 0, none⟩) n co) op
  out : (Kd.int .i64).R 3 W w0.heap.size (fun _ => True) vo out
  ne : ∀ q, vo.ownBlock = some q → q ≠ go
  below : Below w0.heap.size w0 W
section
variable {w0 W W1 : World} {n gt ct go co : Nat} {vo v1 : Value} {t : List (List Int)} {op out out1 : List Int}
theorem OM.go_lt (h : OM w0 n gt ct go co vo t op out W) : go < W.heap.size := Kd.R_lt h.opn go rfl
theorem OM.go_ge (h : OM w0 n gt ct go co vo t op out W) : w0.heap.size ≤ go := Kd.R_base h.opn go rfl
theorem OM.fresh (h : OM w0 n gt ct go co vo t op out W) : ∀ q, W.heap.size ≤ q → q ≠ go ∧ some q ≠ vo.ownBlock := fun q hq =>
  ⟨by have := h.go_lt; omega, fun e => by have := Kd.R_lt h.out q e.symm; omega⟩
theorem OM.later (h : OM w0 n gt ct go co vo t op out W) (hb : Below W.heap.size W W1) : OM w0 n gt ct go co vo t op out W1 :=
  ⟨Kd.S_below h.tab hb, Kd.R_below h.opn hb, Kd.R_below h.out hb, h.ne, below_step h.below hb⟩
theorem OM.push (h : OM w0 n gt ct go co vo t op out W) (hR : (Kd.int .i64).R 3 W1 w0.heap.size (fun _ => True) v1 out1) (hB : Below w0.heap.size w0 W1) (hg : W.grownBy W1 vo.ownBlock) (hat : v1.ownBlock = vo.ownBlock ∨ ∃ b, v1.ownBlock = some b ∧ W.heap.size ≤ b) : OM w0 n gt ct go co v1 t op out1 W1 where
  tab := Kd.S_mono (Kd.S_grown (Kd.S_bound h.tab) hg (fun q hq => hq.1.2)) (fun q hq => ⟨hq.1.1, fun e => by
    rcases hat with hat | ⟨b, hb, hle⟩
    · rw [hat] at e; exact hq.1.2 e
    · rw [hb] at e; injection e with e; have := hq.2.2.1; omega⟩)
  opn := R_grown1 h.opn hg (fun q hq e => by
    have : go = q := by simpa [Value.ownBlock] using hq
    subst this
    exact h.ne go e.symm rfl)
  out := hR
  ne := fun q hq => by
    rcases hat with hat | ⟨b, hb, hle⟩
    · rw [hat] at hq; exact h.ne q hq
    · rw [hb] at hq; injection hq with hq; have := h.go_lt; omega
  below := hB
theorem OM.count (h : OM w0 n gt ct go co vo t op out W) (p : Nat) (hp : p < n) (v : Int) : W.cell? ⟨go, p, none⟩ = some (.int .i64 (rd op (p : Int))) ∧ W.frozen? ⟨go, p, none⟩ = false ∧ OM w0 n gt ct go co vo t (op.set p v) out (W.setCell ⟨go, p, none⟩ (.int .i64 v)) := by
  obtain ⟨c1, c2⟩ := ints_cell h.opn p hp
  obtain ⟨s1, s2, _⟩ := ints_store h.opn p hp v
  exact ⟨c1, c2, Kd.S_far (p := ⟨go, p, none⟩) h.tab (fun q hq => hq.1) _, s1, R_grown1 h.out s2 (fun q hq e => by injection e with e; exact h.ne q hq e), h.ne, below_set h.below h.go_ge⟩
theorem OM.lend (h : OM w0 n gt ct go co vo t op out W) (k : Nat) (hk : k < n) :
    ∃ vk, W.cell? ⟨gt, k, none⟩ = some vk ∧ (Kd.int .i64).R 3 W w0.heap.size (fun _ => True) vk (row t k) ∧
      ∀ (W1 : World) (v1 : Value) (r : List Int), W.grownBy W1 vk.ownBlock → (Kd.int .i64).R 3 W1 w0.heap.size (fun _ => True) v1 r → Below w0.heap.size w0 W1 → (v1.ownBlock = vk.ownBlock ∨ ∃ b, v1.ownBlock = some b ∧ W.heap.size ≤ b) →
        W1.cell? ⟨gt, k, none⟩ = some vk ∧ W1.frozen? ⟨gt, k, none⟩ = false ∧ OM w0 n gt ct go co vo (t.set k r) op out (W1.setCell ⟨gt, k, none⟩ v1) := by
  obtain ⟨vk, c1, c2, hb, hR, hok, hback⟩ := grid_lend h.tab h.fresh k hk
  have hgt : gt ≠ go ∧ some gt ≠ vo.ownBlock := (Kd.S_R h.tab).1 gt rfl
  refine ⟨vk, c1, hR, fun W1 v1 r hg hR1 hB hat => ?_⟩
  obtain ⟨d1, d2, hS, hg2⟩ := hback W1 v1 r hg hR1 hat
  refine ⟨d1, d2, hS, R_grown1 (R_grown1 h.opn hg (fun q hq e => ?_)) hg2 (fun q hq e => ?_), R_grown1 (R_grown1 h.out hg (fun q hq e => ?_)) hg2 (fun q hq e => ?_), h.ne, below_set hB hb⟩
  · have : go = q := by simpa [Value.ownBlock] using hq
    subst this
    exact (hok go e.symm).1.1 rfl
  · have : go = q := by simpa [Value.ownBlock] using hq
    subst this
    injection e with e; exact hgt.1 e.symm
  · exact (hok q e.symm).1.2 hq.symm
  · injection e with e; subst e; exact hgt.2 hq.symm
end
end Go.Proofs.YtglfebpgdghlfaaDoor.L
end
section
namespace Go.Proofs.YtglfebpgdghlfaaDoor.L
open Go.RowKit Go.ChangeShapes Go.WideShapes Go.Proofs.YtglfebpgdghlfaaDoorW.PrintWords Go.Proofs.YtglfebpgdghlfaaDoorW.PrintLast Go.Proofs.YtglfebpgdghlfaaDoorW.PrintMore
attribute [local go_sem] max2_int min2_int max_two min_two max_three min_three max_four min_four
def RowsPost (l : List Node) (w : World) (e : Ending) (w' : World) : Prop := ∃ g c, e = .returned (.slice (some ⟨g, 0, none⟩) l.length c) ∧ Kd.S kNode 26 w' w.heap.size (fun _ => True) (.slice (some ⟨g, 0, none⟩) l.length c) l ∧ Below w.heap.size w w'
theorem S_of_lits {α : Type} (d : Kd α) (W : World) (base e : Nat) (xs : List α) (inner : List Value) (okj : Nat → Nat → Prop) (hap : ∀ i j k, okj i k → okj j k → i = j) (hl : inner.length = xs.length * d.sz)
    (hrep : ∀ j x, xs[j]? = some x → d.M W base (okj j) x ((inner.drop (j * d.sz)).take d.sz)) (hb : base ≤ W.heap.size) (hm : xs.length ≤ 9223372036854775807) :
    Kd.S d e (W.alloc (.cells inner.toArray e)) base (fun _ => True) (.slice (some ⟨W.heap.size, 0, none⟩) xs.length xs.length) xs := by
  obtain ⟨f, hr⟩ := Kd.reps_tag (d := d) (w := W) (base := base) (ok := fun k => True ∧ k < W.heap.size) (okj := fun j k => okj j k ∧ k < W.heap.size) (fun i j k h1 h2 => hap i j k h1.1 h2.1) (fun _ _ h => ⟨trivial, h.2⟩) hl (fun j x hj => d.M_mono (fun k hk => ⟨hk.1, hk.2.2.1⟩) (d.M_bound (hrep j x hj)))
  have h1 := OwnRow.lit (e := e) W base hr hb (by rw [List.length_zipIdx]; exact hm)
  rw [List.length_zipIdx] at h1
  refine ⟨f, fun _ _ => trivial, OwnRow.imp_ h1 (fun p c hp => (Kd.tag f d).M_mono (fun k hk => ⟨trivial, fun e => ?_⟩) (Kd.M_alloc hp _))⟩
  have : k = W.heap.size := by simpa [Value.ownBlock] using e
  have := hk.2
  omega
theorem S_one (W : World) (base B : Nat) (n : Node) (v1 v2 v3 : Value) (hM : kNode.M W B (fun _ => True) n [.int .i64 n.kind, v1, v2, v3]) (hb : base ≤ B) (hB : B ≤ W.heap.size) {cs : Array Value} (hcs : cs = #[.int .i64 n.kind, v1, v2, v3]) :
    Kd.S kNode 26 (W.alloc (.cells cs 26)) base (fun _ => True) (.slice (some ⟨W.heap.size, 0, none⟩) 1 1) [n] := by
  subst hcs
  obtain ⟨x1, x2, x3, e, h1, h2, h3⟩ := kNode_openM hM
  injection e with _ e
  injection e with e1 e
  injection e with e2 e
  injection e with e3 _
  subst e1 e2 e3
  exact S_of_lits kNode W base 26 [n] [.int .i64 n.kind, v1, v2, v3] (fun j _ => j = 0) (fun i j k h1 h2 => h1.trans h2.symm) rfl (fun j x hj => by
    cases j with
    | zero =>
      injection hj with hj
      subst hj
      exact kNode_mkM (Kd.R_mono (Kd.R_lower h1 hb) (fun _ _ => rfl)) (Kd.R_mono (Kd.R_lower h2 hb) (fun _ _ => rfl)) (Kd.R_mono (Kd.R_lower h3 hb) (fun _ _ => rfl))
    | succ j => simp at hj) (Nat.le_trans hb hB) (by simp)
set_option maxRecDepth 100000 in
set_option maxHeartbeats 1000000 in
theorem like_any (n : Int) (count : Nat) (w : World) (h0 : 1 ≤ count) (h1 : count ≤ 1000) : Calls Tryd.prog 75 #[.int .i64 n, .int .i64 (count : Int)] w (RowPost (Kd.int .i64) 2 (List.replicate count n) w) := by
  have HB := Aside0.mk (below_alloc (Below.refl w.heap.size w) (.cells #[.int .i64 n] 2))
  go_enter Tryd.func75, Tryd.ntmps75
  go_wp2_with fail
  refine (repeat_i64 ⟨w.heap.size, 0, none⟩ 1 n count _ (box_cell w _ rfl #[.int .i64 n] 2 0 _ rfl) (by omega) (by omega)).mono ?_
  rintro e w1 ⟨A, c, rfl, hR, hB⟩
  have HR := Aside0.mk (Kd.R_lower hR HB.out.size)
  have HB1 := Aside0.mk (below_step HB.out hB)
  clear hR hB
  go_wp2
  go_ret
  exact RowPost.mk (v := .slice A count c) (by have h := HR.out; rwa [List.length_replicate] at h) HB1.out
end Go.Proofs.YtglfebpgdghlfaaDoor.L
end
section
namespace Go.Proofs.YtglfebpgdghlfaaDoor.L
open Go.RowKit Go.ChangeShapes Go.WideShapes Go.Proofs.YtglfebpgdghlfaaDoorW.PrintWords Go.Proofs.YtglfebpgdghlfaaDoorW.PrintLast Go.Proofs.YtglfebpgdghlfaaDoorW.PrintMore
attribute [local go_sem] max2_int min2_int max_two min_two max_three min_three max_four min_four
theorem R_strs (W : World) (base g : Nat) (hg : W.heap.size = g) (ps : List ByteArray) (hb : base ≤ W.heap.size) (hm : ps.length ≤ 9223372036854775807) {cs : Array Value} (hcs : cs = (ps.flatMap fun x => [.string x]).toArray) : Kd.string.R 9 (W.alloc (.cells cs 9)) base (fun _ => True) (.slice (some ⟨g, 0, none⟩) ps.length ps.length) ps := by
  subst hg
  exact R_lits Kd.string 9 (fun x => [.string x]) W base ps (fun _ => rfl) (fun _ => rfl) hb hm hcs
theorem R_nums (T : TypeId) (W : World) (base g : Nat) (hg : W.heap.size = g) (ps : List Int) (hb : base ≤ W.heap.size) (hm : ps.length ≤ 9223372036854775807) {cs : Array Value} (hcs : cs = (ps.flatMap fun x => [.int .i64 x]).toArray) : (Kd.int .i64).R T (W.alloc (.cells cs T)) base (fun _ => True) (.slice (some ⟨g, 0, none⟩) ps.length ps.length) ps := by
  subst hg
  exact R_lits (Kd.int .i64) T (fun x => [.int .i64 x]) W base ps (fun _ => rfl) (fun _ => rfl) hb hm hcs
theorem RowsPost.one {w W : World} {n : Node} {v1 v2 v3 : Value} {g : Nat} (hM : kNode.M W w.heap.size (fun _ => True) n [.int .i64 n.kind, v1, v2, v3]) (hB : Below w.heap.size w W) (hg : W.heap.size = g) : RowsPost [n] w (.returned (.slice (some ⟨g, 0, none⟩) 1 1)) (W.alloc (.cells #[.int .i64 n.kind, v1, v2, v3] 26)) := by
  subst hg
  exact ⟨_, _, rfl, S_one W w.heap.size w.heap.size n v1 v2 v3 hM (Nat.le_refl _) hB.size rfl, below_step hB (below_alloc (Below.refl _ _) _)⟩
set_option maxRecDepth 100000 in
set_option maxHeartbeats 1000000 in
theorem up1_any (n : Node) (A1 : Option Addr) (c1 : Nat) (A2 : Option Addr) (c2 : Nat) (A3 : Option Addr) (c3 : Nat) (w : World) :
    Calls Tryd.prog 72 #[.agg #[.int .i64 n.kind, .slice A1 n.ints.length c1, .slice A2 n.texts.length c2, .slice A3 n.kids.length c3]] w (RowsPost [⟨1, [], [ByteArray.empty], []⟩] w) := by
  have hu := Tryd.underlying26
  go_enter Tryd.func72, Tryd.ntmps72
  go_wp2
  go_ret
  exact RowsPost.one (n := ⟨1, [], [ByteArray.empty], []⟩) (kNode_mkM (Kd.R_nil _ _ _ _ _) (R_strs _ _ _ (by simp) [ByteArray.empty] (by simp) (by simp) rfl) (Kd.R_nil _ _ _ _ _)) (below_alloc (below_alloc (Below.refl _ _) _) _) (by simp)
set_option maxRecDepth 100000 in
set_option maxHeartbeats 1000000 in
theorem up6_any (n : Node) (A1 : Option Addr) (c1 : Nat) (A2 : Option Addr) (c2 : Nat) (A3 : Option Addr) (c3 : Nat) (w : World) (h : NodeC w n A1 c1 A2 c2 A3 c3) (hl : 0 < n.ints.length) :
    Calls Tryd.prog 80 #[.agg #[.int .i64 n.kind, .slice A1 n.ints.length c1, .slice A2 n.texts.length c2, .slice A3 n.kids.length c3]] w (RowsPost [⟨7, [rd n.ints 0, rd n.ints 0, rd n.ints 0, 1], [], []⟩] w) := by
  have hu := Tryd.underlying26
  have hB := below_alloc (Below.refl w.heap.size w) (.cells #[.int .i64 n.kind, .slice A1 n.ints.length c1, .slice A2 n.texts.length c2, .slice A3 n.kids.length c3] 26)
  have HB := Aside0.mk hB
  obtain ⟨ad, rfl, x0⟩ := at_nat (Kd.C_below h.i hB) 0 hl
  have k1 := box_cell w _ rfl #[.int .i64 n.kind, .slice (some ad) n.ints.length c1, .slice A2 n.texts.length c2, .slice A3 n.kids.length c3] 26 1 _ rfl
  rw [show ad.add 0 = ad from rfl] at x0
  have hr : rd n.ints ((0 : Nat) : Int) = rd n.ints 0 := rfl
  rw [hr] at x0
  clear h hB
  go_enter Tryd.func80, Tryd.ntmps80
  go_wp2_with fail
  refine (like_any (rd n.ints 0) 3 _ (by omega) (by omega)).mono ?_
  rintro e w1 ⟨A4, c4, rfl, hR1, hB1⟩
  have HR1 := Aside0.mk (show (Kd.int .i64).R 2 w1 w.heap.size (fun _ => True) (.slice A4 3 c4) [rd n.ints 0, rd n.ints 0, rd n.ints 0] from Kd.R_lower hR1 HB.out.size)
  have HB1 := Aside0.mk (below_step HB.out hB1)
  clear hR1 hB1 x0 k1
  go_wp2_with (at_builtin; refine Kd.R_append (Kd.int .i64) (w0 := w) w.heap.size rfl (.tmp 7) (.tmp 8) 22 2 (.int .i64 0) 8 rfl Tryd.underlying22 info_i64 rfl (by decide) (by omega) (.slice A4 3 c4) [rd n.ints 0, rd n.ints 0, rd n.ints 0] 1 [.int .i64 1] (fun _ => True) (fun _ => False) rfl (by go_simp) rfl (fun _ h => h.elim) (fun _ _ => trivial) HR1.out HB1.out HB1.out.size (by simp) ?_; intro v2 w2 hR2 hB2 hg2 hat2; obtain ⟨A5, c5, hv2⟩ := Kd.R_slice hR2; replace hv2 : v2 = .slice A5 4 c5 := hv2; subst hv2; have HR2 := Aside0.mk (show (Kd.int .i64).R 2 w2 w.heap.size (fun _ => True) (.slice A5 4 c5) [rd n.ints 0, rd n.ints 0, rd n.ints 0, 1] from hR2); have HB2 := Aside0.mk hB2; clear hR2 hB2 hg2 hat2)
  go_ret
  exact RowsPost.one (n := ⟨7, [rd n.ints 0, rd n.ints 0, rd n.ints 0, 1], [], []⟩) (kNode_mkM HR2.out (Kd.R_nil _ _ _ _ _) (Kd.R_nil _ _ _ _ _)) HB2.out rfl
end Go.Proofs.YtglfebpgdghlfaaDoor.L
end
section
namespace Go.Proofs.YtglfebpgdghlfaaDoor.L
open Go.RowKit Go.ChangeShapes Go.WideShapes Go.Proofs.YtglfebpgdghlfaaDoorW.PrintWords Go.Proofs.YtglfebpgdghlfaaDoorW.PrintLast Go.Proofs.YtglfebpgdghlfaaDoorW.PrintMore
attribute [local go_sem] max2_int min2_int max_two min_two max_three min_three max_four min_four
set_option maxRecDepth 100000 in
set_option maxHeartbeats 1000000 in
theorem up4_any (n : Node) (A1 : Option Addr) (c1 : Nat) (A2 : Option Addr) (c2 : Nat) (A3 : Option Addr) (c3 : Nat) (w : World) (h : NodeC w n A1 c1 A2 c2 A3 c3) (hs : Small n) :
    Calls Tryd.prog 78 #[.agg #[.int .i64 n.kind, .slice A1 n.ints.length c1, .slice A2 n.texts.length c2, .slice A3 n.kids.length c3]] w (RowsPost [⟨4, n.ints, n.texts, []⟩] w) := by
  have HN := Aside0.mk h
  have HS := Aside0.mk hs
  have hu := Tryd.underlying26
  have HB := Aside0.mk (below_alloc (Below.refl w.heap.size w) (.cells #[.int .i64 n.kind, .slice A1 n.ints.length c1, .slice A2 n.texts.length c2, .slice A3 n.kids.length c3] 26))
  have k1 := box_cell w _ rfl #[.int .i64 n.kind, .slice A1 n.ints.length c1, .slice A2 n.texts.length c2, .slice A3 n.kids.length c3] 26 1 _ rfl
  have k2 := box_cell w _ rfl #[.int .i64 n.kind, .slice A1 n.ints.length c1, .slice A2 n.texts.length c2, .slice A3 n.kids.length c3] 26 2 _ rfl
  clear h hs
  go_enter Tryd.func78, Tryd.ntmps78
  go_wp2
  go_region_held3 (fun W => W.cell? ⟨w.heap.size, 1, none⟩ = some (.slice A1 n.ints.length c1) ∧ W.cell? ⟨w.heap.size, 2, none⟩ = some (.slice A2 n.texts.length c2))
    (first
      | (go_split_ands
         refine ⟨?_, ?_⟩
         all_goals first
           | with_reducible assumption
           | with_reducible exact pw_cell_below hB (by assumption)
           | with_reducible exact pw_cell_below (below_alloc (Below.refl _ _) _) (by assumption)
           | (simp [*]; done)))
    (first
      | (go_at_call 74; refine (clone_i64 A1 c1 n.ints _ (Kd.C_below HN.out.i (below_drew HB.out)) (Nat.le_trans HS.out.1 (by omega))).mono ?_; rintro e w1 ⟨B1, d1, rfl, hR1, hB1⟩; have HB1 := Aside0.mk (below_step (below_drew HB.out) hB1); have hB := hB1)
      | (go_at_call 77; refine (clone_str A2 c2 n.texts _ (Kd.C_below HN.out.t HB1.out) (Nat.le_trans HS.out.2.1 (by omega))).mono ?_; rintro e w2 ⟨B2, d2, rfl, hR2, hB2⟩; have HB2 := Aside0.mk (below_step HB1.out hB2); have hB := hB2))
  go_wp2
  go_ret
  exact RowsPost.one (n := ⟨4, n.ints, n.texts, []⟩) (kNode_mkM (Kd.R_lower (Kd.R_below hR1 hB2) (below_drew HB.out).size) (Kd.R_lower hR2 HB1.out.size) (Kd.R_nil _ _ _ _ _)) HB2.out rfl
set_option maxRecDepth 100000 in
set_option maxHeartbeats 1000000 in
theorem up3_any (n : Node) (A1 : Option Addr) (c1 : Nat) (A2 : Option Addr) (c2 : Nat) (A3 : Option Addr) (c3 : Nat) (w : World) (h : NodeC w n A1 c1 A2 c2 A3 c3) (hs : Small n) (hl : 0 < n.ints.length) :
    Calls Tryd.prog 76 #[.agg #[.int .i64 n.kind, .slice A1 n.ints.length c1, .slice A2 n.texts.length c2, .slice A3 n.kids.length c3]] w (RowsPost [⟨3, [rd n.ints 0, rd n.ints 0, rd n.ints 0], n.texts, []⟩] w) := by
  have HN := Aside0.mk h
  have HS := Aside0.mk hs
  have hu := Tryd.underlying26
  have HB := Aside0.mk (below_alloc (Below.refl w.heap.size w) (.cells #[.int .i64 n.kind, .slice A1 n.ints.length c1, .slice A2 n.texts.length c2, .slice A3 n.kids.length c3] 26))
  obtain ⟨ad, rfl, x0⟩ := at_nat (Kd.C_below h.i HB.out) 0 hl
  rw [show ad.add 0 = ad from rfl] at x0
  have hr : rd n.ints ((0 : Nat) : Int) = rd n.ints 0 := rfl
  rw [hr] at x0
  have k1 := box_cell w _ rfl #[.int .i64 n.kind, .slice (some ad) n.ints.length c1, .slice A2 n.texts.length c2, .slice A3 n.kids.length c3] 26 1 _ rfl
  have k2 := box_cell w _ rfl #[.int .i64 n.kind, .slice (some ad) n.ints.length c1, .slice A2 n.texts.length c2, .slice A3 n.kids.length c3] 26 2 _ rfl
  clear h hs hr
  go_enter Tryd.func76, Tryd.ntmps76
  go_wp2
  go_region_held3 (fun W => W.cell? ⟨w.heap.size, 1, none⟩ = some (.slice (some ad) n.ints.length c1) ∧ W.cell? ⟨w.heap.size, 2, none⟩ = some (.slice A2 n.texts.length c2) ∧ W.cell? ad = some (.int .i64 (rd n.ints 0)))
    (first
      | (go_split_ands
         refine ⟨?_, ?_, ?_⟩
         all_goals first
           | with_reducible assumption
           | with_reducible exact pw_cell_below hB (by assumption)
           | with_reducible exact pw_cell_below (below_alloc (Below.refl _ _) _) (by assumption)
           | (simp [*]; done)))
    (first
      | (go_at_call 75; refine (like_any (rd n.ints 0) 3 _ (by omega) (by omega)).mono ?_; rintro e w1 ⟨B1, d1, rfl, hR1, hB1⟩; have HB1 := Aside0.mk (below_step (below_drew HB.out) hB1); have hB := hB1)
      | (go_at_call 77; refine (clone_str A2 c2 n.texts _ (Kd.C_below HN.out.t HB1.out) (Nat.le_trans HS.out.2.1 (by omega))).mono ?_; rintro e w2 ⟨B2, d2, rfl, hR2, hB2⟩; have HB2 := Aside0.mk (below_step HB1.out hB2); have hB := hB2))
  go_wp2
  go_ret
  exact RowsPost.one (n := ⟨3, [rd n.ints 0, rd n.ints 0, rd n.ints 0], n.texts, []⟩) (kNode_mkM (Kd.R_lower (Kd.R_below hR1 hB2) (below_drew HB.out).size) (Kd.R_lower hR2 HB1.out.size) (Kd.R_nil _ _ _ _ _)) HB2.out rfl
set_option maxRecDepth 100000 in
set_option maxHeartbeats 1000000 in
theorem up5_any (n : Node) (A1 : Option Addr) (c1 : Nat) (A2 : Option Addr) (c2 : Nat) (A3 : Option Addr) (c3 : Nat) (w : World) (h : NodeC w n A1 c1 A2 c2 A3 c3) (hl : 0 < n.texts.length) :
    Calls Tryd.prog 79 #[.agg #[.int .i64 n.kind, .slice A1 n.ints.length c1, .slice A2 n.texts.length c2, .slice A3 n.kids.length c3]] w (RowsPost [⟨5, [65536], [str n.texts 0, ⟨#[115, 97, 110, 115]⟩], []⟩] w) := by
  have HN := Aside0.mk h
  have hu := Tryd.underlying26
  have HB := Aside0.mk (below_alloc (Below.refl w.heap.size w) (.cells #[.int .i64 n.kind, .slice A1 n.ints.length c1, .slice A2 n.texts.length c2, .slice A3 n.kids.length c3] 26))
  obtain ⟨ad, rfl, x0⟩ := at_str (Kd.C_below h.t HB.out) 0 hl
  rw [show ad.add 0 = ad from rfl] at x0
  have k2 := box_cell w _ rfl #[.int .i64 n.kind, .slice A1 n.ints.length c1, .slice (some ad) n.texts.length c2, .slice A3 n.kids.length c3] 26 2 _ rfl
  clear h
  go_enter Tryd.func79, Tryd.ntmps79
  go_wp2
  go_region_held3 (fun W => W.cell? ⟨w.heap.size, 2, none⟩ = some (.slice (some ad) n.texts.length c2) ∧ W.cell? ad = some (.string (str n.texts 0)))
    (first
      | (go_split_ands
         refine ⟨?_, ?_⟩
         all_goals first
           | with_reducible assumption
           | with_reducible exact pw_cell_below hB (by assumption)
           | with_reducible exact pw_cell_below (below_alloc (Below.refl _ _) _) (by assumption)
           | with_reducible exact pw_cell_below (below_drew (below_alloc (Below.refl _ _) _)) (by assumption)
           | (simp [*]; done)))
    (first
      | (go_at_call 75; refine (like_any 65536 1 _ (by omega) (by omega)).mono ?_; rintro e w1 ⟨B1, d1, rfl, hR1, hB1⟩; have hB := hB1))
  · have hBw := below_step (below_drew HB.out) hB1
    go_wp2
    go_ret
    exact RowsPost.one (n := ⟨5, [65536], [str n.texts 0, ⟨#[115, 97, 110, 115]⟩], []⟩) (kNode_mkM (Kd.R_below (Kd.R_lower hR1 (below_drew HB.out).size) (below_alloc (Below.refl _ _) _)) (R_strs w1 w.heap.size _ rfl [str n.texts 0, ⟨#[115, 97, 110, 115]⟩] hBw.size (by simp) rfl) (Kd.R_nil _ _ _ _ _)) (below_step hBw (below_alloc (Below.refl _ _) _)) (by simp)
  · have hB0 := below_step HB.out (below_alloc (Below.refl _ _) (.cells #[.string (str n.texts 0), .string ⟨#[115, 97, 110, 115]⟩] 9))
    have hBw := below_step (below_drew hB0) hB1
    have hR2 := Kd.R_below (Kd.R_drew (R_strs (w.alloc (.cells #[.int .i64 n.kind, .slice A1 n.ints.length c1, .slice (some ad) n.texts.length c2, .slice A3 n.kids.length c3] 26)) w.heap.size (w.heap.size + 1) (by simp) [str n.texts 0, ⟨#[115, 97, 110, 115]⟩] HB.out.size (by simp) rfl)) hB1
    go_wp2
    go_ret
    exact RowsPost.one (n := ⟨5, [65536], [str n.texts 0, ⟨#[115, 97, 110, 115]⟩], []⟩) (kNode_mkM (Kd.R_lower hR1 (below_drew hB0).size) hR2 (Kd.R_nil _ _ _ _ _)) hBw rfl
end Go.Proofs.YtglfebpgdghlfaaDoor.L
end
section
namespace Go.Proofs.YtglfebpgdghlfaaDoor.L
open Go.RowKit Go.ChangeShapes Go.WideShapes Go.Proofs.YtglfebpgdghlfaaDoorW.PrintWords Go.Proofs.YtglfebpgdghlfaaDoorW.PrintLast Go.Proofs.YtglfebpgdghlfaaDoorW.PrintMore
attribute [local go_sem] max2_int min2_int max_two min_two max_three min_three max_four min_four
theorem RowsPost.two {w W : World} {k0 k1 : Int} {l0 q0 l1 : List Int} {v6 v7 v13 : Value} {g : Nat} (h6 : (Kd.int .i64).R 2 W w.heap.size (fun _ => True) v6 l0) (h7 : (Kd.int .i64).R 3 W w.heap.size (fun _ => True) v7 q0) (h13 : (Kd.int .i64).R 2 W w.heap.size (fun _ => True) v13 l1)
    (hne : ∀ k, v6.ownBlock = some k → v13.ownBlock = some k → False) (hB : Below w.heap.size w W) (hg : W.heap.size = g) :
    RowsPost [⟨k0, l0, [], q0⟩, ⟨k1, l1, [], []⟩] w (.returned (.slice (some ⟨g, 0, none⟩) 2 2)) (W.alloc (.cells #[.int .i64 k0, v6, .slice none 0 0, v7, .int .i64 k1, v13, .slice none 0 0, .slice none 0 0] 26)) := by
  subst hg
  refine ⟨_, _, rfl, S_of_lits kNode W w.heap.size 26 [⟨k0, l0, [], q0⟩, ⟨k1, l1, [], []⟩] [.int .i64 k0, v6, .slice none 0 0, v7, .int .i64 k1, v13, .slice none 0 0, .slice none 0 0]
    (fun j k => (j = 0 ∧ (some k = v6.ownBlock ∨ some k = v7.ownBlock)) ∨ (j = 1 ∧ some k = v13.ownBlock)) (fun i j k h1 h2 => ?_) rfl (fun j x hj => ?_) hB.size (by simp), below_step hB (below_alloc (Below.refl _ _) _)⟩
  · have key : ∀ k, (some k = v6.ownBlock ∨ some k = v7.ownBlock) → some k = v13.ownBlock → False := fun k h1 h2 => by
      rcases h1 with h1 | h1
      · exact hne k h1.symm h2.symm
      · obtain ⟨c1, e1⟩ := Kd.R_typed h7 k h1.symm
        obtain ⟨c2, e2⟩ := Kd.R_typed h13 k h2.symm
        rw [e1] at e2
        injection e2 with e2
        injection e2 with _ e2
        exact absurd e2 (by decide)
    rcases h1 with ⟨rfl, h1⟩ | ⟨rfl, h1⟩
    · rcases h2 with ⟨rfl, h2⟩ | ⟨rfl, h2⟩
      · rfl
      · exact (key k h1 h2).elim
    · rcases h2 with ⟨rfl, h2⟩ | ⟨rfl, h2⟩
      · exact (key k h2 h1).elim
      · rfl
  · match j, hj with
    | 0, hj =>
      injection hj with hj
      subst hj
      exact kNode_mkM (Kd.R_mono (Kd.R_tight rfl h6) (fun k hk => .inl ⟨rfl, .inl hk⟩)) (Kd.R_nil _ _ _ _ _) (Kd.R_mono (Kd.R_tight rfl h7) (fun k hk => .inl ⟨rfl, .inr hk⟩))
    | 1, hj =>
      injection hj with hj
      subst hj
      exact kNode_mkM (Kd.R_mono (Kd.R_tight rfl h13) (fun k hk => .inr ⟨rfl, hk⟩)) (Kd.R_nil _ _ _ _ _) (Kd.R_nil _ _ _ _ _)
    | j + 2, hj => simp at hj
theorem clone_i64' (A : Option Addr) (c n : Nat) (l : List Int) (w : World) (h : (Kd.int .i64).C w A n l) (hl : n ≤ 8000000000000) : Calls Tryd.prog 74 #[.slice A n c] w (RowPost (Kd.int .i64) 2 l w) := by
  obtain rfl : l.length = n := h.1
  exact clone_i64 A c l w h hl
set_option maxRecDepth 100000 in
set_option maxHeartbeats 2000000 in
theorem up2_any (n : Node) (A1 : Option Addr) (c1 : Nat) (A2 : Option Addr) (c2 : Nat) (A3 : Option Addr) (c3 : Nat) (w : World) (h : NodeC w n A1 c1 A2 c2 A3 c3) (hl : n.ints.length = 4) :
    Calls Tryd.prog 73 #[.agg #[.int .i64 n.kind, .slice A1 n.ints.length c1, .slice A2 n.texts.length c2, .slice A3 n.kids.length c3]] w (RowsPost [⟨2, n.ints.take 3, [], [0]⟩, ⟨8, [rd n.ints 3, rd n.ints 3, rd n.ints 3], [], []⟩] w) := by
  have HN := Aside0.mk h
  have hu := Tryd.underlying26
  have HB := Aside0.mk (below_alloc (Below.refl w.heap.size w) (.cells #[.int .i64 n.kind, .slice A1 n.ints.length c1, .slice A2 n.texts.length c2, .slice A3 n.kids.length c3] 26))
  obtain ⟨ad, rfl, x3⟩ := at_nat (Kd.C_below h.i HB.out) 3 (by omega)
  have hr : rd n.ints ((3 : Nat) : Int) = rd n.ints 3 := rfl
  rw [hr] at x3
  have k1 := box_cell w _ rfl #[.int .i64 n.kind, .slice (some ad) n.ints.length c1, .slice A2 n.texts.length c2, .slice A3 n.kids.length c3] 26 1 _ rfl
  have HT := Aside0.mk (show (Kd.int .i64).C w (some ad) 3 (n.ints.take 3) from by have h0 := C_sub rfl h.i 0 3 (by omega); rw [List.drop_zero] at h0; exact h0)
  have E3 := Aside0.mk (show (n.ints.take 3).length = 3 from by simp [hl])
  have hcap : 4 ≤ c1 := by have := h.l1; omega
  have hcapI : (3 : Int) ≤ (c1 : Int) := by omega
  rw [hl] at k1 x3 HB ⊢
  replace x3 : (w.alloc (.cells #[.int .i64 n.kind, .slice (some ad) 4 c1, .slice A2 n.texts.length c2, .slice A3 n.kids.length c3] 26)).cell? ⟨ad.block, ad.off + 3, none⟩ = some (.int .i64 (rd n.ints 3)) := x3
  clear h hr
  go_enter Tryd.func73, Tryd.ntmps73
  go_wp2
  go_region_held3 (fun W => W.cell? ⟨w.heap.size, 1, none⟩ = some (.slice (some ad) 4 c1) ∧ W.cell? ⟨ad.block, ad.off + 3, none⟩ = some (.int .i64 (rd n.ints 3)))
    (first
      | (go_split_ands
         refine ⟨?_, ?_⟩
         all_goals first
           | with_reducible assumption
           | with_reducible exact pw_cell_below hB (by assumption)
           | with_reducible exact pw_cell_below (below_alloc (Below.refl _ _) _) (by assumption)
           | with_reducible exact pw_cell_below (below_drew (below_alloc (Below.refl _ _) _)) (by assumption)
           | (simp [*]; done)))
    (first
      | (go_at_call 74; first
          | (refine (clone_i64' (some ad) c1 3 (n.ints.take 3) _ (Kd.C_below HT.out (below_drew HB.out)) (by omega)).mono ?_; rintro e w1 ⟨B1, d1, rfl, hR1, hB1⟩; have hB := hB1)
          | (refine (clone_i64' (some ad) c1 3 (n.ints.take 3) _ (Kd.C_below HT.out (below_drew (below_step HB.out (below_alloc (Below.refl _ _) _)))) (by omega)).mono ?_; rintro e w1 ⟨B1, d1, rfl, hR1, hB1⟩; have hB := hB1))
      | (go_at_call 75; refine (like_any (rd n.ints 3) 3 _ (by omega) (by omega)).mono ?_; rintro e w2 ⟨B2, d2, rfl, hR2, hB2⟩; have hB := hB2))
  · rw [E3.out] at hR1
    have hBw1 := below_step (below_drew HB.out) hB1
    have hBY := below_step hBw1 (below_alloc (Below.refl _ _) (.cells #[.int .i64 0] 3))
    have hlt := fun k (h1 : (Value.slice B1 3 d1).ownBlock = some k) => Kd.R_lt hR1 k h1
    have hge := fun k (h1 : (Value.slice B2 3 d2).ownBlock = some k) => Kd.R_base hR2 k h1
    have hsz : (w1.alloc (.cells #[.int .i64 0] 3)).heap.size = w1.heap.size + 1 := by simp
    go_wp2
    go_ret
    exact RowsPost.two (Kd.R_below (Kd.R_alloc (Kd.R_lower hR1 (below_drew HB.out).size) _) hB2) (Kd.R_below (R_nums 3 w1 w.heap.size _ rfl [0] hBw1.size (by simp) rfl) hB2) (Kd.R_lower hR2 hBY.size) (fun k h1 h2 => by have := hlt k h1; have := hge k h2; omega) (below_step hBY hB2) rfl
  · rw [E3.out] at hR1
    have hBw1 := below_step (below_drew HB.out) hB1
    have hBw2 := below_step hBw1 hB2
    have hlt := fun k (h1 : (Value.slice B1 3 d1).ownBlock = some k) => Kd.R_lt hR1 k h1
    have hge := fun k (h1 : (Value.slice B2 3 d2).ownBlock = some k) => Kd.R_base hR2 k h1
    go_wp2
    go_ret
    exact RowsPost.two (Kd.R_alloc (Kd.R_below (Kd.R_lower hR1 (below_drew HB.out).size) hB2) _) (R_nums 3 w2 w.heap.size _ rfl [0] hBw2.size (by simp) rfl) (Kd.R_alloc (Kd.R_lower hR2 hBw1.size) _) (fun k h1 h2 => by have := hlt k h1; have := hge k h2; omega) (below_step hBw2 (below_alloc (Below.refl _ _) _)) (by simp)
  all_goals
    rw [E3.out] at hR1
    have hB0 := below_drew (below_step HB.out (below_alloc (Below.refl _ _) (.cells #[.int .i64 0] 3)))
    have hBw1 := below_step hB0 hB1
    have hBw2 := below_step hBw1 hB2
    have hlt := fun k (h1 : (Value.slice B1 3 d1).ownBlock = some k) => Kd.R_lt hR1 k h1
    have hge := fun k (h1 : (Value.slice B2 3 d2).ownBlock = some k) => Kd.R_base hR2 k h1
    have h7 := Kd.R_below (Kd.R_below (Kd.R_drew (R_nums 3 (w.alloc (.cells #[.int .i64 n.kind, .slice (some ad) 4 c1, .slice A2 n.texts.length c2, .slice A3 n.kids.length c3] 26)) w.heap.size (w.heap.size + 1) (by simp) [0] HB.out.size (by simp) rfl)) hB1) hB2
    go_wp2
    go_ret
    exact RowsPost.two (Kd.R_below (Kd.R_lower hR1 hB0.size) hB2) h7 (Kd.R_lower hR2 hBw1.size) (fun k h1 h2 => by have := hlt k h1; have := hge k h2; omega) hBw2 rfl
end Go.Proofs.YtglfebpgdghlfaaDoor.L
end
section
namespace Go.Proofs.YtglfebpgdghlfaaDoor.L
open Go.RowKit Go.ChangeShapes Go.WideShapes Go.Proofs.YtglfebpgdghlfaaDoorW.PrintWords Go.Proofs.YtglfebpgdghlfaaDoorW.PrintLast Go.Proofs.YtglfebpgdghlfaaDoorW.PrintMore
attribute [local go_sem] max2_int min2_int max_two min_two max_three min_three max_four min_four
def inC (c n : Int) : Bool :=
  if c = 1 then true else if c = 2 then decide (-140737488355328 ≤ n) && decide (n ≤ 140737488355328) else if c = 3 then decide (0 ≤ n) && decide (n ≤ 140737488355328)
  else if c = 4 then decide (0 ≤ n) && decide (n ≤ 255) else if c = 5 then (n == 0) || (n == 1) else false
theorem inC_2 (n : Int) : inC 2 n = (decide (-140737488355328 ≤ n) && decide (n ≤ 140737488355328)) := rfl
theorem inC_3 (n : Int) : inC 3 n = (decide (0 ≤ n) && decide (n ≤ 140737488355328)) := rfl
theorem inC_4 (n : Int) : inC 4 n = (decide (0 ≤ n) && decide (n ≤ 255)) := rfl
theorem inC_5 (n : Int) : inC 5 n = ((n == 0) || (n == 1)) := rfl
theorem inC_no {c n : Int} (c1 : ¬ c = 1) (c2 : ¬ c = 2) (c3 : ¬ c = 3) (c4 : ¬ c = 4) (c5 : ¬ c = 5) : inC c n = false := by unfold inC; rw [if_neg c1, if_neg c2, if_neg c3, if_neg c4, if_neg c5]
set_option maxHeartbeats 1000000 in
theorem in_any (c n : Int) (w : World) : Calls Tryd.prog 103 #[.int .i64 c, .int .i64 n] w fun e w' => e = .returned (.bool (inC c n)) ∧ Drawn0 w w' := by
  by_cases c1 : c = 1
  · subst c1
    go_enter Tryd.func103, Tryd.ntmps103
    go_wp2
    go_ret
    exact ⟨rfl, Drawn0.refl _⟩
  by_cases c2 : c = 2
  · subst c2
    by_cases h1 : -140737488355328 ≤ n <;> by_cases h2 : n ≤ 140737488355328
    all_goals
      have E := Aside0.mk (inC_2 n)
      go_enter Tryd.func103, Tryd.ntmps103
      go_wp2
      go_ret
      exact ⟨ret_bool (by rw [E.out]; simp [h1, h2]), by repeat (first | exact Drawn0.refl _ | apply Drawn0.step)⟩
  by_cases c3 : c = 3
  · subst c3
    by_cases h1 : 0 ≤ n <;> by_cases h2 : n ≤ 140737488355328
    all_goals
      have E := Aside0.mk (inC_3 n)
      go_enter Tryd.func103, Tryd.ntmps103
      go_wp2
      go_ret
      exact ⟨ret_bool (by rw [E.out]; simp [h1, h2]), by repeat (first | exact Drawn0.refl _ | apply Drawn0.step)⟩
  by_cases c4 : c = 4
  · subst c4
    by_cases h1 : 0 ≤ n <;> by_cases h2 : n ≤ 255
    all_goals
      have E := Aside0.mk (inC_4 n)
      go_enter Tryd.func103, Tryd.ntmps103
      go_wp2
      go_ret
      exact ⟨ret_bool (by rw [E.out]; simp [h1, h2]), by repeat (first | exact Drawn0.refl _ | apply Drawn0.step)⟩
  by_cases c5 : c = 5
  · subst c5
    have E := Aside0.mk (inC_5 n)
    by_cases h1 : n = 0
    · subst h1
      go_enter Tryd.func103, Tryd.ntmps103
      go_wp2
      go_ret
      exact ⟨rfl, by repeat (first | exact Drawn0.refl _ | apply Drawn0.step)⟩
    · have h0 : (n == 0) = false := by simpa using h1
      by_cases h2 : n = 1
      · subst h2
        go_enter Tryd.func103, Tryd.ntmps103
        go_wp2
        go_ret
        exact ⟨rfl, by repeat (first | exact Drawn0.refl _ | apply Drawn0.step)⟩
      · have h3 : (n == 1) = false := by simpa using h2
        go_enter Tryd.func103, Tryd.ntmps103
        go_wp2
        go_ret
        exact ⟨ret_bool (by rw [E.out]; simp [h1, h2]), by repeat (first | exact Drawn0.refl _ | apply Drawn0.step)⟩
  · have E := Aside0.mk (inC_no (n := n) c1 c2 c3 c4 c5)
    go_enter Tryd.func103, Tryd.ntmps103
    go_wp2
    go_ret
    exact ⟨ret_bool E.out.symm, by repeat (first | exact Drawn0.refl _ | apply Drawn0.step)⟩
end Go.Proofs.YtglfebpgdghlfaaDoor.L
end
section
namespace Go.Proofs.YtglfebpgdghlfaaDoor.L
open Go.RowKit Go.ChangeShapes Go.WideShapes Go.Proofs.YtglfebpgdghlfaaDoorW.PrintWords Go.Proofs.YtglfebpgdghlfaaDoorW.PrintLast Go.Proofs.YtglfebpgdghlfaaDoorW.PrintMore
attribute [local go_sem] max2_int min2_int max_two min_two max_three min_three max_four min_four
def numsOk (l cl : List Int) : Bool := decide (l.length = cl.length ∧ ∀ j, j < l.length → inC (rd cl j) (rd l j) = true)
theorem numsOk_len {l cl : List Int} (h : ¬ l.length = cl.length) : numsOk l cl = false := decide_eq_false (fun h' => h h'.1)
theorem numsOk_bad {l cl : List Int} {j : Nat} (hj : j < l.length) (h : inC (rd cl j) (rd l j) = false) : numsOk l cl = false := decide_eq_false (fun h' => by have := h'.2 j hj; rw [h] at this; cases this)
set_option maxHeartbeats 1000000 in
theorem numbers_any (A0 : Option Addr) (c0 : Nat) (l : List Int) (A1 : Option Addr) (c1 : Nat) (cl : List Int) (w : World) (h0 : (Kd.int .i64).C w A0 l.length l) (h1 : (Kd.int .i64).C w A1 cl.length cl) :
    Calls Tryd.prog 68 #[.slice A0 l.length c0, .slice A1 cl.length c1] w fun e w' => e = .returned (.bool (numsOk l cl)) ∧ Drawn0 w w' := by
  have HR0 := Aside0.mk h0
  have HR1 := Aside0.mk h1
  have b0 := h0.2.1
  have b1 := h1.2.1
  clear h0 h1
  by_cases he : l.length = cl.length
  · have hb : ((l.length : Int) != (cl.length : Int)) = false := by simp [he]
    have HE0 := Aside0.mk he
    have hle : l.length ≤ cl.length := by omega
    clear he
    go_enter Tryd.func68, Tryd.ntmps68
    go_wp2
    go_loopw [5, 6, 14] (fun _ _ v14 W => ∃ k : Nat, k ≤ l.length ∧ v14 = .int .i64 k ∧ Aside0 (∀ j, j < k → inC (rd cl j) (rd l j) = true) ∧ Drawn0 w W) (fun _ _ v14 _ => l.length - (intOf v14).toNat)
    case atStart => exact ⟨0, by omega, rfl, ⟨fun j hj => by omega⟩, Drawn0.refl _⟩
    case round =>
      obtain ⟨k, hk, rfl, HP, ⟨m, rfl⟩⟩ := hrel
      by_cases hlt : k < l.length
      · obtain ⟨ad0, rfl, hx0⟩ := at_nat HR0.out k (by omega)
        obtain ⟨ad1, rfl, hx1⟩ := at_nat HR1.out k (by omega)
        have hlt1 : k < cl.length := by omega
        by_cases hi : inC (rd cl k) (rd l k) = true
        · have HI := Aside0.mk hi
          clear hi
          go_wp2_with fail
          refine (in_any (rd cl k) (rd l k) _).mono ?_
          rintro e w' ⟨rfl, ⟨m', rfl⟩⟩
          rw [HI.out]
          go_wp2
          go_roundw
          case rel => exact ⟨k + 1, by omega, by go_num, ⟨ext_lt HP.out HI.out⟩, by repeat (first | exact Drawn0.refl _ | apply Drawn0.step)⟩
          case measure => simp [intOf]; omega
        · have HI := Aside0.mk (Bool.eq_false_iff.2 hi)
          have HE := Aside0.mk (numsOk_bad hlt HI.out)
          clear hi
          go_wp2_with fail
          refine (in_any (rd cl k) (rd l k) _).mono ?_
          rintro e w' ⟨rfl, ⟨m', rfl⟩⟩
          rw [HI.out]
          go_wp2
          go_ret
          exact ⟨ret_bool HE.out.symm, by repeat (first | exact Drawn0.refl _ | apply Drawn0.step)⟩
      · have HE : Aside0 (numsOk l cl = true) := ⟨decide_eq_true ⟨HE0.out, fun j hj => HP.out j (by omega)⟩⟩
        go_wp2
        go_ret
        exact ⟨ret_bool HE.out.symm, by repeat (first | exact Drawn0.refl _ | apply Drawn0.step)⟩
  · have HE := Aside0.mk (numsOk_len he)
    go_enter Tryd.func68, Tryd.ntmps68
    go_wp2
    go_ret
    exact ⟨ret_bool HE.out.symm, by repeat (first | exact Drawn0.refl _ | apply Drawn0.step)⟩
end Go.Proofs.YtglfebpgdghlfaaDoor.L
end
section
namespace Go.Proofs.YtglfebpgdghlfaaDoor.L
open Go.RowKit Go.ChangeShapes Go.WideShapes Go.Proofs.YtglfebpgdghlfaaDoorW.PrintWords Go.Proofs.YtglfebpgdghlfaaDoorW.PrintLast Go.Proofs.YtglfebpgdghlfaaDoorW.PrintMore
attribute [local go_sem] max2_int min2_int max_two min_two max_three min_three max_four min_four
def Tabs (w : World) : Prop := Lib.Utf8Tabs 0 1 w
theorem Tabs.below {w w' : World} (h : Tabs w) (hb : Below w.heap.size w w') : Tabs w' := Utf8Tabs_below h hb
def utfFrom (s : ByteArray) : Nat → Nat → Int
  | 0, _ => -1
  | f + 1, pos => if pos < s.size then (if Utf8.decode s pos = (65533, 1) then (pos : Int) else utfFrom s f (pos + (Utf8.decode s pos).2)) else -1
def utfFirst (s : ByteArray) : Int := utfFrom s s.size 0
def utfOk (s : ByteArray) : Bool := decide (utfFirst s < 0)
theorem decode_bound (s : ByteArray) (pos : Nat) : 1 ≤ (Utf8.decode s pos).2 ∧ (Utf8.decode s pos).2 ≤ 4 ∧ (pos < s.size → pos + (Utf8.decode s pos).2 ≤ s.size) := by
  simp only [Utf8.decode]
  repeat' split
  all_goals simp_all
  all_goals omega
theorem decode_bad (s : ByteArray) (pos : Nat) : (Utf8.decode s pos).1 = 65533 → (Utf8.decode s pos).2 ≤ 1 → Utf8.decode s pos = (65533, 1) := by
  intro h1 h2
  have := (decode_bound s pos).1
  exact Prod.ext h1 (by show (Utf8.decode s pos).2 = 1; omega)
theorem utfFrom_end {s : ByteArray} {pos : Nat} (h : ¬ pos < s.size) : ∀ f, utfFrom s f pos = -1
  | 0 => rfl
  | f + 1 => by unfold utfFrom; rw [if_neg h]
def FirstRel (s : ByteArray) (w : World) (p f : Nat) (W : World) : Prop := W.heap[w.heap.size]? = some (.stringIter s p) ∧ s.size ≤ p + f ∧ utfFrom s f p = utfFirst s ∧ Below w.heap.size w W
theorem FirstRel.next {s : ByteArray} {w W : World} {p f : Nat} (h : FirstRel s w p f W) (hp : p < s.size) (hn : ¬ Utf8.decode s p = (65533, 1)) : FirstRel s w (p + (Utf8.decode s p).2) (f - 1) (W.iterAt w.heap.size s (p + (Utf8.decode s p).2)) := by
  obtain ⟨h1, h2, h3, h4⟩ := h
  obtain ⟨b1, b2, b3⟩ := decode_bound s p
  refine ⟨Lib.iterAt_heap _ _ _ _ _ h1, by omega, ?_, ?_⟩
  · obtain ⟨f, rfl⟩ : ∃ g, f = g + 1 := ⟨f - 1, by omega⟩
    rw [← h3]
    conv => rhs; unfold utfFrom
    rw [if_pos hp, if_neg hn]; rfl
  · exact h4.trans ⟨rfl, rfl, rfl, by simp [World.iterAt], fun k hk => by
      unfold World.iterAt
      simp only [Array.getElem?_setIfInBounds]
      rw [if_neg (by omega)]⟩
theorem FirstRel.iter {s : ByteArray} {w W : World} {p f : Nat} (h : FirstRel s w p f W) (q : Nat) : Below w.heap.size w (W.iterAt w.heap.size s q) :=
  h.2.2.2.trans ⟨rfl, rfl, rfl, by simp [World.iterAt], fun k hk => by
    unfold World.iterAt
    simp only [Array.getElem?_setIfInBounds]
    rw [if_neg (by omega)]⟩
theorem FirstRel.pos {s : ByteArray} {w W : World} {p f : Nat} (h : FirstRel s w p f W) : W.iterPos w.heap.size = p := by unfold World.iterPos; rw [h.1]
theorem FirstRel.bad {s : ByteArray} {w W : World} {p f : Nat} (h : FirstRel s w p f W) (hp : p < s.size) (hd : Utf8.decode s p = (65533, 1)) : utfFirst s = (p : Int) := by
  obtain ⟨f, rfl⟩ : ∃ g, f = g + 1 := ⟨f - 1, by have := h.2.1; omega⟩
  rw [← h.2.2.1]
  unfold utfFrom
  rw [if_pos hp, if_pos hd]
theorem FirstRel.end {s : ByteArray} {w W : World} {p f : Nat} (h : FirstRel s w p f W) (hp : ¬ p < s.size) : utfFirst s = -1 := by rw [← h.2.2.1, utfFrom_end hp]
theorem FirstRel.below {s : ByteArray} {w W W1 : World} {p f : Nat} (h : FirstRel s w p f W) (hb : Below W.heap.size W W1) : FirstRel s w p f W1 :=
  ⟨(hb.block _ (blk_lt h.1)).trans h.1, h.2.1, h.2.2.1, below_step h.2.2.2 hb⟩
set_option maxRecDepth 100000 in
set_option maxHeartbeats 1000000 in
theorem first_any (s : ByteArray) (w : World) (hs : s.size ≤ 1000000) (hT : Tabs w) : Calls Tryd.prog 71 #[.string s] w fun e w' => e = .returned (.int .i64 (utfFirst s)) ∧ Below w.heap.size w w' := by
  have HT := Aside0.mk hT
  have HB := Aside0.mk (Below.refl w.heap.size w)
  have HI := Aside0.mk (show FirstRel s w 0 s.size (w.iter s 0) from ⟨World.iter_heap .., by omega, rfl, below_alloc HB.out _⟩)
  clear hT
  go_enter Tryd.func71, Tryd.ntmps71
  go_wp2
  go_loopw [3] (fun _ W => ∃ p f, Aside0 (FirstRel s w p f W)) (fun _ W => s.size - W.iterPos w.heap.size)
  case atStart => exact ⟨0, _, HI⟩
  case round =>
    obtain ⟨p, f, HR⟩ := hrel
    have hpos : wr.iterPos w.heap.size = p := by unfold World.iterPos; rw [HR.out.1]
    by_cases hp : p < s.size
    · have hnx := Lib.run_next_any_at (P := Tryd.prog) wr w.heap.size s p 0 HR.out.1 hp
      have hb := decode_bound s p
      have HN := Aside0.mk (fun hn => FirstRel.next HR.out hp hn)
      by_cases hr : (Utf8.decode s p).1 = 65533
      · have hr1 : (((Utf8.decode s p).1 : Int) != 65533) = false := by simp [hr]
        have HD : Aside0 (Lib.decodeGo (s.extract p s.size) = Utf8.decode s p) := ⟨by
          unfold Lib.decodeGo
          rw [if_neg (by rw [ByteArray.size_extract]; omega), Extern.FmtText.decode_extract]⟩
        have HBd := Aside0.mk (decode_bad s p hr)
        clear hr
        go_wp2_with fail
        refine (Tryd.utf8_DecodeRuneInString _ _ ?_).mono ?_
        · exact HT.out.below (HR.out.iter _)
        rintro e W1 ⟨rfl, hB⟩
        have HB1 := Aside0.mk hB
        clear hB
        rw [HD.out]
        by_cases hz : (Utf8.decode s p).2 ≤ 1
        · have hz1 : decide (((Utf8.decode s p).2 : Int) ≤ 1) = true := decide_eq_true (by omega)
          go_wp2
          go_ret
          exact ⟨ret_int (HR.out.bad hp (HBd.out hz)).symm, below_then (HR.out.iter _) (HR.out.iter _).size HB1.out⟩
        · have hz1 : decide (((Utf8.decode s p).2 : Int) ≤ 1) = false := decide_eq_false (by omega)
          have HF := Aside0.mk ((HN.out (fun h => hz (by rw [h]; exact Nat.le_refl 1))).below HB1.out)
          go_wp2
          go_roundw
          case rel => exact ⟨_, _, HF⟩
          case measure => rw [HF.out.pos, hpos]; omega
      · have hr1 : (((Utf8.decode s p).1 : Int) != 65533) = true := by simp; omega
        have HF := Aside0.mk (HN.out (fun h => hr (by rw [h])))
        clear hr
        go_wp2
        go_roundw
        case rel => exact ⟨_, _, HF⟩
        case measure => rw [HF.out.pos, hpos]; omega
    · have hnx := Lib.run_next_end_at (P := Tryd.prog) wr w.heap.size s p 0 HR.out.1 hp
      go_wp2
      go_ret
      exact ⟨ret_int (HR.out.end hp).symm, HR.out.2.2.2⟩
end Go.Proofs.YtglfebpgdghlfaaDoor.L
end
section
namespace Go.Proofs.YtglfebpgdghlfaaDoor.L
open Go.RowKit Go.ChangeShapes Go.WideShapes Go.Proofs.YtglfebpgdghlfaaDoorW.PrintWords Go.Proofs.YtglfebpgdghlfaaDoorW.PrintLast Go.Proofs.YtglfebpgdghlfaaDoorW.PrintMore
attribute [local go_sem] max2_int min2_int max_two min_two max_three min_three max_four min_four
structure Spec where
  ints : List Int
  texts : Int
  least : Int
  most : Int
def specz : Spec := ⟨[], 0, 0, 0⟩
structure SpecC (w : World) (s : Spec) (A : Option Addr) (c : Nat) : Prop where
  l : s.ints.length ≤ c
  i : (Kd.int .i64).C w A s.ints.length s.ints
theorem SpecC.below {w w' : World} {s : Spec} {A : Option Addr} {c : Nat} (h : SpecC w s A c) (hb : Below w.heap.size w w') : SpecC w' s A c := ⟨h.l, Kd.C_below h.i hb⟩
def sp (xs : List Spec) (i : Nat) : Spec := xs.getD i specz
def kSpecG (G : Option Addr → Prop) : Kd Spec where
  sz := 4
  E := []
  K := fun w x cs => ∃ A c, cs = [.slice A x.ints.length c, .int .i64 x.texts, .int .i64 x.least, .int .i64 x.most] ∧ SpecC w x A c ∧ G A
  M := fun _ _ _ _ _ => False
  K_len := by
    rintro w x cs ⟨A, c, rfl, _⟩
    rfl
  K_one := by
    rintro w x cs ⟨A, c, rfl, _⟩ u hu
    simp only [List.mem_cons, List.mem_nil_iff, or_false] at hu
    rcases hu with rfl | rfl | rfl | rfl <;> rfl
  K_below := by
    rintro w w1 x cs hb ⟨A, c, rfl, h, hG⟩
    exact ⟨A, c, rfl, h.below hb, hG⟩
  K_of_M := fun h => h.elim
  M_mono := fun _ h => h
  M_bound := fun h => h.elim
  M_move := fun _ h => h
  M_lower := fun _ h => h
theorem kSpecG_mk {G : Option Addr → Prop} {w : World} {x : Spec} {A : Option Addr} {c n : Nat} (hn : n = x.ints.length) (hc : n ≤ c) (h : (Kd.int .i64).C w A n x.ints) (hG : G A) {t l m : Int} (ht : t = x.texts) (hl : l = x.least) (hm : m = x.most) : (kSpecG G).K w x [.slice A n c, .int .i64 t, .int .i64 l, .int .i64 m] := by
  subst hn ht hl hm
  exact ⟨A, c, rfl, ⟨hc, h⟩, hG⟩
theorem at_specG {G : Option Addr → Prop} {w : World} {A : Option Addr} {n : Nat} {xs : List Spec} (h : (kSpecG G).C w A n xs) (i : Nat) (h1 : i < n) :
    ∃ ad A1 c1, A = some ad ∧ w.cell? (ad.add (i * 4)) = some (.slice A1 (sp xs i).ints.length c1) ∧ w.cell? ⟨(ad.add (i * 4)).block, (ad.add (i * 4)).off + 1, none⟩ = some (.int .i64 (sp xs i).texts) ∧ w.cell? ⟨(ad.add (i * 4)).block, (ad.add (i * 4)).off + 2, none⟩ = some (.int .i64 (sp xs i).least) ∧ w.cell? ⟨(ad.add (i * 4)).block, (ad.add (i * 4)).off + 3, none⟩ = some (.int .i64 (sp xs i).most) ∧ SpecC w (sp xs i) A1 c1 ∧ G A1 := by
  obtain ⟨ad, c, e, _, hK, hc0⟩ := Kd.C_get h specz (i : Int) (by omega) (by omega)
  have hc : ∀ j u, c[j]? = some u → w.cell? (ad.add (i * 4 + j)) = some u := fun j u h => by simpa [show (kSpecG G).sz = 4 from rfl] using hc0 j u h
  have hK' : (kSpecG G).K w (sp xs i) c := by simpa [sp] using hK
  obtain ⟨A1, c1, rfl, hN⟩ := hK'
  refine ⟨ad, A1, c1, e, hc 0 _ rfl, ?_, ?_, ?_, hN⟩
  · rw [← add_field _ _ 1 (by omega)]; exact hc 1 _ rfl
  · rw [← add_field _ _ 2 (by omega)]; exact hc 2 _ rfl
  · rw [← add_field _ _ 3 (by omega)]; exact hc 3 _ rfl
def SpecPost (G : Option Addr → Prop) (r : Option Spec) (w : World) (e : Ending) (w' : World) : Prop :=
  ∃ A c, e = .returned (.tuple #[.agg #[.slice A (r.getD specz).ints.length c, .int .i64 (r.getD specz).texts, .int .i64 (r.getD specz).least, .int .i64 (r.getD specz).most], .bool r.isSome]) ∧ SpecC w' (r.getD specz) A c ∧ G A ∧ Below w.heap.size w w'
def findS (l : List Spec) (k : Int) : Option Spec := if k < 1 ∨ l.length ≤ k then none else some (sp l k.toNat)
set_option maxRecDepth 100000 in
set_option maxHeartbeats 1000000 in
theorem find_any (G : Option Addr → Prop) (hG : G none) (A : Option Addr) (c : Nat) (l : List Spec) (k : Int) (w : World) (h : (kSpecG G).C w A l.length l) (hl : l.length ≤ 100) :
    Calls Tryd.prog 66 #[.slice A l.length c, .int .i64 k] w (SpecPost G (findS l k) w) := by
  have HR := Aside0.mk h
  have HB := Aside0.mk (Below.refl w.heap.size w)
  clear h
  have hu := Tryd.underlying66
  by_cases h1 : k < 1
  · have HE : Aside0 (findS l k = none) := ⟨by unfold findS; rw [if_pos (.inl h1)]⟩
    go_enter Tryd.func66, Tryd.ntmps66
    go_wp2
    rw [HE.out]
    exact bodyPost_ret (v := .tuple #[.agg #[.slice none 0 0, .int .i64 0, .int .i64 0, .int .i64 0], .bool false]) (by simp [results, Tryd.results66, go_sem]) rfl ⟨none, 0, rfl, ⟨Nat.le_refl 0, C_nil _ _⟩, hG, by repeat (first | with_reducible exact HB.out | with_reducible apply below_alloc | with_reducible apply pw_below_drewN | with_reducible apply below_drew1 | (with_reducible refine below_set ?_ (by first | omega | (simp; omega))))⟩
  by_cases h2 : l.length ≤ k
  · have HE : Aside0 (findS l k = none) := ⟨by unfold findS; rw [if_pos (.inr h2)]⟩
    go_enter Tryd.func66, Tryd.ntmps66
    go_wp2
    rw [HE.out]
    exact bodyPost_ret (v := .tuple #[.agg #[.slice none 0 0, .int .i64 0, .int .i64 0, .int .i64 0], .bool false]) (by simp [results, Tryd.results66, go_sem]) rfl ⟨none, 0, rfl, ⟨Nat.le_refl 0, C_nil _ _⟩, hG, by repeat (first | with_reducible exact HB.out | with_reducible apply below_alloc | with_reducible apply pw_below_drewN | with_reducible apply below_drew1 | (with_reducible refine below_set ?_ (by first | omega | (simp; omega))))⟩
  · obtain ⟨j, rfl⟩ : ∃ j : Nat, k = (j : Int) := ⟨k.toNat, by omega⟩
    have HE : Aside0 (findS l (j : Int) = some (sp l j)) := ⟨by unfold findS; rw [if_neg (by omega), Int.toNat_natCast]⟩
    have b1 : j < l.length := by omega
    obtain ⟨ad, A1, c1, rfl, x0, x1, x2, x3, hS, hGA⟩ := at_specG HR.out j (by omega)
    have hb0 := below_alloc (Below.refl w.heap.size w) (.cells #[.slice none 0 0, .int .i64 0, .int .i64 0, .int .i64 0] 66)
    replace x0 := pw_cell_below hb0 x0
    replace x1 := pw_cell_below hb0 x1
    replace x2 := pw_cell_below hb0 x2
    replace x3 := pw_cell_below hb0 x3
    clear hb0
    have HS := Aside0.mk hS
    clear hS
    go_enter Tryd.func66, Tryd.ntmps66
    go_wp2
    rw [HE.out]
    exact bodyPost_ret (v := .tuple #[.agg #[.slice A1 (sp l j).ints.length c1, .int .i64 (sp l j).texts, .int .i64 (sp l j).least, .int .i64 (sp l j).most], .bool true]) (by simp [results, Tryd.results66, go_sem]) rfl ⟨_, _, rfl, HS.out.below (by repeat (first | with_reducible exact HB.out | with_reducible apply below_alloc | with_reducible apply pw_below_drewN | with_reducible apply below_drew1 | (with_reducible refine below_set ?_ (by first | omega | (simp; omega))))), hGA, by repeat (first | with_reducible exact HB.out | with_reducible apply below_alloc | with_reducible apply pw_below_drewN | with_reducible apply below_drew1 | (with_reducible refine below_set ?_ (by first | omega | (simp; omega))))⟩
end Go.Proofs.YtglfebpgdghlfaaDoor.L
end
section
namespace Go.Proofs.YtglfebpgdghlfaaDoor.L
open Go.RowKit Go.ChangeShapes Go.WideShapes Go.Proofs.YtglfebpgdghlfaaDoorW.PrintWords Go.Proofs.YtglfebpgdghlfaaDoorW.PrintLast Go.Proofs.YtglfebpgdghlfaaDoorW.PrintMore
attribute [local go_sem] max2_int min2_int max_two min_two max_three min_three max_four min_four
def textsOk (l : List ByteArray) : Bool := decide (∀ j, j < l.length → utfOk (str l j) = true)
theorem textsOk_bad {l : List ByteArray} {j : Nat} (hj : j < l.length) (h : utfOk (str l j) = false) : textsOk l = false := decide_eq_false (fun h' => by have := h' j hj; rw [h] at this; cases this)
theorem ok70 (s : ByteArray) : decide ((0 : Int) ≤ utfFirst s) = !utfOk s := by
  unfold utfOk
  by_cases h : utfFirst s < 0
  · rw [decide_eq_false (by omega), decide_eq_true h]; rfl
  · rw [decide_eq_true (by omega), decide_eq_false h]; rfl
set_option maxRecDepth 100000 in
set_option maxHeartbeats 1000000 in
theorem bad_any (s : ByteArray) (w : World) (hs : s.size ≤ 1000000) (hT : Tabs w) : Calls Tryd.prog 70 #[.string s] w fun e w' => e = .returned (.bool (!utfOk s)) ∧ Below w.heap.size w w' := by
  have HT := Aside0.mk hT
  have HE := Aside0.mk (ok70 s)
  clear hT
  go_enter Tryd.func70, Tryd.ntmps70
  go_wp2_with fail
  refine (first_any s _ hs HT.out).mono ?_
  rintro e w' ⟨rfl, hB⟩
  have HB := Aside0.mk hB
  clear hB
  go_wp2
  go_ret
  exact ⟨ret_bool HE.out, HB.out⟩
def IdxPost (l : List ByteArray) (w : World) (e : Ending) (w' : World) : Prop := ∃ i : Int, e = .returned (.int .i64 i) ∧ decide (0 ≤ i) = !textsOk l ∧ Below w.heap.size w w'
set_option maxRecDepth 100000 in
set_option maxHeartbeats 1000000 in
theorem badIdx_any (A : Option Addr) (c : Nat) (l : List ByteArray) (w : World) (h : Kd.string.C w A l.length l) (hs : ∀ j, j < l.length → (str l j).size ≤ 1000000) (hT : Tabs w) :
    Calls Tryd.prog 104 #[.slice A l.length c, .func (.func 70) #[] #[]] w (IdxPost l w) := by
  have HR := Aside0.mk h
  have HT := Aside0.mk hT
  have HS := Aside0.mk hs
  have HB := Aside0.mk (Below.refl w.heap.size w)
  have b0 := h.2.1
  clear h hT hs
  go_enter Tryd.func104, Tryd.ntmps104
  go_wp2
  go_loopw [5, 8] (fun _ v8 W => ∃ k : Nat, k ≤ l.length ∧ v8 = .int .i64 k ∧ Aside0 (∀ j, j < k → utfOk (str l j) = true) ∧ Aside0 (Below w.heap.size w W)) (fun _ v8 _ => l.length - (intOf v8).toNat)
  case atStart => exact ⟨0, by omega, rfl, ⟨fun j hj => by omega⟩, HB⟩
  case round =>
    obtain ⟨k, hk, rfl, HP, HB1⟩ := hrel
    by_cases hlt : k < l.length
    · obtain ⟨ad0, rfl, hx0⟩ := at_str (Kd.C_below HR.out HB1.out) k (by omega)
      go_wp2_with fail
      refine (bad_any (str l k) _ (HS.out k hlt) (HT.out.below HB1.out)).mono ?_
      rintro e w' ⟨rfl, hB⟩
      have HB2 := Aside0.mk (below_step HB1.out hB)
      clear hB
      by_cases hi : utfOk (str l k) = true
      · have HI := Aside0.mk hi
        clear hi
        rw [HI.out]
        go_wp2
        go_roundw
        case rel => exact ⟨k + 1, by omega, by go_num, ⟨ext_lt HP.out HI.out⟩, HB2⟩
        case measure => simp [intOf]; omega
      · have HI := Aside0.mk (Bool.eq_false_iff.2 hi)
        clear hi
        rw [HI.out]
        go_wp2
        go_ret
        exact ⟨k, rfl, by rw [textsOk_bad hlt HI.out]; exact decide_eq_true (by omega), HB2.out⟩
    · have HE : Aside0 (textsOk l = true) := ⟨decide_eq_true (fun j hj => HP.out j (by omega))⟩
      go_wp2
      go_ret
      exact ⟨-1, rfl, by rw [HE.out]; rfl, HB1.out⟩
set_option maxRecDepth 100000 in
set_option maxHeartbeats 1000000 in
theorem badTexts_any (A : Option Addr) (c : Nat) (l : List ByteArray) (w : World) (h : Kd.string.C w A l.length l) (hs : ∀ j, j < l.length → (str l j).size ≤ 1000000) (hT : Tabs w) :
    Calls Tryd.prog 69 #[.slice A l.length c, .func (.func 70) #[] #[]] w fun e w' => e = .returned (.bool (!textsOk l)) ∧ Below w.heap.size w w' := by
  have HR := Aside0.mk h
  have HT := Aside0.mk hT
  have HS := Aside0.mk hs
  clear h hT hs
  go_enter Tryd.func69, Tryd.ntmps69
  go_wp2_with fail
  refine (badIdx_any A c l _ HR.out HS.out HT.out).mono ?_
  rintro e w' ⟨i, rfl, hi, hB⟩
  have HI := Aside0.mk hi
  have HB := Aside0.mk hB
  clear hi hB
  go_wp2
  go_ret
  exact ⟨ret_bool HI.out, HB.out⟩
end Go.Proofs.YtglfebpgdghlfaaDoor.L
end
section
namespace Go.Proofs.YtglfebpgdghlfaaDoor.L
open Go.RowKit Go.ChangeShapes Go.WideShapes Go.Proofs.YtglfebpgdghlfaaDoorW.PrintWords Go.Proofs.YtglfebpgdghlfaaDoorW.PrintLast Go.Proofs.YtglfebpgdghlfaaDoorW.PrintMore
attribute [local go_sem] max2_int min2_int max_two min_two max_three min_three max_four min_four
def nodeErr (n : Node) (s : Spec) : Int :=
  if numsOk n.ints s.ints = false then 10 else if ¬ (n.texts.length : Int) = s.texts ∨ textsOk n.texts = false then 11
  else if (n.kids.length : Int) < s.least ∨ 0 ≤ s.most ∧ s.most < n.kids.length then 12 else 0
def TextsSmall (n : Node) : Prop := ∀ j, j < n.texts.length → (str n.texts j).size ≤ 1000000
set_option maxRecDepth 100000 in
set_option maxHeartbeats 2000000 in
theorem check_any (n : Node) (A1 : Option Addr) (c1 : Nat) (A2 : Option Addr) (c2 : Nat) (A3 : Option Addr) (c3 : Nat) (s : Spec) (A4 : Option Addr) (c4 : Nat) (w : World) (h : NodeC w n A1 c1 A2 c2 A3 c3) (h4 : SpecC w s A4 c4) (hs : TextsSmall n) (hT : Tabs w) :
    Calls Tryd.prog 37 #[.agg #[.int .i64 n.kind, .slice A1 n.ints.length c1, .slice A2 n.texts.length c2, .slice A3 n.kids.length c3], .agg #[.slice A4 s.ints.length c4, .int .i64 s.texts, .int .i64 s.least, .int .i64 s.most]] w
      fun e w' => e = .returned (.int .i64 (nodeErr n s)) ∧ Below w.heap.size w w' := by
  have HN := Aside0.mk h
  have H4 := Aside0.mk h4
  have HS := Aside0.mk hs
  have HT := Aside0.mk hT
  have HB := Aside0.mk (below_alloc (below_alloc (Below.refl w.heap.size w) (.cells #[.int .i64 n.kind, .slice A1 n.ints.length c1, .slice A2 n.texts.length c2, .slice A3 n.kids.length c3] 26)) (.cells #[.slice A4 s.ints.length c4, .int .i64 s.texts, .int .i64 s.least, .int .i64 s.most] 66))
  have b3 := h.k.2.1
  have b2 := h.t.2.1
  clear h h4 hs hT
  have HE := Aside0.mk (show nodeErr n s = if numsOk n.ints s.ints = false then 10 else if ¬ (n.texts.length : Int) = s.texts ∨ textsOk n.texts = false then 11
    else if (n.kids.length : Int) < s.least ∨ 0 ≤ s.most ∧ s.most < n.kids.length then 12 else 0 from rfl)
  have HC := Aside0.mk (And.intro (box_cell2 w _ rfl #[.int .i64 n.kind, .slice A1 n.ints.length c1, .slice A2 n.texts.length c2, .slice A3 n.kids.length c3] 26 (.cells #[.slice A4 s.ints.length c4, .int .i64 s.texts, .int .i64 s.least, .int .i64 s.most] 66) 3 _ rfl)
    (And.intro (box_cell (w.alloc (.cells #[.int .i64 n.kind, .slice A1 n.ints.length c1, .slice A2 n.texts.length c2, .slice A3 n.kids.length c3] 26)) (w.heap.size + 1) (by simp) #[.slice A4 s.ints.length c4, .int .i64 s.texts, .int .i64 s.least, .int .i64 s.most] 66 2 _ rfl)
      (box_cell (w.alloc (.cells #[.int .i64 n.kind, .slice A1 n.ints.length c1, .slice A2 n.texts.length c2, .slice A3 n.kids.length c3] 26)) (w.heap.size + 1) (by simp) #[.slice A4 s.ints.length c4, .int .i64 s.texts, .int .i64 s.least, .int .i64 s.most] 66 3 _ rfl)))
  go_enter Tryd.func37, Tryd.ntmps37
  go_wp2_with fail
  refine (numbers_any A1 c1 n.ints A4 c4 s.ints _ (Kd.C_below HN.out.i HB.out) (Kd.C_below H4.out.i HB.out)).mono ?_
  rintro e w1 ⟨rfl, ⟨m, rfl⟩⟩
  have HB1 := Aside0.mk (pw_below_drewN HB.out m)
  by_cases q1 : numsOk n.ints s.ints = true
  · have Q1 := Aside0.mk q1
    rw [Q1.out]
    clear q1
    by_cases q2 : (n.texts.length : Int) = s.texts
    · have Q2 := Aside0.mk q2
      have q2b : ((n.texts.length : Int) != s.texts) = false := by simp [q2]
      clear q2
      go_wp2_with fail
      refine (badTexts_any A2 c2 n.texts _ (Kd.C_below HN.out.t HB1.out) HS.out (HT.out.below HB1.out)).mono ?_
      rintro e w2 ⟨rfl, hB2⟩
      have HB2 := Aside0.mk (below_step HB1.out hB2)
      have k3 := pw_cell_below hB2 (show (((w.alloc _).alloc _).drewN m).cell? _ = _ from HC.out.1)
      have s2 := pw_cell_below hB2 (show (((w.alloc _).alloc _).drewN m).cell? _ = _ from HC.out.2.1)
      have s3 := pw_cell_below hB2 (show (((w.alloc _).alloc _).drewN m).cell? _ = _ from HC.out.2.2)
      clear hB2
      by_cases q3 : textsOk n.texts = true
      · have Q3 := Aside0.mk q3
        rw [Q3.out]
        clear q3
        by_cases q4 : (n.kids.length : Int) < s.least
        · have Q4 := Aside0.mk q4
          have q4b : decide ((n.kids.length : Int) < s.least) = true := decide_eq_true q4
          clear q4
          go_wp2
          go_ret
          exact ⟨ret_int (by rw [HE.out, if_neg (by rw [Q1.out]; simp), if_neg (by rw [Q3.out]; simp [Q2.out]), if_pos (.inl Q4.out)]), HB2.out⟩
        · have Q4 := Aside0.mk q4
          have q4b : decide ((n.kids.length : Int) < s.least) = false := decide_eq_false q4
          clear q4
          by_cases q5 : 0 ≤ s.most
          · by_cases q6 : s.most < n.kids.length
            · have Q6 := Aside0.mk (show 0 ≤ s.most ∧ s.most < n.kids.length from ⟨q5, q6⟩)
              have q5b : decide (0 ≤ s.most) = true := decide_eq_true q5
              have q6b : decide (s.most < (n.kids.length : Int)) = true := decide_eq_true q6
              clear q5 q6
              go_wp2
              go_ret
              exact ⟨ret_int (by rw [HE.out, if_neg (by rw [Q1.out]; simp), if_neg (by rw [Q3.out]; simp [Q2.out]), if_pos (.inr Q6.out)]), HB2.out⟩
            · have Q6 := Aside0.mk (show ¬ (0 ≤ s.most ∧ s.most < n.kids.length) from fun h => q6 h.2)
              have q5b : decide (0 ≤ s.most) = true := decide_eq_true q5
              have q6b : decide (s.most < (n.kids.length : Int)) = false := decide_eq_false q6
              clear q5 q6
              go_wp2
              go_ret
              exact ⟨ret_int (by rw [HE.out, if_neg (by rw [Q1.out]; simp), if_neg (by rw [Q3.out]; simp [Q2.out]), if_neg (fun h => h.elim (fun h0 => by have := Q4.out; omega) Q6.out)]), HB2.out⟩
          · have Q6 := Aside0.mk (show ¬ (0 ≤ s.most ∧ s.most < n.kids.length) from fun h => q5 h.1)
            have q5b : decide (0 ≤ s.most) = false := decide_eq_false q5
            clear q5
            go_wp2
            go_ret
            exact ⟨ret_int (by rw [HE.out, if_neg (by rw [Q1.out]; simp), if_neg (by rw [Q3.out]; simp [Q2.out]), if_neg (fun h => h.elim (fun h0 => by have := Q4.out; omega) Q6.out)]), HB2.out⟩
      · have Q3 := Aside0.mk (Bool.eq_false_iff.2 q3)
        clear q3
        rw [Q3.out]
        go_wp2
        go_ret
        exact ⟨ret_int (by rw [HE.out, if_neg (by rw [Q1.out]; simp), if_pos (.inr Q3.out)]), HB2.out⟩
    · have Q2 := Aside0.mk q2
      have q2b : ((n.texts.length : Int) != s.texts) = true := by simp [q2]
      clear q2
      go_wp2
      go_ret
      exact ⟨ret_int (by rw [HE.out, if_neg (by rw [Q1.out]; simp), if_pos (.inl Q2.out)]), HB1.out⟩
  · have Q1 := Aside0.mk (Bool.eq_false_iff.2 q1)
    clear q1
    rw [Q1.out]
    go_wp2
    go_ret
    exact ⟨ret_int (by rw [HE.out, if_pos Q1.out]), HB1.out⟩
end Go.Proofs.YtglfebpgdghlfaaDoor.L
end
section
namespace Go.Proofs.YtglfebpgdghlfaaDoor.L
open Go.RowKit Go.ChangeShapes Go.WideShapes Go.Proofs.YtglfebpgdghlfaaDoorW.PrintWords Go.Proofs.YtglfebpgdghlfaaDoorW.PrintLast Go.Proofs.YtglfebpgdghlfaaDoorW.PrintMore
attribute [local go_sem] max2_int min2_int max_two min_two max_three min_three max_four min_four
def Lits {α : Type} (d : Kd α) (W : World) : List α → List Value → Prop
  | [], cs => cs = []
  | p :: ps, cs => ∃ c r, cs = c ++ r ∧ d.K W p c ∧ Lits d W ps r
theorem Lits.reps {α : Type} {d : Kd α} {W : World} : ∀ (ps : List α) (cs : List Value) (qs : List α) (ds : List Value), Lits d W ps cs → Reps (d.K W) d.sz qs ds → Reps (d.K W) d.sz (qs ++ ps) (ds ++ cs)
  | [], cs, qs, ds, h, hr => by
    obtain rfl : cs = [] := h
    simpa using hr
  | p :: ps, cs, qs, ds, h, hr => by
    obtain ⟨c, r, rfl, hk, hl⟩ := h
    have := Lits.reps ps r (qs ++ [p]) (ds ++ c) hl (Reps.snoc hr hk (d.K_len hk))
    simpa using this
theorem C_lits {α : Type} (d : Kd α) (W : World) (e n : Nat) (hn : W.heap.size = n) (ps : List α) (cs : List Value) (h : Lits d W ps cs) (hm : ps.length ≤ 1000000) {ca : Array Value} (hca : ca = cs.toArray) :
    d.C (W.alloc (.cells ca e)) (some ⟨n, 0, none⟩) ps.length ps := by
  subst hn hca
  have hr := Lits.reps ps cs [] [] h (Reps.none _ _)
  rw [List.nil_append, List.nil_append] at hr
  have hb : Below W.heap.size W (W.alloc (.cells cs.toArray e)) := below_alloc (Below.refl _ _) _
  refine ⟨rfl, by omega, fun _ => ⟨_, rfl, fun j p hj => ?_⟩⟩
  have hk := hr.2 j p hj
  refine ⟨_, d.K_len hk, d.K_below hb hk, fun q u hu => ?_⟩
  have hh : (W.alloc (.cells cs.toArray e)).heap[W.heap.size]? = some (.cells cs.toArray e (0, 0)) := by simpa using heap_alloc_new W _
  rw [Go.Proofs.YtglfebpgdghlfaaDoorW.PrintWords.add_plain, blk_cell hh]
  rw [List.getElem?_take] at hu
  split at hu
  · rw [List.getElem?_drop] at hu
    simpa using hu
  · cases hu
end Go.Proofs.YtglfebpgdghlfaaDoor.L
end
section
namespace Go.Proofs.YtglfebpgdghlfaaDoor.L
open Go.RowKit Go.ChangeShapes Go.WideShapes Go.Proofs.YtglfebpgdghlfaaDoorW.PrintWords Go.Proofs.YtglfebpgdghlfaaDoorW.PrintLast Go.Proofs.YtglfebpgdghlfaaDoorW.PrintMore
attribute [local go_sem] max2_int min2_int max_two min_two max_three min_three max_four min_four
set_option maxHeartbeats 1000000 in
theorem ints_any (n : Nat) (c : Int) (w : World) (h1 : 1 ≤ n) (h2 : n ≤ 1000000) : Calls Tryd.prog 67 #[.int .i64 n, .int .i64 c] w fun e w' => ∃ A d, e = .returned (.slice A n d) ∧ n ≤ d ∧ (Kd.int .i64).R 3 w' w.heap.size (fun _ => True) (.slice A n d) (List.replicate n c) ∧ Below w.heap.size w w' := by
  have HB := Aside0.mk (Below.refl w.heap.size w)
  go_enter Tryd.func67, Tryd.ntmps67
  go_wp2_with fail
  refine (repeat_int ⟨w.heap.size, 0, none⟩ 1 c n _ (by simp) h1 h2).mono ?_
  rintro e w1 ⟨A, d, rfl, hR, hB⟩
  rw [List.length_replicate] at hR ⊢
  have HR := Aside0.mk (Kd.R_lower (base' := w.heap.size) hR (by simp))
  have HD := Aside0.mk (Kd.R_reads' hR).2.1
  have HB1 := Aside0.mk (below_step (below_alloc HB.out (.cells #[.int .i64 c] 3)) hB)
  clear hR hB
  go_wp2
  go_ret
  exact ⟨_, _, rfl, HD.out, HR.out, HB1.out⟩
def oldTab : List Spec := [specz, ⟨[], 0, 0, -1⟩, ⟨[2, 2, 2, 2], 0, 1, 1⟩, ⟨[3], 1, 0, 0⟩, ⟨[3], 1, 0, 0⟩, ⟨[], 1, 0, 0⟩, ⟨[4], 0, 0, 0⟩]
theorem Lits.cons {α : Type} {d : Kd α} {W : World} {p : α} {ps : List α} {c r : List Value} (hk : d.K W p c) (h : Lits d W ps r) : Lits d W (p :: ps) (c ++ r) := ⟨c, r, rfl, hk, h⟩
theorem Lits.nil {α : Type} {d : Kd α} {W : World} : Lits d W [] [] := rfl
def Past (b : Nat) (A : Option Addr) : Prop := ∀ ad, A = some ad → b < ad.block
theorem Past.none (b : Nat) : Past b none := fun _ h => by cases h
theorem Past.of_R {α : Type} {d : Kd α} {e B b n c : Nat} {w : World} {ok : Nat → Prop} {A : Option Addr} {xs : List α} (h : d.R e w B ok (.slice A n c) xs) (hb : b < B) : Past b A := fun ad he => by
  subst he
  have := Kd.R_base h ad.block rfl
  omega
theorem C_int_far {W : World} {A : Option Addr} {n b i : Nat} {k : IntKind} {xs : List Int} (h : (Kd.int k).C W A n xs) (hp : Past b A) (u : Value) : (Kd.int k).C (W.setCell ⟨b, i, none⟩ u) A n xs := by
  refine ⟨h.1, h.2.1, fun hn => ?_⟩
  obtain ⟨ad, rfl, hc⟩ := h.2.2 hn
  refine ⟨ad, rfl, fun j p hj => ?_⟩
  obtain ⟨c, h1, h2, h3⟩ := hc j p hj
  exact ⟨c, h1, h2, fun q u' hu => far_set (h3 q u' hu) b i (by rw [add_block]; have := hp ad rfl; omega) u⟩
theorem SpecC.far4 {W : World} {s : Spec} {A : Option Addr} {c b : Nat} (h : SpecC W s A c) (hp : Past b A) (u0 u1 u2 u3 : Value) : SpecC ((((W.setCell ⟨b, 0, none⟩ u0).setCell ⟨b, 1, none⟩ u1).setCell ⟨b, 2, none⟩ u2).setCell ⟨b, 3, none⟩ u3) s A c :=
  ⟨h.l, C_int_far (C_int_far (C_int_far (C_int_far h.i hp _) hp _) hp _) hp _⟩
set_option maxRecDepth 100000 in
set_option maxHeartbeats 4000000 in
theorem old_any (k : Int) (w : World) : Calls Tryd.prog 36 #[.int .i64 k] w (SpecPost (Past w.heap.size) (findS oldTab k) w) := by
  have HB0 := Aside0.mk (below_alloc (Below.refl w.heap.size w) (.cells #[.slice none 0 0, .int .i64 0, .int .i64 0, .int .i64 0] 66))
  have HZ0 := Aside0.mk (show w.heap.size < (w.alloc (.cells #[.slice none 0 0, .int .i64 0, .int .i64 0, .int .i64 0] 66)).heap.size from by simp)
  have HL0 := Aside0.mk (show Lives 4 w.heap.size (w.alloc (.cells #[.slice none 0 0, .int .i64 0, .int .i64 0, .int .i64 0] 66)) from Lives.new w #[.slice none 0 0, .int .i64 0, .int .i64 0, .int .i64 0] 66)
  have hu := Tryd.underlying66
  go_enter Tryd.func36, Tryd.ntmps36
  go_wp2_with fail
  refine (ints_any 4 2 _ (by omega) (by omega)).mono ?_
  rintro e w1 ⟨A1, d1, rfl, hd1, hR1, hB1⟩
  have HG1 := Aside0.mk (Past.of_R hR1 HZ0.out)
  have HR1 := Aside0.mk (Kd.R_reads' hR1).2.2
  have HD1 := Aside0.mk hd1
  have HB1 := Aside0.mk (below_step HB0.out hB1)
  have HZ1 := Aside0.mk (Nat.lt_of_lt_of_le HZ0.out hB1.size)
  have HL1 := Aside0.mk (Lives.below HL0.out hB1)
  clear hR1 hB1 hd1 HB0 HL0 HZ0
  go_wp2_with fail
  refine (ints_any 1 3 _ (by omega) (by omega)).mono ?_
  rintro e w2 ⟨A2, d2, rfl, hd2, hR2, hB2⟩
  have HG2 := Aside0.mk (Past.of_R hR2 HZ1.out)
  have HR2 := Aside0.mk (Kd.R_reads' hR2).2.2
  have HD2 := Aside0.mk hd2
  replace HR1 := Aside0.mk (Kd.C_below HR1.out hB2)
  have HB2 := Aside0.mk (below_step HB1.out hB2)
  have HZ2 := Aside0.mk (Nat.lt_of_lt_of_le HZ1.out hB2.size)
  have HL2 := Aside0.mk (Lives.below HL1.out hB2)
  clear hR2 hB2 hd2 HB1 HL1 HZ1
  go_wp2_with fail
  refine (ints_any 1 3 _ (by omega) (by omega)).mono ?_
  rintro e w3 ⟨A3, d3, rfl, hd3, hR3, hB3⟩
  have HG3 := Aside0.mk (Past.of_R hR3 HZ2.out)
  have HR3 := Aside0.mk (Kd.R_reads' hR3).2.2
  have HD3 := Aside0.mk hd3
  replace HR1 := Aside0.mk (Kd.C_below HR1.out hB3)
  replace HR2 := Aside0.mk (Kd.C_below HR2.out hB3)
  have HB3 := Aside0.mk (below_step HB2.out hB3)
  have HZ3 := Aside0.mk (Nat.lt_of_lt_of_le HZ2.out hB3.size)
  have HL3 := Aside0.mk (Lives.below HL2.out hB3)
  clear hR3 hB3 hd3 HB2 HL2 HZ2
  go_wp2_with fail
  refine (ints_any 1 4 _ (by omega) (by omega)).mono ?_
  rintro e w4 ⟨A4, d4, rfl, hd4, hR4, hB4⟩
  have HG4 := Aside0.mk (Past.of_R hR4 HZ3.out)
  have HR4 := Aside0.mk (Kd.R_reads' hR4).2.2
  have HD4 := Aside0.mk hd4
  replace HR1 := Aside0.mk (Kd.C_below HR1.out hB4)
  replace HR2 := Aside0.mk (Kd.C_below HR2.out hB4)
  replace HR3 := Aside0.mk (Kd.C_below HR3.out hB4)
  have HB4 := Aside0.mk (below_step HB3.out hB4)
  have HZ4 := Aside0.mk (Nat.lt_of_lt_of_le HZ3.out hB4.size)
  have HL4 := Aside0.mk (Lives.below HL3.out hB4)
  clear hR4 hB4 hd4 HB3 HL3 HZ3
  go_wp2_with fail
  refine (find_any (Past w.heap.size) (Past.none _) (some ⟨w4.heap.size, 0, none⟩) 7 oldTab k _ (C_lits (kSpecG (Past w.heap.size)) w4 _ _ rfl oldTab _ (Lits.cons (kSpecG_mk (A := none) (c := 0) (n := 0) rfl (Nat.le_refl 0) (C_nil _ _) (Past.none _) rfl rfl rfl) (Lits.cons (kSpecG_mk (A := none) (c := 0) (n := 0) rfl (Nat.le_refl 0) (C_nil _ _) (Past.none _) rfl rfl rfl) (Lits.cons (kSpecG_mk (n := 4) rfl HD1.out HR1.out HG1.out rfl rfl rfl) (Lits.cons (kSpecG_mk (n := 1) rfl HD2.out HR2.out HG2.out rfl rfl rfl) (Lits.cons (kSpecG_mk (n := 1) rfl HD3.out HR3.out HG3.out rfl rfl rfl) (Lits.cons (kSpecG_mk (A := none) (c := 0) (n := 0) rfl (Nat.le_refl 0) (C_nil _ _) (Past.none _) rfl rfl rfl) (Lits.cons (kSpecG_mk (n := 1) rfl HD4.out HR4.out HG4.out rfl rfl rfl) Lits.nil))))))) (by decide) rfl) (by decide)).mono ?_
  rintro e wf ⟨A, c, rfl, hS, hG, hB⟩
  have HS := Aside0.mk hS
  have HG := Aside0.mk hG
  have HB := Aside0.mk (below_step (below_alloc HB4.out _) hB)
  have HL := Aside0.mk (Lives.below (Lives.below HL4.out (below_alloc (Below.refl _ _) _)) hB)
  clear hS hG hB
  have hl0 := HL.out.at 0 (by omega)
  have hl1 := HL.out.at 1 (by omega)
  have hl2 := HL.out.at 2 (by omega)
  have hl3 := HL.out.at 3 (by omega)
  go_wp2
  clear hl0 hl1 hl2 hl3
  have h4 := HL.out.set4 (.slice A ((findS oldTab k).getD specz).ints.length c) (.int .i64 ((findS oldTab k).getD specz).texts) (.int .i64 ((findS oldTab k).getD specz).least) (.int .i64 ((findS oldTab k).getD specz).most)
  exact bodyPost_ret (v := .tuple #[.agg #[.slice A ((findS oldTab k).getD specz).ints.length c, .int .i64 ((findS oldTab k).getD specz).texts, .int .i64 ((findS oldTab k).getD specz).least, .int .i64 ((findS oldTab k).getD specz).most], .bool (findS oldTab k).isSome]) (by simp [results, Tryd.results36, go_sem, h4]) rfl ⟨A, c, rfl, HS.out.far4 HG.out _ _ _ _, HG.out, below_set4 HB.out (Nat.le_refl _)⟩
end Go.Proofs.YtglfebpgdghlfaaDoor.L
end
section
namespace Go.Proofs.YtglfebpgdghlfaaDoor.L
open Go.RowKit Go.ChangeShapes Go.WideShapes Go.Proofs.YtglfebpgdghlfaaDoorW.PrintWords Go.Proofs.YtglfebpgdghlfaaDoorW.PrintLast Go.Proofs.YtglfebpgdghlfaaDoorW.PrintMore
attribute [local go_sem] max2_int min2_int max_two min_two max_three min_three max_four min_four
def noPlace (N : Nat) (k : Int) : Bool := decide (k < 0) || decide ((N : Int) ≤ k)
def kidsBad (N : Nat) (l : List Int) : Bool := decide (∃ j, j < l.length ∧ noPlace N (rd l j) = true)
theorem kidsBad_at {N : Nat} {l : List Int} {j : Nat} (hj : j < l.length) (h : noPlace N (rd l j) = true) : kidsBad N l = true := decide_eq_true ⟨j, hj, h⟩
theorem kidsBad_no {N : Nat} {l : List Int} {k : Nat} (hk : l.length ≤ k) (h : ∀ j, j < k → noPlace N (rd l j) = false) : kidsBad N l = false := decide_eq_false (fun ⟨j, hj, hb⟩ => by rw [h j (by omega)] at hb; cases hb)
def refsFrom (N : Nat) : List Node → Nat → Int
  | [], _ => -1
  | n :: r, i => if kidsBad N n.kids = true then (i : Int) else refsFrom N r (i + 1)
def refsAt (l : List Node) : Int := refsFrom l.length l 0
theorem refsFrom_at {N : Nat} : ∀ (l : List Node) (i k : Nat), k < l.length → (∀ j, j < k → kidsBad N (nd l j).kids = false) → kidsBad N (nd l k).kids = true → refsFrom N l i = ((i + k : Nat) : Int)
  | [], _, _, h, _, _ => by simp at h
  | n :: r, i, 0, _, _, hb => by unfold refsFrom; rw [if_pos (show kidsBad N n.kids = true from hb)]; rfl
  | n :: r, i, k + 1, h, ha, hb => by
    unfold refsFrom
    rw [if_neg (by have := ha 0 (by omega); rw [show nd (n :: r) 0 = n from rfl] at this; rw [this]; simp)]
    rw [refsFrom_at r (i + 1) k (by simpa using h) (fun j hj => ha (j + 1) (by omega)) hb]
    congr 1
    omega
theorem refsFrom_no {N : Nat} : ∀ (l : List Node) (i : Nat), (∀ j, j < l.length → kidsBad N (nd l j).kids = false) → refsFrom N l i = -1
  | [], _, _ => rfl
  | n :: r, i, ha => by
    unfold refsFrom
    rw [if_neg (by have := ha 0 (by simp); rw [show nd (n :: r) 0 = n from rfl] at this; rw [this]; simp)]
    exact refsFrom_no r (i + 1) (fun j hj => ha (j + 1) (by simpa using hj))
set_option maxRecDepth 100000 in
set_option maxHeartbeats 1000000 in
theorem noPlace_any (k : Int) (B : Nat) (A : Option Addr) (N c : Nat) (w : World) (h : w.cell? ⟨B, 0, none⟩ = some (.slice A N c)) (hN : N ≤ 9223372036854775807) :
    Calls Tryd.prog 110 #[.int .i64 k, .pointer (some ⟨B, 0, none⟩)] w fun e w' => e = .returned (.bool (noPlace N k)) ∧ Drawn0 w w' := by
  by_cases h1 : k < 0
  · have E : Aside0 (noPlace N k = true) := ⟨by unfold noPlace; rw [decide_eq_true h1]; rfl⟩
    have d1 : decide (k < 0) = true := decide_eq_true h1
    clear h1
    go_enter Tryd.func110, Tryd.ntmps110
    go_wp2
    go_ret
    exact ⟨ret_bool E.out.symm, by repeat (first | exact Drawn0.refl _ | apply Drawn0.step)⟩
  · have d1 : decide (k < 0) = false := decide_eq_false h1
    by_cases h2 : (N : Int) ≤ k
    · have E : Aside0 (noPlace N k = true) := ⟨by unfold noPlace; rw [decide_eq_true h2]; simp⟩
      have d2 : decide ((N : Int) ≤ k) = true := decide_eq_true h2
      clear h1 h2
      go_enter Tryd.func110, Tryd.ntmps110
      go_wp2
      go_ret
      exact ⟨ret_bool E.out.symm, by repeat (first | exact Drawn0.refl _ | apply Drawn0.step)⟩
    · have E : Aside0 (noPlace N k = false) := ⟨by unfold noPlace; rw [decide_eq_false h1, decide_eq_false h2]; rfl⟩
      have d2 : decide ((N : Int) ≤ k) = false := decide_eq_false h2
      clear h1 h2
      go_enter Tryd.func110, Tryd.ntmps110
      go_wp2
      go_ret
      exact ⟨ret_bool E.out.symm, by repeat (first | exact Drawn0.refl _ | apply Drawn0.step)⟩
def CapN (B N : Nat) (w : World) : Prop := ∃ A c, w.cell? ⟨B, 0, none⟩ = some (.slice A N c) ∧ N ≤ 9223372036854775807
theorem CapN.below {B N : Nat} {w w' : World} (h : CapN B N w) (hb : Below w.heap.size w w') : CapN B N w' := by
  obtain ⟨A, c, h, hN⟩ := h
  exact ⟨A, c, pw_cell_below hb h, hN⟩
def KidIdx (N : Nat) (l : List Int) (w : World) (e : Ending) (w' : World) : Prop := ∃ i : Int, e = .returned (.int .i64 i) ∧ decide (0 ≤ i) = kidsBad N l ∧ Below w.heap.size w w'
set_option maxRecDepth 100000 in
set_option maxHeartbeats 1000000 in
theorem kidIdx_any (A : Option Addr) (c : Nat) (l : List Int) (B N : Nat) (w : World) (hl : (Kd.int .i64).C w A l.length l) (h : CapN B N w) :
    Calls Tryd.prog 115 #[.slice A l.length c, .func (.func 110) #[] #[.pointer (some ⟨B, 0, none⟩)]] w (KidIdx N l w) := by
  have HR := Aside0.mk hl
  have HC := Aside0.mk h
  have HB := Aside0.mk (Below.refl w.heap.size w)
  have b0 := hl.2.1
  clear hl h
  go_enter Tryd.func115, Tryd.ntmps115
  go_wp2
  go_loopw [5, 8] (fun _ v8 W => ∃ k : Nat, k ≤ l.length ∧ v8 = .int .i64 k ∧ Aside0 (∀ j, j < k → noPlace N (rd l j) = false) ∧ Aside0 (Below w.heap.size w W)) (fun _ v8 _ => l.length - (intOf v8).toNat)
  case atStart => exact ⟨0, by omega, rfl, ⟨fun j hj => by omega⟩, HB⟩
  case round =>
    obtain ⟨k, hk, rfl, HP, HB1⟩ := hrel
    by_cases hlt : k < l.length
    · obtain ⟨ad0, rfl, hx0⟩ := at_nat (Kd.C_below HR.out HB1.out) k (by omega)
      obtain ⟨AA, cc, h3⟩ := HC.out.below HB1.out
      have h3 := Aside0.mk h3
      go_wp2_with fail
      refine (noPlace_any (rd l k) B _ N _ _ h3.out.1 h3.out.2).mono ?_
      rintro e w' ⟨rfl, hB⟩
      have HB2 := Aside0.mk (below_step HB1.out hB.below)
      clear hB
      by_cases hi : noPlace N (rd l k) = true
      · have HI := Aside0.mk hi
        clear hi
        rw [HI.out]
        go_wp2
        go_ret
        exact ⟨k, rfl, by rw [kidsBad_at hlt HI.out]; exact decide_eq_true (by omega), HB2.out⟩
      · have HI := Aside0.mk (Bool.eq_false_iff.2 hi)
        clear hi
        rw [HI.out]
        go_wp2
        go_roundw
        case rel => exact ⟨k + 1, by omega, by go_num, ⟨ext_lt HP.out HI.out⟩, HB2⟩
        case measure => simp [intOf]; omega
    · have HE := Aside0.mk (kidsBad_no (by omega) HP.out)
      go_wp2
      go_ret
      exact ⟨-1, rfl, by rw [HE.out]; rfl, HB1.out⟩
set_option maxRecDepth 100000 in
set_option maxHeartbeats 1000000 in
theorem kidHas_any (A : Option Addr) (c : Nat) (l : List Int) (B N : Nat) (w : World) (hl : (Kd.int .i64).C w A l.length l) (h : CapN B N w) :
    Calls Tryd.prog 93 #[.slice A l.length c, .func (.func 110) #[] #[.pointer (some ⟨B, 0, none⟩)]] w fun e w' => e = .returned (.bool (kidsBad N l)) ∧ Below w.heap.size w w' := by
  have HR := Aside0.mk hl
  have HC := Aside0.mk h
  clear hl h
  go_enter Tryd.func93, Tryd.ntmps93
  go_wp2_with fail
  refine (kidIdx_any A c l B N _ HR.out HC.out).mono ?_
  rintro e w' ⟨i, rfl, hi, hB⟩
  have HI := Aside0.mk hi
  have HB := Aside0.mk hB
  clear hi hB
  go_wp2
  go_ret
  exact ⟨ret_bool HI.out, HB.out⟩
set_option maxRecDepth 100000 in
set_option maxHeartbeats 1000000 in
theorem nodeBad_any (n : Node) (A1 : Option Addr) (c1 : Nat) (A2 : Option Addr) (c2 : Nat) (A3 : Option Addr) (c3 : Nat) (B N : Nat) (w : World) (h : NodeC w n A1 c1 A2 c2 A3 c3) (hC : CapN B N w) :
    Calls Tryd.prog 109 #[.agg #[.int .i64 n.kind, .slice A1 n.ints.length c1, .slice A2 n.texts.length c2, .slice A3 n.kids.length c3], .pointer (some ⟨B, 0, none⟩)] w fun e w' => e = .returned (.bool (kidsBad N n.kids)) ∧ Below w.heap.size w w' := by
  have HN := Aside0.mk h
  have HC := Aside0.mk hC
  have HB := Aside0.mk (below_alloc (Below.refl w.heap.size w) (.cells #[.int .i64 n.kind, .slice A1 n.ints.length c1, .slice A2 n.texts.length c2, .slice A3 n.kids.length c3] 26))
  clear h hC
  go_enter Tryd.func109, Tryd.ntmps109
  go_wp2_with fail
  refine (kidHas_any A3 c3 n.kids B N _ (Kd.C_below HN.out.k HB.out) (HC.out.below HB.out)).mono ?_
  rintro e w' ⟨rfl, hB⟩
  have HB1 := Aside0.mk (below_step HB.out hB)
  clear hB
  go_wp2
  go_ret
  exact ⟨rfl, HB1.out⟩
def RefIdx (l : List Node) (N : Nat) (w : World) (e : Ending) (w' : World) : Prop := e = .returned (.int .i64 (refsFrom N l 0)) ∧ Below w.heap.size w w'
set_option maxRecDepth 100000 in
set_option maxHeartbeats 1000000 in
theorem refIdx_any (A : Option Addr) (c : Nat) (l : List Node) (B N : Nat) (w : World) (h : kNode.C w A l.length l) (hC : CapN B N w) :
    Calls Tryd.prog 108 #[.slice A l.length c, .func (.func 109) #[] #[.pointer (some ⟨B, 0, none⟩)]] w (RefIdx l N w) := by
  have HR := Aside0.mk h
  have HC := Aside0.mk hC
  have HB := Aside0.mk (Below.refl w.heap.size w)
  have b0 := h.2.1
  clear h hC
  go_enter Tryd.func108, Tryd.ntmps108
  go_wp2
  go_loopw [5, 8] (fun _ v8 W => ∃ k : Nat, k ≤ l.length ∧ v8 = .int .i64 k ∧ Aside0 (∀ j, j < k → kidsBad N (nd l j).kids = false) ∧ Aside0 (Below w.heap.size w W)) (fun _ v8 _ => l.length - (intOf v8).toNat)
  case atStart => exact ⟨0, by omega, rfl, ⟨fun j hj => by omega⟩, HB⟩
  case round =>
    obtain ⟨k, hk, rfl, HP, HB1⟩ := hrel
    by_cases hlt : k < l.length
    · obtain ⟨ad, A1, c1, A2, c2, A3, c3, rfl, x0, x1, x2, x3, hN⟩ := at_node (Kd.C_below HR.out HB1.out) k (by omega)
      have HN := Aside0.mk hN
      clear hN
      go_wp2_with fail
      refine (nodeBad_any (nd l k) A1 c1 A2 c2 A3 c3 B N _ HN.out (HC.out.below HB1.out)).mono ?_
      rintro e w' ⟨rfl, hB⟩
      have HB2 := Aside0.mk (below_step HB1.out hB)
      clear hB
      by_cases hi : kidsBad N (nd l k).kids = true
      · have HI := Aside0.mk hi
        have HE := Aside0.mk (refsFrom_at l 0 k hlt HP.out hi)
        clear hi
        rw [HI.out]
        go_wp2
        go_ret
        exact ⟨ret_int (by rw [HE.out]; simp), HB2.out⟩
      · have HI := Aside0.mk (Bool.eq_false_iff.2 hi)
        clear hi
        rw [HI.out]
        go_wp2
        go_roundw
        case rel => exact ⟨k + 1, by omega, by go_num, ⟨ext_lt HP.out HI.out⟩, HB2⟩
        case measure => simp [intOf]; omega
    · have HE := Aside0.mk (refsFrom_no (N := N) l 0 (fun j hj => HP.out j (by omega)))
      go_wp2
      go_ret
      exact ⟨ret_int HE.out.symm, HB1.out⟩
set_option maxRecDepth 100000 in
set_option maxHeartbeats 1000000 in
theorem refs_any (A : Option Addr) (c : Nat) (s : Scene) (w : World) (h : kNode.C w A s.nodes.length s.nodes) :
    Calls Tryd.prog 85 #[.agg #[.slice A s.nodes.length c, .int .i64 s.root]] w fun e w' => e = .returned (.int .i64 (refsAt s.nodes)) ∧ Below w.heap.size w w' := by
  have HR := Aside0.mk h
  have HB := Aside0.mk (below_alloc (Below.refl w.heap.size w) (.cells #[.slice A s.nodes.length c, .int .i64 s.root] 39))
  have HC := Aside0.mk (show CapN w.heap.size s.nodes.length _ from ⟨A, c, box_cell w _ rfl #[.slice A s.nodes.length c, .int .i64 s.root] 39 0 _ rfl, h.2.1⟩)
  clear h
  go_enter Tryd.func85, Tryd.ntmps85
  go_wp2_with fail
  refine (refIdx_any A c s.nodes w.heap.size s.nodes.length _ (Kd.C_below HR.out HB.out) HC.out).mono ?_
  rintro e w' ⟨rfl, hB⟩
  have HB1 := Aside0.mk (below_step HB.out hB)
  clear hB
  go_wp2
  go_ret
  exact ⟨rfl, HB1.out⟩
end Go.Proofs.YtglfebpgdghlfaaDoor.L
end
section
namespace Go.Proofs.YtglfebpgdghlfaaDoor.L
open Go.RowKit Go.ChangeShapes Go.WideShapes Go.Proofs.YtglfebpgdghlfaaDoorW.PrintWords Go.Proofs.YtglfebpgdghlfaaDoorW.PrintLast Go.Proofs.YtglfebpgdghlfaaDoorW.PrintMore
attribute [local go_sem] max2_int min2_int max_two min_two max_three min_three max_four min_four
def kids (ns : List Node) (i : Int) : List Int := (nd ns i.toNat).kids
def Places (ns : List Node) : Prop := ∀ i : Nat, i < ns.length → ∀ k ∈ (nd ns i).kids, 0 ≤ k ∧ k < (ns.length : Int)
inductive Rch (ns : List Node) (l : List Int) : Int → Prop
  | base {k : Int} : k ∈ l → Rch ns l k
  | step {i k : Int} : Rch ns l i → k ∈ kids ns i → Rch ns l k
def wt (ns : List Node) (i : Nat) : Nat := (nd ns i).kids.length + 1
def left (ns : List Node) (vs : List Int) : Nat := (((List.range ns.length).filter (fun i : Nat => !vs.contains (i : Int))).map (wt ns)).sum
theorem sum_filter_split (f : Nat → Nat) (x : Nat) (p : Nat → Bool) : ∀ (l : List Nat), l.Nodup → x ∈ l → p x = true → ((l.filter (fun i => p i && !(i == x))).map f).sum + f x = ((l.filter p).map f).sum
  | [], _, h, _ => by simp at h
  | y :: r, hn, h, hp => by
    have hnr := (List.nodup_cons.1 hn)
    by_cases hy : y = x
    · subst hy
      have : (r.filter (fun i => p i && !(i == y))) = r.filter p := List.filter_congr (fun i hi => by
        have : i ≠ y := fun e => hnr.1 (e ▸ hi)
        simp [this])
      rw [List.filter_cons, List.filter_cons]
      simp [hp, this]
      omega
    · have hx : x ∈ r := by
        rcases List.mem_cons.1 h with h | h
        · exact absurd h.symm hy
        · exact h
      have ih := sum_filter_split f x p r hnr.2 hx hp
      rw [List.filter_cons, List.filter_cons]
      cases hpy : p y
      · simp [ih]
      · simp [hy]; omega
theorem left_cons {ns : List Node} {vs : List Int} {x : Nat} (hx : x < ns.length) (hv : ¬ (x : Int) ∈ vs) : left ns ((x : Int) :: vs) + wt ns x = left ns vs := by
  have h := sum_filter_split (wt ns) x (fun i : Nat => !vs.contains (i : Int)) (List.range ns.length) List.nodup_range (List.mem_range.2 hx) (by simpa using hv)
  have e : (fun i : Nat => !((x : Int) :: vs).contains (i : Int)) = (fun i : Nat => (!vs.contains (i : Int)) && !(i == x)) := by
    funext i
    by_cases hi : i = x
    · subst hi; simp
    · have : ¬ (i : Int) = (x : Int) := by omega
      simp [List.contains_cons, hi, this]
  unfold left
  rw [e]
  exact h
def rows (ns : List Node) : Nat := ((List.range ns.length).map (wt ns)).sum
theorem left_nil (ns : List Node) : left ns [] = rows ns := by
  unfold left rows
  rw [List.filter_eq_self.2 (fun a _ => by simp)]
theorem Places.of_refs {ns : List Node} (h : refsAt ns = -1) : Places ns := by
  intro i hi k hk
  have key : ∀ (N : Nat) (l : List Node) (j : Nat), refsFrom N l j = -1 → ∀ q, q < l.length → kidsBad N (nd l q).kids = false := by
    intro N l
    induction l with
    | nil => intro j _ q hq; simp at hq
    | cons n r ih =>
      intro j h q hq
      unfold refsFrom at h
      by_cases hb : kidsBad N n.kids = true
      · rw [if_pos hb] at h; omega
      · rw [if_neg hb] at h
        cases q with
        | zero => exact Bool.eq_false_iff.2 hb
        | succ q => exact ih (j + 1) h q (by simpa using hq)
  have := key ns.length ns 0 h i hi
  obtain ⟨j, hj, rfl⟩ := List.getElem_of_mem hk
  have h2 := of_decide_eq_false this
  have h3 : noPlace ns.length (rd (nd ns i).kids (j : Int)) = false := by
    cases hh : noPlace ns.length (rd (nd ns i).kids (j : Int)) with
    | false => rfl
    | true => exact absurd ⟨j, hj, hh⟩ h2
  rw [rd_eq hj] at h3
  unfold noPlace at h3
  simp at h3
  omega
end Go.Proofs.YtglfebpgdghlfaaDoor.L
end
section
namespace Go.Proofs.YtglfebpgdghlfaaDoor.L
open Go.RowKit Go.ChangeShapes Go.WideShapes Go.Proofs.YtglfebpgdghlfaaDoorW.PrintWords Go.Proofs.YtglfebpgdghlfaaDoorW.PrintLast Go.Proofs.YtglfebpgdghlfaaDoorW.PrintMore
attribute [local go_sem] max2_int min2_int max_two min_two max_three min_three max_four min_four
def nodeT (tab : List Spec) (n : Node) : Int := match findS tab n.kind with
  | none => 9
  | some x => nodeErr n x
def typedFrom (tab : List Spec) : List Node → Int → Int × Int
  | [], _ => (0, 0)
  | n :: r, i => if nodeT tab n = 0 then typedFrom tab r (i + 1) else (nodeT tab n, i)
def typedS (tab : List Spec) (ns : List Node) : Int × Int := typedFrom tab ns 0
theorem typedFrom_bad (tab : List Spec) : ∀ (ns : List Node) (k : Int) (i : Nat), i < ns.length → (∀ j : Nat, j < i → nodeT tab (nd ns j) = 0) → ¬ nodeT tab (nd ns i) = 0 → typedFrom tab ns k = (nodeT tab (nd ns i), k + i)
  | [], _, _, h, _, _ => by simp at h
  | n :: r, k, 0, _, _, hb => by
    unfold typedFrom
    have hb' : ¬ nodeT tab n = 0 := hb
    rw [if_neg hb']
    simp [nd]
  | n :: r, k, i + 1, h, ha, hb => by
    have h0 : nodeT tab n = 0 := ha 0 (by omega)
    unfold typedFrom
    rw [if_pos h0, typedFrom_bad tab r (k + 1) i (by simpa using h) (fun j hj => ha (j + 1) (by omega)) hb]
    have : k + 1 + (i : Int) = k + ((i + 1 : Nat) : Int) := by omega
    rw [this]
    rfl
theorem typedFrom_ok (tab : List Spec) : ∀ (ns : List Node) (k : Int), (∀ j : Nat, j < ns.length → nodeT tab (nd ns j) = 0) → typedFrom tab ns k = (0, 0)
  | [], _, _ => rfl
  | n :: r, k, ha => by
    have h0 : nodeT tab n = 0 := ha 0 (by simp)
    unfold typedFrom
    rw [if_pos h0]
    exact typedFrom_ok tab r (k + 1) (fun j hj => ha (j + 1) (by simpa using hj))
theorem typedS_bad {tab : List Spec} {ns : List Node} {i : Nat} (hi : i < ns.length) (ha : ∀ j : Nat, j < i → nodeT tab (nd ns j) = 0) (hb : ¬ nodeT tab (nd ns i) = 0) : typedS tab ns = (nodeT tab (nd ns i), (i : Int)) := by
  unfold typedS
  rw [typedFrom_bad tab ns 0 i hi ha hb]; simp
theorem typedS_ok {tab : List Spec} {ns : List Node} (ha : ∀ j : Nat, j < ns.length → nodeT tab (nd ns j) = 0) : typedS tab ns = (0, 0) := typedFrom_ok tab ns 0 ha
theorem typedS_zero {tab : List Spec} {ns : List Node} (h : (typedS tab ns).1 = 0) : ∀ j : Nat, j < ns.length → nodeT tab (nd ns j) = 0 := by
  have key : ∀ (ns : List Node) (k : Int), (typedFrom tab ns k).1 = 0 → ∀ j : Nat, j < ns.length → nodeT tab (nd ns j) = 0 := fun ns => by
    induction ns with
    | nil => intro k _ j hj; simp at hj
    | cons n r ih =>
      intro k hk j hj
      unfold typedFrom at hk
      by_cases h0 : nodeT tab n = 0
      · rw [if_pos h0] at hk
        cases j with
        | zero => exact h0
        | succ j => exact ih (k + 1) hk j (by simpa using hj)
      · rw [if_neg h0] at hk
        exact absurd hk h0
  exact key ns 0 h
def TypedPost (r : Int × Int) (w : World) (e : Ending) (w' : World) : Prop := e = .returned (.tuple #[.int .i64 r.1, .int .i64 r.2]) ∧ Below w.heap.size w w'
theorem ret_pair {a b : Int} {r : Int × Int} (h : r = (a, b)) : Ending.returned (.tuple #[.int .i64 a, .int .i64 b]) = .returned (.tuple #[.int .i64 r.1, .int .i64 r.2]) := by rw [h]
end Go.Proofs.YtglfebpgdghlfaaDoor.L
end
section
namespace Go.Proofs.YtglfebpgdghlfaaDoor.L
open Go.RowKit Go.ChangeShapes Go.WideShapes Go.Proofs.YtglfebpgdghlfaaDoorW.PrintWords Go.Proofs.YtglfebpgdghlfaaDoorW.PrintLast Go.Proofs.YtglfebpgdghlfaaDoorW.PrintMore
attribute [local go_sem] max2_int min2_int max_two min_two max_three min_three max_four min_four
set_option maxRecDepth 100000 in
set_option maxHeartbeats 4000000 in
theorem oldtyped_run (A : Option Addr) (c : Nat) (s : Scene) (w : World) (h : kNode.C w A s.nodes.length s.nodes) (hT : Tabs w) (hS : ∀ i : Nat, i < s.nodes.length → TextsSmall (nd s.nodes i)) :
    Calls Tryd.prog 84 #[.agg #[.func (.func 36) #[] #[]], .agg #[.slice A s.nodes.length c, .int .i64 s.root]] w (TypedPost (typedS oldTab s.nodes) w) := by
  have HR := Aside0.mk h
  have HT := Aside0.mk hT
  have HS := Aside0.mk hS
  have b0 := h.2.1
  have HB := Aside0.mk (below_alloc (below_alloc (Below.refl w.heap.size w) (.cells #[.func (.func 36) #[] #[]] 114)) (.cells #[.slice A s.nodes.length c, .int .i64 s.root] 39))
  have hu := Tryd.underlying39
  have hun := Tryd.underlying26
  have hus := Tryd.underlying66
  clear h hT hS
  go_enter Tryd.func84, Tryd.ntmps84
  go_wp2
  go_loopw [14] (fun v12 W => ∃ i : Nat, i ≤ s.nodes.length ∧ v12 = .int .i64 i ∧ Aside0 (∀ j : Nat, j < i → nodeT oldTab (nd s.nodes j) = 0) ∧ Aside0 (Below w.heap.size w W) ∧ Aside0 (W.cell? ⟨w.heap.size, 0, none⟩ = some (.func (.func 36) #[] #[]))) (fun v12 _ => s.nodes.length - (intOf v12).toNat)
  case atStart => exact ⟨0, by omega, rfl, ⟨fun j h => by omega⟩, HB, ⟨box_cell2 w _ rfl #[.func (.func 36) #[] #[]] 114 _ 0 _ rfl⟩⟩
  case round =>
    obtain ⟨i, hi, rfl, HA, HW, HV⟩ := hrel
    by_cases hlt : i < s.nodes.length
    · obtain ⟨adn, A1, c1, A2, c2, A3, c3, rfl, x0, x1, x2, x3, hN⟩ := at_node HR.out i hlt
      replace x0 := pw_cell_below HW.out x0
      replace x1 := pw_cell_below HW.out x1
      replace x2 := pw_cell_below HW.out x2
      replace x3 := pw_cell_below HW.out x3
      have HN := Aside0.mk hN
      have hba := below_alloc (Below.refl wr.heap.size wr) (.cells #[.int .i64 (nd s.nodes i).kind, .slice A1 (nd s.nodes i).ints.length c1, .slice A2 (nd s.nodes i).texts.length c2, .slice A3 (nd s.nodes i).kids.length c3] 26)
      have hbx : (wr.alloc (.cells #[.int .i64 (nd s.nodes i).kind, .slice A1 (nd s.nodes i).ints.length c1, .slice A2 (nd s.nodes i).texts.length c2, .slice A3 (nd s.nodes i).kids.length c3] 26)).heap[wr.heap.size]? = some (.cells #[.int .i64 (nd s.nodes i).kind, .slice A1 (nd s.nodes i).ints.length c1, .slice A2 (nd s.nodes i).texts.length c2, .slice A3 (nd s.nodes i).kids.length c3] 26 (0, 0)) := by simpa using heap_alloc_new wr _
      have HBX := Aside0.mk hbx
      have HBA := Aside0.mk hba
      have y0 := (blk_cell hbx 0).trans rfl
      have v0 := pw_cell_below hba HV.out
      clear hN hba hbx
      go_wp2_with fail
      refine (old_any (nd s.nodes i).kind _).mono ?_
      rintro e w6 ⟨A4, c4, rfl, hS6, -, hB6⟩
      have HB6 := Aside0.mk (below_step HW.out (below_step HBA.out hB6))
      cases hf : findS oldTab (nd s.nodes i).kind with
      | none =>
        have HE := Aside0.mk (typedS_bad (tab := oldTab) hlt HA.out (by unfold nodeT; rw [hf]; exact (by decide : ¬ (9 : Int) = 0)))
        have HE2 := Aside0.mk (show nodeT oldTab (nd s.nodes i) = 9 from by unfold nodeT; rw [hf])
        clear hf hS6 hB6
        go_wp2
        go_ret2
        exact ⟨ret_pair (by rw [HE.out, HE2.out]), below_step HB6.out (below_alloc (Below.refl _ _) _)⟩
      | some sp =>
        have HE2 := Aside0.mk (show nodeT oldTab (nd s.nodes i) = nodeErr (nd s.nodes i) sp from by unfold nodeT; rw [hf])
        rw [hf] at hS6
        have hb6 := (hB6.block _ (by simp)).trans HBX.out
        have hbs := below_alloc (Below.refl w6.heap.size w6) (.cells #[.slice A4 sp.ints.length c4, .int .i64 sp.texts, .int .i64 sp.least, .int .i64 sp.most] 66)
        have hbx : (w6.alloc (.cells #[.slice A4 sp.ints.length c4, .int .i64 sp.texts, .int .i64 sp.least, .int .i64 sp.most] 66)).heap[w6.heap.size]? = some (.cells #[.slice A4 sp.ints.length c4, .int .i64 sp.texts, .int .i64 sp.least, .int .i64 sp.most] 66 (0, 0)) := by simpa using heap_alloc_new w6 _
        have z0 := (blk_cell ((hbs.block _ (blk_lt hb6)).trans hb6) 0).trans rfl
        have z1 := (blk_cell ((hbs.block _ (blk_lt hb6)).trans hb6) 1).trans rfl
        have z2 := (blk_cell ((hbs.block _ (blk_lt hb6)).trans hb6) 2).trans rfl
        have z3 := (blk_cell ((hbs.block _ (blk_lt hb6)).trans hb6) 3).trans rfl
        have q0 := (blk_cell hbx 0).trans rfl
        have q1 := (blk_cell hbx 1).trans rfl
        have q2 := (blk_cell hbx 2).trans rfl
        have q3 := (blk_cell hbx 3).trans rfl
        have HS6 := Aside0.mk (SpecC.below hS6 hbs)
        have HB7 := Aside0.mk (below_step HB6.out hbs)
        have HC7 := Aside0.mk (below_step HBA.out (below_step hB6 hbs))
        clear hf hS6 hB6 hb6 hbs hbx
        go_wp2_with fail
        refine (check_any (nd s.nodes i) A1 c1 A2 c2 A3 c3 sp A4 c4 _ (HN.out.below HB7.out) HS6.out (HS.out i hlt) (HT.out.below HB7.out)).mono ?_
        rintro e w8 ⟨rfl, hB8⟩
        have HB8 := Aside0.mk (below_step HB7.out hB8)
        have HV8 := Aside0.mk (pw_cell_below (below_step HC7.out hB8) HV.out)
        clear v0 hB8 z0 z1 z2 z3 q0 q1 q2 q3 x0 x1 x2 x3 y0
        by_cases hz : nodeErr (nd s.nodes i) sp = 0
        · have HA2 := Aside0.mk (ext_lt HA.out (HE2.out.trans hz))
          rw [hz]
          clear hz
          go_wp2
          go_roundw
          case rel => exact ⟨i + 1, by omega, by go_num, HA2, HB8, HV8⟩
          case measure => simp [intOf]; omega
        · have HE := Aside0.mk (typedS_bad (tab := oldTab) hlt HA.out (by rw [HE2.out]; exact hz))
          have dz : (nodeErr (nd s.nodes i) sp != 0) = true := by simpa using hz
          clear hz
          go_wp2
          go_ret2
          exact ⟨ret_pair (by rw [HE.out, HE2.out]), HB8.out⟩
    · obtain rfl : i = s.nodes.length := by omega
      have HE := Aside0.mk (typedS_ok HA.out)
      go_wp2
      go_ret2
      exact ⟨ret_pair HE.out, HW.out⟩

set_option maxRecDepth 100000 in
set_option maxHeartbeats 4000000 in
theorem oldtyped_any (A : Option Addr) (c : Nat) (s : Scene) (w : World) (h : kNode.C w A s.nodes.length s.nodes) (hT : Tabs w) (hS : ∀ i : Nat, i < s.nodes.length → TextsSmall (nd s.nodes i)) :
    Calls Tryd.prog 44 #[.agg #[.slice A s.nodes.length c, .int .i64 s.root]] w (TypedPost (typedS oldTab s.nodes) w) := by
  have HR := Aside0.mk h
  have HT := Aside0.mk hT
  have HS := Aside0.mk hS
  have HB := Aside0.mk (below_alloc (Below.refl w.heap.size w) (.cells #[.slice A s.nodes.length c, .int .i64 s.root] 39))
  have k0 := box_cell w _ rfl #[.slice A s.nodes.length c, .int .i64 s.root] 39 0 _ rfl
  have k1 := box_cell w _ rfl #[.slice A s.nodes.length c, .int .i64 s.root] 39 1 _ rfl
  have hu := Tryd.underlying39
  have huv := Tryd.underlying114
  clear h hT hS
  go_enter Tryd.func44, Tryd.ntmps44
  go_wp2_with fail
  refine (oldtyped_run A c s _ (Kd.C_below HR.out HB.out) (HT.out.below HB.out) HS.out).mono ?_
  rintro e w1 ⟨rfl, hB1⟩
  go_wp2
  go_ret2
  exact ⟨rfl, below_step HB.out hB1⟩
end Go.Proofs.YtglfebpgdghlfaaDoor.L
end
section
namespace Go.Proofs.YtglfebpgdghlfaaDoor.L
open Go.RowKit Go.ChangeShapes Go.WideShapes Go.Proofs.YtglfebpgdghlfaaDoorW.PrintWords Go.Proofs.YtglfebpgdghlfaaDoorW.PrintLast Go.Proofs.YtglfebpgdghlfaaDoorW.PrintMore
attribute [local go_sem] max2_int min2_int max_two min_two max_three min_three max_four min_four
section
open Go.Maps
variable {P : Program} (w : World) {ops : Array Oper} {rest : List Oper} {o : Oper} {a : Act} {Q : Exit → Act → World → Prop} {k : TypeId}
theorem wpList_insert_F (hg : o.guard = none) (m x v : Operand) (t : TypeId) (hop : o.op = Op.insert t m x v)
    (k e : TypeId) (K : Keyed P k) (ht : P.underlying t = some (.map k e)) (b n : Nat) (f : Lit → Option Value)
    (hm : a.eval m = .map (some b)) (hown : MapF P k w b n f) (hn : n < maxLen) (key val : Value) (kl : Lit) (hx : a.eval x = key) (hv : a.eval v = val) (hkey : keyOf P k key = some kl)
    (hK : ∀ w', MapF P k w' b (n + 1) (putF f kl val) → w.grownBy w' (some b) → wpList P ops Q rest (a.put o.dst undef) w') :
    wpList P ops Q (o :: rest) a w := by
  obtain ⟨D, hown, hf⟩ := hown
  have hm' := hown.isMap
  have hkl : WideAt.IsKeyLit kl := K.key hkey
  refine wpList_plain hg fun K' hK' => ?_
  obtain ⟨w', hrun, r1, r2⟩ := hown.update K ht hn hkey (val := val) (d := .held val) (ps := []) rfl
  unfold Oper.wp
  simp [execOp, hop, hm, hx, hv, hrun, Result.andThen]
  refine hK' _ _ (hK w' ⟨_, r1, fun q => ?_⟩ r2)
  by_cases hq : q = kl
  · subst hq
    rw [Maps.has_put_same hm' hkl, putF_same]
    refine ⟨rfl, fun u z hu => ?_⟩
    cases hu
    exact Maps.atKey_put_same hm' hkl _ _
  · rw [Maps.has_put_other hq, putF_other f val hq]
    refine ⟨(hf q).1, fun u z hu => ?_⟩
    rw [Maps.atKey_put_other hq]
    exact (hf q).2 u z hu
end
end Go.Proofs.YtglfebpgdghlfaaDoor.L
end
section
namespace Go.Proofs.YtglfebpgdghlfaaDoor.L
open Go.RowKit Go.ChangeShapes Go.WideShapes Go.Proofs.YtglfebpgdghlfaaDoorW.PrintWords Go.Proofs.YtglfebpgdghlfaaDoorW.PrintLast Go.Proofs.YtglfebpgdghlfaaDoorW.PrintMore
attribute [local go_sem] max2_int min2_int max_two min_two max_three min_three max_four min_four
theorem keyI : Maps.Keyed Tryd.prog 3 := Maps.int_keyed Tryd.underlying3
theorem keyI_of {x : Int} (h0 : -9223372036854775808 ≤ x) (h1 : x ≤ 9223372036854775807) : keyOf Tryd.prog 3 (.int .i64 x) = some (.int .i64 x) := Maps.keyOf_int_mk Tryd.underlying3 (WalkArith.wf_i64 ⟨h0, h1⟩)
open Classical in
noncomputable def visF (vs : List Int) : Lit → Option Value := fun q => if ∃ k ∈ vs, q = .int .i64 k then some (.bool true) else none
theorem visF_nil : visF [] = fun _ => none := by
  funext q
  unfold visF
  rw [if_neg (fun ⟨k, hk, _⟩ => by simp at hk)]
theorem visF_put (vs : List Int) (x : Int) : putF (visF vs) (.int .i64 x) (.bool true) = visF (x :: vs) := by
  funext q
  unfold putF visF
  by_cases hq : q = .int .i64 x
  · rw [if_pos hq, if_pos ⟨x, by simp, hq⟩]
  · rw [if_neg hq]
    by_cases h : ∃ k ∈ vs, q = .int .i64 k
    · obtain ⟨k, hk, e⟩ := h
      rw [if_pos ⟨k, hk, e⟩, if_pos ⟨k, by simp [hk], e⟩]
    · rw [if_neg h, if_neg (fun ⟨k, hk, e⟩ => by
        rcases List.mem_cons.1 hk with rfl | hk
        · exact hq e
        · exact h ⟨k, hk, e⟩)]
theorem visF_in {vs : List Int} {x : Int} (h : x ∈ vs) : (visF vs (.int .i64 x)).getD (.bool false) = .bool true := by unfold visF; rw [if_pos ⟨x, h, rfl⟩]; rfl
theorem visF_out {vs : List Int} {x : Int} (h : ¬ x ∈ vs) : (visF vs (.int .i64 x)).getD (.bool false) = .bool false := by
  unfold visF
  rw [if_neg (fun ⟨k, hk, e⟩ => h (by injection e with _ e; rw [e]; exact hk))]; rfl
def ReachPost (ns : List Node) (l : List Int) (B : Nat) (w0 : World) (e : Ending) (w' : World) : Prop :=
  ∃ b vs n, e = .returned (.map (some b)) ∧ MapF Tryd.prog 3 w' b n (visF vs) ∧ B ≤ b ∧ (∀ k, k ∈ vs ↔ Rch ns l k) ∧ Below B w0 w'
structure ReachInv (ns : List Node) (l fl vs : List Int) (cnt M : Nat) : Prop where
  f : ∀ k ∈ fl, Rch ns l k ∧ 0 ≤ k ∧ k < (ns.length : Int)
  v : ∀ k ∈ vs, Rch ns l k
  l : ∀ k ∈ l, k ∈ fl ∨ k ∈ vs
  k : ∀ i ∈ vs, ∀ k ∈ kids ns i, k ∈ fl ∨ k ∈ vs
  m : left ns vs + fl.length + cnt ≤ M
theorem ReachInv.start {ns : List Node} {l : List Int} (hl : ∀ k ∈ l, 0 ≤ k ∧ k < (ns.length : Int)) : ReachInv ns l l [] 0 (rows ns + l.length) :=
  ⟨fun k hk => ⟨.base hk, hl k hk⟩, fun k hk => by simp at hk, fun k hk => .inl hk, fun i hi => by simp at hi, by rw [left_nil]; omega⟩
theorem ReachInv.pop {ns : List Node} {l fl vs : List Int} {x : Int} {cnt M : Nat} (h : ReachInv ns l (fl ++ [x]) vs cnt M) (hx : x ∈ vs) : ReachInv ns l fl vs cnt M where
  f := fun k hk => h.f k (by simp [hk])
  v := h.v
  l := fun k hk => by
    rcases h.l k hk with h' | h'
    · rcases List.mem_append.1 h' with h' | h'
      · exact .inl h'
      · exact .inr (by rw [List.mem_singleton.1 h']; exact hx)
    · exact .inr h'
  k := fun i hi k hk => by
    rcases h.k i hi k hk with h' | h'
    · rcases List.mem_append.1 h' with h' | h'
      · exact .inl h'
      · exact .inr (by rw [List.mem_singleton.1 h']; exact hx)
    · exact .inr h'
  m := by have := h.m; simp at this; omega
theorem ReachInv.visit {ns : List Node} {l fl vs : List Int} {x : Nat} {cnt M : Nat} (hp : Places ns) (h : ReachInv ns l (fl ++ [(x : Int)]) vs cnt M) (hx : ¬ (x : Int) ∈ vs) : ReachInv ns l (fl ++ kids ns x) ((x : Int) :: vs) (cnt + 1) M := by
  have h0 := h.f x (by simp)
  have hxl : x < ns.length := by omega
  have e : kids ns x = (nd ns x).kids := by unfold kids; rw [Int.toNat_natCast]
  refine ⟨fun k hk => ?_, fun k hk => ?_, fun k hk => ?_, fun i hi k hk => ?_, ?_⟩
  · rcases List.mem_append.1 hk with hk | hk
    · exact h.f k (by simp [hk])
    · exact ⟨.step h0.1 hk, hp x hxl k (by rw [← e]; exact hk)⟩
  · rcases List.mem_cons.1 hk with rfl | hk
    · exact h0.1
    · exact h.v k hk
  · rcases h.l k hk with h' | h'
    · rcases List.mem_append.1 h' with h' | h'
      · exact .inl (by simp [h'])
      · exact .inr (by rw [List.mem_singleton.1 h']; simp)
    · exact .inr (by simp [h'])
  · rcases List.mem_cons.1 hi with rfl | hi
    · exact .inl (by simp [hk])
    · rcases h.k i hi k hk with h' | h'
      · rcases List.mem_append.1 h' with h' | h'
        · exact .inl (by simp [h'])
        · exact .inr (by rw [List.mem_singleton.1 h']; simp)
      · exact .inr (by simp [h'])
  · have h1 := left_cons hxl hx
    have h2 := h.m
    rw [wt] at h1
    rw [e]
    simp at h2 ⊢
    omega
theorem ReachInv.done {ns : List Node} {l vs : List Int} {cnt M : Nat} (h : ReachInv ns l [] vs cnt M) (k : Int) : k ∈ vs ↔ Rch ns l k := by
  refine ⟨h.v k, fun hr => ?_⟩
  induction hr with
  | base hk => exact (h.l _ hk).resolve_left (by simp)
  | step _ hk ih => exact (h.k _ ih _ hk).resolve_left (by simp)
theorem zeroB (w : World) : (zeroValue 4).run Tryd.prog w = .ok (.bool false) w := by kernel_rfl
structure ReachRel (ns : List Node) (l : List Int) (A : Option Addr) (c : Nat) (root : Int) (w0 : World) (bx : Nat) (v : Value) (fl vs : List Int) (b cnt M : Nat) (W : World) : Prop where
  inv : ReachInv ns l fl vs cnt M
  row : (Kd.int .i64).R 3 W w0.heap.size (fun _ => True) v fl
  map : MapF Tryd.prog 3 W b cnt (visF vs)
  mb : w0.heap.size ≤ b
  box : W.heap[bx]? = some (.cells #[.slice A ns.length c, .int .i64 root] 39 (0, 0))
  below : Below w0.heap.size w0 W
set_option maxRecDepth 100000 in
set_option maxHeartbeats 4000000 in
theorem reach_any (A : Option Addr) (c : Nat) (s : Scene) (l : List Int) (v : Value) (w0 w : World) (h : kNode.C w0 A s.nodes.length s.nodes) (hp : Places s.nodes) (hl : ∀ k ∈ l, 0 ≤ k ∧ k < (s.nodes.length : Int))
    (hR : (Kd.int .i64).R 3 w w0.heap.size (fun _ => True) v l) (hB : Below w0.heap.size w0 w) (hM : rows s.nodes + l.length ≤ 1000000) :
    Calls Tryd.prog 87 #[.agg #[.slice A s.nodes.length c, .int .i64 s.root], v] w (ReachPost s.nodes l w0.heap.size w0) := by
  have HR := Aside0.mk h
  have HP := Aside0.mk hp
  have HM := Aside0.mk hM
  have b0 := h.2.1
  have HI := Aside0.mk (show ReachRel s.nodes l A c s.root w0 w.heap.size v l [] (w.heap.size + 1) 0 (rows s.nodes + l.length) ((w.alloc (.cells #[.slice A s.nodes.length c, .int .i64 s.root] 39)).alloc (.map #[] 0)) from
    ⟨ReachInv.start hl, Kd.R_alloc (Kd.R_alloc hR _) _, by rw [visF_nil]; simpa using MapF.made Tryd.prog 3 (w.alloc (.cells #[.slice A s.nodes.length c, .int .i64 s.root] 39)), Nat.le_succ_of_le hB.size, by
      have : (w.alloc (.cells #[.slice A s.nodes.length c, .int .i64 s.root] 39)).heap[w.heap.size]? = some (.cells #[.slice A s.nodes.length c, .int .i64 s.root] 39 (0, 0)) := by simpa using heap_alloc_new w _
      exact (Below.block (below_alloc (Below.refl _ _) _) _ (by simp)).trans this, below_alloc (below_alloc hB _) _⟩)
  have hmm := @run_makeMap Tryd.prog
  clear h hp hl hB hM
  go_enter Tryd.func87, Tryd.ntmps87
  go_wp2
  go_loopg [1] (left s.nodes [] + l.length) (fun g v1 W => ∃ fl vs cnt, g = left s.nodes vs + fl.length ∧ Aside0 (ReachRel s.nodes l A c s.root w0 w.heap.size v1 fl vs (w.heap.size + 1) cnt (rows s.nodes + l.length) W))
  case atStart => exact ⟨_, _, _, rfl, HI⟩
  case round =>
    obtain ⟨fl, vs, cnt, hg, HL⟩ := hrel
    obtain ⟨Af, cf, rfl⟩ := Kd.R_slice HL.out.row
    rcases snoc_cases fl with rfl | ⟨fl, x, rfl⟩
    · have HD := Aside0.mk (ReachInv.done HL.out.inv)
      clear hg
      go_wp2
      go_ret
      exact ⟨_, _, _, rfl, HL.out.map, HL.out.mb, HD.out, HL.out.below⟩
    · have HX := Aside0.mk (HL.out.inv.f x (by simp))
      obtain ⟨x, rfl⟩ : ∃ j : Nat, x = (j : Int) := ⟨x.toNat, by have := HX.out.2.1; omega⟩
      have hx1 : x < s.nodes.length := by have := HX.out.2.2; omega
      have hrd := Kd.R_reads' HL.out.row
      obtain ⟨ad, rfl, hx0⟩ := at_nat hrd.2.2 fl.length (by simp)
      have hcf : fl.length + 1 ≤ cf := by have := hrd.2.1; simpa using this
      have HRow := Aside0.mk (show (Kd.int .i64).R 3 wr w0.heap.size (fun _ => True) (.slice (some ad) fl.length cf) fl from by have := Kd.R_take HL.out.row (m := fl.length) (by simp); simpa using this)
      have hfl : fl.length + 1 ≤ 1000000 := by have h1 := HL.out.inv.m; have h2 := HM.out; rw [List.length_append, List.length_singleton] at h1; omega
      replace hx0 : wr.cell? (ad.add fl.length) = some (.int .i64 x) := by rw [hx0]; simp [rd]
      have e1 : (fl ++ [(x : Int)]).length = fl.length + 1 := by simp
      rw [e1]
      clear hrd e1
      have HK := Aside0.mk (keyI_of (x := (x : Int)) (by omega) (by omega))
      by_cases hv : (x : Int) ∈ vs
      · have HV := Aside0.mk (visF_in hv)
        have HN := Aside0.mk (HL.out.inv.pop hv)
        clear hv
        go_wp2_with (at_lookup; refine wpList_lookup_F _ rfl (.tmp 22) (.tmp 23) 115 rfl 3 4 keyI Tryd.underlying115 (zeroB _) (w.heap.size + 1) cnt (visF vs) rfl HL.out.map (.int .i64 x) (.int .i64 x) rfl HK.out (.bool true) HV.out ?_)
        go_roundg (left s.nodes vs + fl.length)
        case measure => rw [hg]; simp
        case rel => exact ⟨fl, vs, cnt, rfl, ⟨HN.out, HRow.out, HL.out.map, HL.out.mb, HL.out.box, HL.out.below⟩⟩
      · have HV := Aside0.mk (visF_out hv)
        have HN := Aside0.mk (HL.out.inv.visit HP.out hv)
        have HG := Aside0.mk (show left s.nodes ((x : Int) :: vs) + (fl ++ kids s.nodes x).length < gk from by
          have h1 := left_cons hx1 hv
          rw [hg, List.length_append, List.length_append, List.length_singleton, ← h1, wt]
          have : kids s.nodes x = (nd s.nodes x).kids := by unfold kids; rw [Int.toNat_natCast]
          rw [this]
          omega)
        clear hv hg
        obtain ⟨adn, A1, c1, A2, c2, A3, c3, rfl, x0, x1, x2, x3, hN⟩ := at_node HR.out x hx1
        have HX3 := Aside0.mk x3
        have HNd := Aside0.mk hN
        have HKL := Aside0.mk (show (nd s.nodes x).kids.length ≤ 1000000 from by have := HM.out; have h1 := left_cons (vs := []) hx1 (by simp); rw [left_nil, wt] at h1; omega)
        clear x0 x1 x2 x3 hN
        go_wp2_with (first
          | (at_lookup; refine wpList_lookup_F _ rfl (.tmp 22) (.tmp 23) 115 rfl 3 4 keyI Tryd.underlying115 (zeroB _) (w.heap.size + 1) cnt (visF vs) rfl HL.out.map (.int .i64 x) (.int .i64 x) rfl HK.out (.bool false) HV.out ?_)
          | (at_mapUpdate; refine wpList_update_F _ rfl (.tmp 25) (.tmp 26) _ 115 rfl 3 4 keyI Tryd.underlying115 (w.heap.size + 1) cnt (visF vs) rfl HL.out.map (by have := HL.out.inv.m; have := HM.out; unfold maxLen; omega) (.int .i64 x) (.bool true) (.int .i64 x) rfl rfl HK.out ?_; intro w2 hM2 hg2; have HM2 := Aside0.mk hM2; have HG2 := Aside0.mk hg2; have HBx2 := Aside0.mk (blk_grown HL.out.box hg2 (by simp)); have hc2 := (blk_cell HBx2.out 0).trans rfl; have HB2 := Aside0.mk (below_map HL.out.below HL.out.below.size hg2 HL.out.mb); have hx3 := pw_cell_below HB2.out HX3.out; have HRow2 := Aside0.mk (R_past_map HRow.out HL.out.map hg2); clear hM2 hg2)
          | (at_builtin; refine Kd.R_append_rows (Kd.int .i64) (Rr := fun x cs => cs = [.int .i64 x]) (w0 := w0) w0.heap.size rfl (.tmp 27) (.tmp 33) 24 3 (.int .i64 0) 8 rfl Tryd.underlying24 info_int rfl (by decide) (by omega) (.slice (some ad) fl.length cf) fl (nd s.nodes x).kids A3 _ c3 (fun _ => True) (fun _ => False) rfl rfl HRow2.out (Kd.C_below HNd.out.k HB2.out) (fun _ _ h => h) (fun _ h => h.elim) (fun _ _ => trivial) HB2.out HB2.out.size (by have := HKL.out; omega) ?_; intro v3 w3 hR3 hB3 hg3 _; have HR3 := Aside0.mk hR3; have HB3 := Aside0.mk hB3; have HM3 := Aside0.mk (HM2.out.kept hg3 (HM2.out.ne_row HRow2.out)); have HBx3 := Aside0.mk (blk_grown HBx2.out hg3 (Kd.R_ne HRow2.out HBx2.out (by decide))); clear hR3 hB3 hg3 HRow2))
        go_roundg (left s.nodes ((x : Int) :: vs) + (fl ++ kids s.nodes x).length)
        case measure => exact HG.out
        case rel => exact ⟨_, _, _, rfl, ⟨HN.out, by have e : kids s.nodes x = (nd s.nodes x).kids := (by unfold kids; rw [Int.toNat_natCast]); rw [e]; exact HR3.out, by rw [← visF_put]; exact HM3.out, HL.out.mb, HBx3.out, HB3.out⟩⟩
end Go.Proofs.YtglfebpgdghlfaaDoor.L
end
section
namespace Go.Proofs.YtglfebpgdghlfaaDoor.L
open Go.RowKit Go.ChangeShapes Go.WideShapes Go.Proofs.YtglfebpgdghlfaaDoorW.PrintWords Go.Proofs.YtglfebpgdghlfaaDoorW.PrintLast Go.Proofs.YtglfebpgdghlfaaDoorW.PrintMore
attribute [local go_sem] max2_int min2_int max_two min_two max_three min_three max_four min_four
theorem S_kids {W0 W : World} {base g m c : Nat} {l : List Node} {v : Value} {q : List Int} (h : Kd.S kNode 26 W0 base (fun _ => True) (.slice (some ⟨g, 0, none⟩) m c) l) (hb : Below W0.heap.size W0 W) (hv : (Kd.int .i64).R 3 W W0.heap.size (fun _ => True) v q) (i : Nat) (hi : i < m) (hB : base ≤ W0.heap.size) :
    (∃ x, W.cell? ⟨g, i * 4 + 3, none⟩ = some x) ∧ W.frozen? ⟨g, i * 4 + 3, none⟩ = false ∧ base ≤ g ∧
      Kd.S kNode 26 (W.setCell ⟨g, i * 4 + 3, none⟩ v) base (fun _ => True) (.slice (some ⟨g, 0, none⟩) m c) (l.set i ⟨(nd l i).kind, (nd l i).ints, (nd l i).texts, q⟩) := by
  have hgl := Kd.S_lt h g rfl
  have h1 : Kd.S kNode 26 W base (fun k => True ∧ ¬ W0.heap.size ≤ k) (.slice (some ⟨g, 0, none⟩) m c) l := Kd.S_below (Kd.S_mono (Kd.S_bound h) (fun k hk => ⟨trivial, by have := hk.2.2.1; omega⟩)) hb
  obtain ⟨oki, cc, hcl, hM, hcc, hfr, hoki, hH⟩ := Kd.S_elem h1 nodez (i : Int) (by omega) (by omega)
  rw [Int.toNat_natCast] at hM hcc hfr
  obtain ⟨v1, v2, v3, rfl, r1, r2, r3⟩ := kNode_openM hM
  have hs := Kd.S_seg (okg := fun k => W0.heap.size ≤ k) (okp := fun k => oki k ∨ W0.heap.size ≤ k) (ok := fun _ => True) (seg := [v]) (j := 3) (x' := ⟨(nd l i).kind, (nd l i).ints, (nd l i).texts, q⟩) hH (by omega) (by omega) (Nat.le_refl 4)
    (kNode_mkM (Kd.R_mono r1 (fun _ h => .inl h)) (Kd.R_mono r2 (fun _ h => .inl h)) (Kd.R_lower (Kd.R_mono (Kd.R_bound hv) (fun k hk => .inr hk.2.1)) hB)) (fun k hk => hk) (fun k hk => ⟨trivial, by omega⟩)
  rw [Int.toNat_natCast] at hs
  exact ⟨⟨_, hcc 3 _ rfl⟩, hfr 3, Kd.S_base h g rfl, hs.1⟩
def fnv (i : Nat) : Value := .agg #[.func (.func i) #[] #[]]
noncomputable def upF : Lit → Option Value := putF (putF (putF (putF (putF (putF (fun _ => none) (.int .i64 1) (fnv 72)) (.int .i64 2) (fnv 73)) (.int .i64 3) (fnv 76)) (.int .i64 4) (fnv 78)) (.int .i64 5) (fnv 79)) (.int .i64 6) (fnv 80)
set_option maxRecDepth 100000 in
set_option maxHeartbeats 2000000 in
theorem uprows_any (w : World) : Calls Tryd.prog 38 #[] w fun e w' => ∃ b, e = .returned (.map (some b)) ∧ MapF Tryd.prog 3 w' b 6 upF ∧ w.heap.size ≤ b ∧ Below w.heap.size w w' := by
  have hmm := @run_makeMap Tryd.prog
  have HM0 := Aside0.mk (MapF.made Tryd.prog 3 w)
  have HB0 := Aside0.mk (below_alloc (Below.refl w.heap.size w) (.map #[] 0))
  go_enter Tryd.func38, Tryd.ntmps38
  go_wp2_with (first
    | (refine wpList_insert_F _ rfl (.tmp 1) _ (.tmp 2) 73 rfl 3 72 keyI Tryd.underlying73 w.heap.size 0 (fun _ => none) rfl HM0.out (by decide) (.int .i64 1) (fnv 72) (.int .i64 1) rfl rfl (keyI_of (by omega) (by omega)) ?_; intro w1 hM1 hg1; have HM1 := Aside0.mk hM1; have HB1 := Aside0.mk (below_map HB0.out HB0.out.size hg1 (Nat.le_refl _)); clear hM1 hg1)
    | (refine wpList_insert_F _ rfl (.tmp 1) _ (.tmp 3) 73 rfl 3 72 keyI Tryd.underlying73 w.heap.size 1 _ rfl HM1.out (by decide) (.int .i64 2) (fnv 73) (.int .i64 2) rfl rfl (keyI_of (by omega) (by omega)) ?_; intro w2 hM2 hg2; have HM2 := Aside0.mk hM2; have HB2 := Aside0.mk (below_map HB1.out HB1.out.size hg2 (Nat.le_refl _)); clear hM2 hg2)
    | (refine wpList_insert_F _ rfl (.tmp 1) _ (.tmp 4) 73 rfl 3 72 keyI Tryd.underlying73 w.heap.size 2 _ rfl HM2.out (by decide) (.int .i64 3) (fnv 76) (.int .i64 3) rfl rfl (keyI_of (by omega) (by omega)) ?_; intro w3 hM3 hg3; have HM3 := Aside0.mk hM3; have HB3 := Aside0.mk (below_map HB2.out HB2.out.size hg3 (Nat.le_refl _)); clear hM3 hg3)
    | (refine wpList_insert_F _ rfl (.tmp 1) _ (.tmp 5) 73 rfl 3 72 keyI Tryd.underlying73 w.heap.size 3 _ rfl HM3.out (by decide) (.int .i64 4) (fnv 78) (.int .i64 4) rfl rfl (keyI_of (by omega) (by omega)) ?_; intro w4 hM4 hg4; have HM4 := Aside0.mk hM4; have HB4 := Aside0.mk (below_map HB3.out HB3.out.size hg4 (Nat.le_refl _)); clear hM4 hg4)
    | (refine wpList_insert_F _ rfl (.tmp 1) _ (.tmp 6) 73 rfl 3 72 keyI Tryd.underlying73 w.heap.size 4 _ rfl HM4.out (by decide) (.int .i64 5) (fnv 79) (.int .i64 5) rfl rfl (keyI_of (by omega) (by omega)) ?_; intro w5 hM5 hg5; have HM5 := Aside0.mk hM5; have HB5 := Aside0.mk (below_map HB4.out HB4.out.size hg5 (Nat.le_refl _)); clear hM5 hg5)
    | (refine wpList_insert_F _ rfl (.tmp 1) _ (.tmp 7) 73 rfl 3 72 keyI Tryd.underlying73 w.heap.size 5 _ rfl HM5.out (by decide) (.int .i64 6) (fnv 80) (.int .i64 6) rfl rfl (keyI_of (by omega) (by omega)) ?_; intro w6 hM6 hg6; have HM6 := Aside0.mk hM6; have HB6 := Aside0.mk (below_map HB5.out HB5.out.size hg6 (Nat.le_refl _)); clear hM6 hg6))
  go_ret
  exact ⟨_, rfl, HM6.out, Nat.le_refl _, HB6.out⟩
end Go.Proofs.YtglfebpgdghlfaaDoor.L
end
section
namespace Go.Proofs.YtglfebpgdghlfaaDoor.L
open Go.RowKit Go.ChangeShapes Go.WideShapes Go.Proofs.YtglfebpgdghlfaaDoorW.PrintWords Go.Proofs.YtglfebpgdghlfaaDoorW.PrintLast Go.Proofs.YtglfebpgdghlfaaDoorW.PrintMore
attribute [local go_sem] max2_int min2_int max_two min_two max_three min_three max_four min_four
def upN (n : Node) : List Node :=
  if n.kind = 1 then [⟨1, [], [ByteArray.empty], n.kids⟩]
  else if n.kind = 2 then [⟨2, n.ints.take 3, [], [0]⟩, ⟨8, [rd n.ints 3, rd n.ints 3, rd n.ints 3], [], n.kids⟩]
  else if n.kind = 3 then [⟨3, [rd n.ints 0, rd n.ints 0, rd n.ints 0], n.texts, n.kids⟩]
  else if n.kind = 4 then [⟨4, n.ints, n.texts, n.kids⟩]
  else if n.kind = 5 then [⟨5, [65536], [str n.texts 0, ⟨#[115, 97, 110, 115]⟩], n.kids⟩]
  else [⟨7, [rd n.ints 0, rd n.ints 0, rd n.ints 0, 1], [], n.kids⟩]
def upR (n : Node) : List Node × Int := if nodeT oldTab n = 0 then (upN n, 0) else ([], nodeT oldTab n)
def UpPost (r : List Node × Int) (w : World) (e : Ending) (w' : World) : Prop :=
  ∃ A c, e = .returned (.tuple #[.slice A r.1.length c, .int .i64 r.2]) ∧ Kd.S kNode 26 w' w.heap.size (fun _ => True) (.slice A r.1.length c) r.1 ∧ Below w.heap.size w w'
theorem nodeErr_zero {n : Node} {s : Spec} (h : nodeErr n s = 0) : numsOk n.ints s.ints = true ∧ (n.texts.length : Int) = s.texts ∧ textsOk n.texts = true := by
  unfold nodeErr at h
  by_cases h1 : numsOk n.ints s.ints = false
  · rw [if_pos h1] at h; omega
  · rw [if_neg h1] at h
    by_cases h2 : ¬ (n.texts.length : Int) = s.texts ∨ textsOk n.texts = false
    · rw [if_pos h2] at h; omega
    · have h3 : (n.texts.length : Int) = s.texts := Classical.byContradiction fun h => h2 (.inl h)
      have h4 : ¬ textsOk n.texts = false := fun h => h2 (.inr h)
      exact ⟨by cases hh : numsOk n.ints s.ints with | true => rfl | false => exact absurd hh h1, h3, by cases hh : textsOk n.texts with | true => rfl | false => exact absurd hh h4⟩
theorem old_kind {k : Int} {x : Spec} (h : findS oldTab k = some x) : 1 ≤ k ∧ k ≤ 6 := by
  unfold findS at h
  by_cases hk : k < 1 ∨ (oldTab.length : Int) ≤ k
  · rw [if_pos hk] at h; cases h
  · have : (oldTab.length : Int) = 7 := rfl
    omega
theorem upF_1 : upF (.int .i64 1) = some (fnv 72) := by simp [upF, putF]
theorem upF_2 : upF (.int .i64 2) = some (fnv 73) := by simp [upF, putF]
theorem upF_3 : upF (.int .i64 3) = some (fnv 76) := by simp [upF, putF]
theorem upF_4 : upF (.int .i64 4) = some (fnv 78) := by simp [upF, putF]
theorem upF_5 : upF (.int .i64 5) = some (fnv 79) := by simp [upF, putF]
theorem upF_6 : upF (.int .i64 6) = some (fnv 80) := by simp [upF, putF]
theorem field_run (i : Nat) (w : World) : (Instr.field 72 (.agg #[.func (.func i) #[] #[]]) 0).run Tryd.prog w = .ok (.func (.func i) #[] #[]) w := by kernel_rfl
theorem pos1 {m k : Nat} (h : m = k) (hk : 0 < k) : 0 < m := by omega
theorem pos5 {m : Nat} (h : (m : Int) = 1) : 0 < m := by omega
theorem zeroU (w : World) : (zeroValue 72).run Tryd.prog w = .ok ((match (Tryd.prog.info? 72) with | some i => i.zero.getD undef | none => undef)) w := by kernel_rfl
theorem node_len {n : Node} {x : Spec} (hf : findS oldTab n.kind = some x) (hz : nodeErr n x = 0) {k : Int} {y : Spec} (hk : n.kind = k) (hy : findS oldTab k = some y) : n.ints.length = y.ints.length ∧ (n.texts.length : Int) = y.texts := by
  rw [hk, hy] at hf
  injection hf with hf
  subst hf
  have h := nodeErr_zero hz
  have h1 := of_decide_eq_true h.1
  exact ⟨h1.1, h.2.1⟩
set_option maxRecDepth 100000 in
set_option maxHeartbeats 8000000 in
theorem upnode_any (n : Node) (A1 : Option Addr) (c1 : Nat) (A2 : Option Addr) (c2 : Nat) (A3 : Option Addr) (c3 : Nat) (w : World) (h : NodeC w n A1 c1 A2 c2 A3 c3) (hs : Small n) (hts : TextsSmall n) (hT : Tabs w) :
    Calls Tryd.prog 14 #[.agg #[.int .i64 n.kind, .slice A1 n.ints.length c1, .slice A2 n.texts.length c2, .slice A3 n.kids.length c3]] w (UpPost (upR n) w) := by
  have HN := Aside0.mk h
  have HS := Aside0.mk hs
  have HTS := Aside0.mk hts
  have HT := Aside0.mk hT
  have HB := Aside0.mk (below_alloc (Below.refl w.heap.size w) (.cells #[.int .i64 n.kind, .slice A1 n.ints.length c1, .slice A2 n.texts.length c2, .slice A3 n.kids.length c3] 26))
  have k0 := box_cell w _ rfl #[.int .i64 n.kind, .slice A1 n.ints.length c1, .slice A2 n.texts.length c2, .slice A3 n.kids.length c3] 26 0 _ rfl
  have k1 := box_cell w _ rfl #[.int .i64 n.kind, .slice A1 n.ints.length c1, .slice A2 n.texts.length c2, .slice A3 n.kids.length c3] 26 1 _ rfl
  have k2 := box_cell w _ rfl #[.int .i64 n.kind, .slice A1 n.ints.length c1, .slice A2 n.texts.length c2, .slice A3 n.kids.length c3] 26 2 _ rfl
  have k3 := box_cell w _ rfl #[.int .i64 n.kind, .slice A1 n.ints.length c1, .slice A2 n.texts.length c2, .slice A3 n.kids.length c3] 26 3 _ rfl
  have hun := Tryd.underlying26
  have hus := Tryd.underlying66
  have hub := Tryd.underlying72
  clear h hs hts hT
  go_enter Tryd.func14, Tryd.ntmps14
  go_wp2_with fail
  refine (old_any n.kind _).mono ?_
  rintro e w6 ⟨A4, c4, rfl, hS6, -, hB6⟩
  replace k0 := pw_cell_below hB6 k0
  replace k1 := pw_cell_below hB6 k1
  replace k2 := pw_cell_below hB6 k2
  replace k3 := pw_cell_below hB6 k3
  have HB6 := Aside0.mk (below_step HB.out hB6)
  cases hf : findS oldTab n.kind with
  | none =>
    have HE := Aside0.mk (show upR n = ([], 9) from by
      have : nodeT oldTab n = 9 := by unfold nodeT; rw [hf]
      unfold upR; rw [this, if_neg (by decide)])
    clear hf hS6 hB6
    go_wp2
    go_ret2
    exact ⟨none, 0, by rw [HE.out]; rfl, by rw [HE.out]; exact Kd.S_nil _ _ _ _ _, below_step HB6.out (below_alloc (Below.refl _ _) _)⟩
  | some sp =>
    have HF := Aside0.mk hf
    have HE2 := Aside0.mk (show nodeT oldTab n = nodeErr n sp from by unfold nodeT; rw [hf])
    rw [hf] at hS6
    have hbs := below_alloc (Below.refl w6.heap.size w6) (.cells #[.slice A4 sp.ints.length c4, .int .i64 sp.texts, .int .i64 sp.least, .int .i64 sp.most] 66)
    have hbx : (w6.alloc (.cells #[.slice A4 sp.ints.length c4, .int .i64 sp.texts, .int .i64 sp.least, .int .i64 sp.most] 66)).heap[w6.heap.size]? = some (.cells #[.slice A4 sp.ints.length c4, .int .i64 sp.texts, .int .i64 sp.least, .int .i64 sp.most] 66 (0, 0)) := by simpa using heap_alloc_new w6 _
    replace k0 := pw_cell_below hbs k0
    replace k1 := pw_cell_below hbs k1
    replace k2 := pw_cell_below hbs k2
    replace k3 := pw_cell_below hbs k3
    have q0 := (blk_cell hbx 0).trans rfl
    have q1 := (blk_cell hbx 1).trans rfl
    have q2 := (blk_cell hbx 2).trans rfl
    have q3 := (blk_cell hbx 3).trans rfl
    have HS6 := Aside0.mk (SpecC.below hS6 hbs)
    have HB7 := Aside0.mk (below_step HB6.out hbs)
    clear hf hS6 hB6 hbs hbx
    go_wp2_with fail
    refine (check_any n A1 c1 A2 c2 A3 c3 sp A4 c4 _ (HN.out.below HB7.out) HS6.out HTS.out (HT.out.below HB7.out)).mono ?_
    rintro e w8 ⟨rfl, hB8⟩
    have HB8 := Aside0.mk (below_step HB7.out hB8)
    replace k0 := pw_cell_below hB8 k0
    replace k1 := pw_cell_below hB8 k1
    replace k2 := pw_cell_below hB8 k2
    replace k3 := pw_cell_below hB8 k3
    clear hB8 q0 q1 q2 q3
    by_cases hz : nodeErr n sp = 0
    · have HE := Aside0.mk (show upR n = (upN n, 0) from by unfold upR; rw [if_pos (HE2.out.trans hz)])
      have HLen := Aside0.mk (fun {k : Int} {y : Spec} (hk : n.kind = k) (hy : findS oldTab k = some y) => node_len HF.out hz hk hy)
      have HK := Aside0.mk (old_kind HF.out)
      rw [hz]
      clear hz
      have hk6 : n.kind = 1 ∨ n.kind = 2 ∨ n.kind = 3 ∨ n.kind = 4 ∨ n.kind = 5 ∨ n.kind = 6 := by have := HK.out; omega
      rcases hk6 with hk | hk | hk | hk | hk | hk
      · have HUN : Aside0 (upN n = ([⟨1, [], [ByteArray.empty], []⟩] : List Node).set 0 ⟨(nd [⟨1, [], [ByteArray.empty], []⟩] 0).kind, (nd [⟨1, [], [ByteArray.empty], []⟩] 0).ints, (nd [⟨1, [], [ByteArray.empty], []⟩] 0).texts, n.kids⟩) := ⟨by unfold upN; rw [hk]; rfl⟩
        have HLn := Aside0.mk (HLen.out hk rfl)
        have HKn := Aside0.mk hk
        have hk0 : w8.cell? ⟨w.heap.size, 0, none⟩ = some (.int .i64 1) := by rw [← hk]; exact k0
        have hnode : Value.agg #[.int .i64 n.kind, .slice A1 n.ints.length c1, .slice A2 n.texts.length c2, .slice A3 n.kids.length c3] = .agg #[.int .i64 1, .slice A1 n.ints.length c1, .slice A2 n.texts.length c2, .slice A3 n.kids.length c3] := by rw [hk]
        have HCall := Aside0.mk (fun (wx : World) (HBa : Aside0 (Below w.heap.size w wx)) => show Calls Tryd.prog 72 #[.agg #[.int .i64 1, .slice A1 n.ints.length c1, .slice A2 n.texts.length c2, .slice A3 n.kids.length c3]] wx (RowsPost [⟨1, [], [ByteArray.empty], []⟩] wx) from hnode ▸ (up1_any n A1 c1 A2 c2 A3 c3 wx))
        have hfd := field_run 72
        clear hk k0 hnode
        go_wp2
        go_region_held3 (fun W => W.cell? ⟨w.heap.size, 0, none⟩ = some (.int .i64 1) ∧ W.cell? ⟨w.heap.size, 1, none⟩ = some (.slice A1 n.ints.length c1) ∧ W.cell? ⟨w.heap.size, 2, none⟩ = some (.slice A2 n.texts.length c2) ∧ W.cell? ⟨w.heap.size, 3, none⟩ = some (.slice A3 n.kids.length c3))
          (first
            | (go_split_ands
               refine ⟨?_, ?_, ?_, ?_⟩
               all_goals first
                 | with_reducible assumption
                 | with_reducible exact pw_cell_below hB (by assumption)
                 | (simp [*]; done)))
          (first
            | (go_at_call 38; refine (uprows_any _).mono ?_; rintro e wa ⟨b, rfl, hMF, hbb, hBa⟩; have hlk := MapF.run_lookup wa 73 hMF keyI Tryd.underlying73 (zeroU wa) (keyI_of (x := 1) (by omega) (by omega)); rw [upF_1] at hlk; replace hlk : (Instr.lookup 73 (.map (some b)) (.int .i64 1) false).run Tryd.prog wa = .ok (.agg #[.func (.func 72) #[] #[]]) wa := hlk; have HBa := Aside0.mk (below_step (below_drew HB8.out) hBa); have hB := hBa)
            | (go_at_call 72; refine (HCall.out wa HBa).mono ?_; rintro e wb ⟨g, cg, rfl, hSg, hBg⟩; have hB := hBg))
        have HBb := Aside0.mk (below_step HBa.out hBg)
        have HSg := Aside0.mk (show Kd.S kNode 26 wb w.heap.size (fun _ => True) (.slice (some ⟨g, 0, none⟩) 1 cg) [⟨1, [], [ByteArray.empty], []⟩] from by obtain ⟨f, hf⟩ := hSg; exact ⟨f, Kd.R_lower hf HBa.out.size⟩)
        have k3b := pw_cell_below hBg (pw_cell_below hBa (show w8.drew.cell? _ = _ from k3))
        have hgw := Kd.S_lt HSg.out g rfl
        clear k1 k2 k3 hk0 hfd hSg hBg hBa hMF hbb hlk
        go_wp2_with fail
        refine (clone_int A3 c3 n.kids _ (Kd.C_below HN.out.k HBb.out) (Nat.le_trans HS.out.2.2 (by omega))).mono ?_
        rintro e wc ⟨B3, d3, rfl, hR3, hBc⟩
        have HBc := Aside0.mk (below_step HBb.out hBc)
        obtain ⟨⟨x, hx⟩, hfx, hgb, hS3⟩ := S_kids HSg.out hBc hR3 0 (by decide) HBb.out.size
        replace hx : wc.cell? ⟨g, 3, none⟩ = some x := hx
        replace hfx : wc.frozen? ⟨g, 3, none⟩ = false := hfx
        have HS3 := Aside0.mk hS3
        have HG := Aside0.mk hgb
        clear hS3 hR3 hBc k3b hgw hgb
        go_wp2
        clear hx hfx
        go_ret2
        exact ⟨some ⟨g, 0, none⟩, cg, by rw [HE.out, HUN.out]; rfl, by rw [HE.out, HUN.out]; exact HS3.out, below_set HBc.out HG.out⟩
      · have HUN : Aside0 (upN n = ([⟨2, n.ints.take 3, [], [0]⟩, ⟨8, [rd n.ints 3, rd n.ints 3, rd n.ints 3], [], []⟩] : List Node).set 1 ⟨(nd [⟨2, n.ints.take 3, [], [0]⟩, ⟨8, [rd n.ints 3, rd n.ints 3, rd n.ints 3], [], []⟩] 1).kind, (nd [⟨2, n.ints.take 3, [], [0]⟩, ⟨8, [rd n.ints 3, rd n.ints 3, rd n.ints 3], [], []⟩] 1).ints, (nd [⟨2, n.ints.take 3, [], [0]⟩, ⟨8, [rd n.ints 3, rd n.ints 3, rd n.ints 3], [], []⟩] 1).texts, n.kids⟩) := ⟨by unfold upN; rw [hk]; rfl⟩
        have HLn := Aside0.mk (HLen.out hk rfl)
        have HKn := Aside0.mk hk
        have hk0 : w8.cell? ⟨w.heap.size, 0, none⟩ = some (.int .i64 2) := by rw [← hk]; exact k0
        have hnode : Value.agg #[.int .i64 n.kind, .slice A1 n.ints.length c1, .slice A2 n.texts.length c2, .slice A3 n.kids.length c3] = .agg #[.int .i64 2, .slice A1 n.ints.length c1, .slice A2 n.texts.length c2, .slice A3 n.kids.length c3] := by rw [hk]
        have HCall := Aside0.mk (fun (wx : World) (HBa : Aside0 (Below w.heap.size w wx)) => show Calls Tryd.prog 73 #[.agg #[.int .i64 2, .slice A1 n.ints.length c1, .slice A2 n.texts.length c2, .slice A3 n.kids.length c3]] wx (RowsPost [⟨2, n.ints.take 3, [], [0]⟩, ⟨8, [rd n.ints 3, rd n.ints 3, rd n.ints 3], [], []⟩] wx) from hnode ▸ (up2_any n A1 c1 A2 c2 A3 c3 wx (HN.out.below HBa.out) (HLn.out.1)))
        have hfd := field_run 73
        clear hk k0 hnode
        go_wp2
        go_region_held3 (fun W => W.cell? ⟨w.heap.size, 0, none⟩ = some (.int .i64 2) ∧ W.cell? ⟨w.heap.size, 1, none⟩ = some (.slice A1 n.ints.length c1) ∧ W.cell? ⟨w.heap.size, 2, none⟩ = some (.slice A2 n.texts.length c2) ∧ W.cell? ⟨w.heap.size, 3, none⟩ = some (.slice A3 n.kids.length c3))
          (first
            | (go_split_ands
               refine ⟨?_, ?_, ?_, ?_⟩
               all_goals first
                 | with_reducible assumption
                 | with_reducible exact pw_cell_below hB (by assumption)
                 | (simp [*]; done)))
          (first
            | (go_at_call 38; refine (uprows_any _).mono ?_; rintro e wa ⟨b, rfl, hMF, hbb, hBa⟩; have hlk := MapF.run_lookup wa 73 hMF keyI Tryd.underlying73 (zeroU wa) (keyI_of (x := 2) (by omega) (by omega)); rw [upF_2] at hlk; replace hlk : (Instr.lookup 73 (.map (some b)) (.int .i64 2) false).run Tryd.prog wa = .ok (.agg #[.func (.func 73) #[] #[]]) wa := hlk; have HBa := Aside0.mk (below_step (below_drew HB8.out) hBa); have hB := hBa)
            | (go_at_call 73; refine (HCall.out wa HBa).mono ?_; rintro e wb ⟨g, cg, rfl, hSg, hBg⟩; have hB := hBg))
        have HBb := Aside0.mk (below_step HBa.out hBg)
        have HSg := Aside0.mk (show Kd.S kNode 26 wb w.heap.size (fun _ => True) (.slice (some ⟨g, 0, none⟩) 2 cg) [⟨2, n.ints.take 3, [], [0]⟩, ⟨8, [rd n.ints 3, rd n.ints 3, rd n.ints 3], [], []⟩] from by obtain ⟨f, hf⟩ := hSg; exact ⟨f, Kd.R_lower hf HBa.out.size⟩)
        have k3b := pw_cell_below hBg (pw_cell_below hBa (show w8.drew.cell? _ = _ from k3))
        have hgw := Kd.S_lt HSg.out g rfl
        clear k1 k2 k3 hk0 hfd hSg hBg hBa hMF hbb hlk
        go_wp2_with fail
        refine (clone_int A3 c3 n.kids _ (Kd.C_below HN.out.k HBb.out) (Nat.le_trans HS.out.2.2 (by omega))).mono ?_
        rintro e wc ⟨B3, d3, rfl, hR3, hBc⟩
        have HBc := Aside0.mk (below_step HBb.out hBc)
        obtain ⟨⟨x, hx⟩, hfx, hgb, hS3⟩ := S_kids HSg.out hBc hR3 1 (by decide) HBb.out.size
        replace hx : wc.cell? ⟨g, 7, none⟩ = some x := hx
        replace hfx : wc.frozen? ⟨g, 7, none⟩ = false := hfx
        have HS3 := Aside0.mk hS3
        have HG := Aside0.mk hgb
        clear hS3 hR3 hBc k3b hgw hgb
        go_wp2
        clear hx hfx
        go_ret2
        exact ⟨some ⟨g, 0, none⟩, cg, by rw [HE.out, HUN.out]; rfl, by rw [HE.out, HUN.out]; exact HS3.out, below_set HBc.out HG.out⟩
      · have HUN : Aside0 (upN n = ([⟨3, [rd n.ints 0, rd n.ints 0, rd n.ints 0], n.texts, []⟩] : List Node).set 0 ⟨(nd [⟨3, [rd n.ints 0, rd n.ints 0, rd n.ints 0], n.texts, []⟩] 0).kind, (nd [⟨3, [rd n.ints 0, rd n.ints 0, rd n.ints 0], n.texts, []⟩] 0).ints, (nd [⟨3, [rd n.ints 0, rd n.ints 0, rd n.ints 0], n.texts, []⟩] 0).texts, n.kids⟩) := ⟨by unfold upN; rw [hk]; rfl⟩
        have HLn := Aside0.mk (HLen.out hk rfl)
        have HKn := Aside0.mk hk
        have hk0 : w8.cell? ⟨w.heap.size, 0, none⟩ = some (.int .i64 3) := by rw [← hk]; exact k0
        have hnode : Value.agg #[.int .i64 n.kind, .slice A1 n.ints.length c1, .slice A2 n.texts.length c2, .slice A3 n.kids.length c3] = .agg #[.int .i64 3, .slice A1 n.ints.length c1, .slice A2 n.texts.length c2, .slice A3 n.kids.length c3] := by rw [hk]
        have HCall := Aside0.mk (fun (wx : World) (HBa : Aside0 (Below w.heap.size w wx)) => show Calls Tryd.prog 76 #[.agg #[.int .i64 3, .slice A1 n.ints.length c1, .slice A2 n.texts.length c2, .slice A3 n.kids.length c3]] wx (RowsPost [⟨3, [rd n.ints 0, rd n.ints 0, rd n.ints 0], n.texts, []⟩] wx) from hnode ▸ (up3_any n A1 c1 A2 c2 A3 c3 wx (HN.out.below HBa.out) HS.out (pos1 HLn.out.1 (by decide))))
        have hfd := field_run 76
        clear hk k0 hnode
        go_wp2
        go_region_held3 (fun W => W.cell? ⟨w.heap.size, 0, none⟩ = some (.int .i64 3) ∧ W.cell? ⟨w.heap.size, 1, none⟩ = some (.slice A1 n.ints.length c1) ∧ W.cell? ⟨w.heap.size, 2, none⟩ = some (.slice A2 n.texts.length c2) ∧ W.cell? ⟨w.heap.size, 3, none⟩ = some (.slice A3 n.kids.length c3))
          (first
            | (go_split_ands
               refine ⟨?_, ?_, ?_, ?_⟩
               all_goals first
                 | with_reducible assumption
                 | with_reducible exact pw_cell_below hB (by assumption)
                 | (simp [*]; done)))
          (first
            | (go_at_call 38; refine (uprows_any _).mono ?_; rintro e wa ⟨b, rfl, hMF, hbb, hBa⟩; have hlk := MapF.run_lookup wa 73 hMF keyI Tryd.underlying73 (zeroU wa) (keyI_of (x := 3) (by omega) (by omega)); rw [upF_3] at hlk; replace hlk : (Instr.lookup 73 (.map (some b)) (.int .i64 3) false).run Tryd.prog wa = .ok (.agg #[.func (.func 76) #[] #[]]) wa := hlk; have HBa := Aside0.mk (below_step (below_drew HB8.out) hBa); have hB := hBa)
            | (go_at_call 76; refine (HCall.out wa HBa).mono ?_; rintro e wb ⟨g, cg, rfl, hSg, hBg⟩; have hB := hBg))
        have HBb := Aside0.mk (below_step HBa.out hBg)
        have HSg := Aside0.mk (show Kd.S kNode 26 wb w.heap.size (fun _ => True) (.slice (some ⟨g, 0, none⟩) 1 cg) [⟨3, [rd n.ints 0, rd n.ints 0, rd n.ints 0], n.texts, []⟩] from by obtain ⟨f, hf⟩ := hSg; exact ⟨f, Kd.R_lower hf HBa.out.size⟩)
        have k3b := pw_cell_below hBg (pw_cell_below hBa (show w8.drew.cell? _ = _ from k3))
        have hgw := Kd.S_lt HSg.out g rfl
        clear k1 k2 k3 hk0 hfd hSg hBg hBa hMF hbb hlk
        go_wp2_with fail
        refine (clone_int A3 c3 n.kids _ (Kd.C_below HN.out.k HBb.out) (Nat.le_trans HS.out.2.2 (by omega))).mono ?_
        rintro e wc ⟨B3, d3, rfl, hR3, hBc⟩
        have HBc := Aside0.mk (below_step HBb.out hBc)
        obtain ⟨⟨x, hx⟩, hfx, hgb, hS3⟩ := S_kids HSg.out hBc hR3 0 (by decide) HBb.out.size
        replace hx : wc.cell? ⟨g, 3, none⟩ = some x := hx
        replace hfx : wc.frozen? ⟨g, 3, none⟩ = false := hfx
        have HS3 := Aside0.mk hS3
        have HG := Aside0.mk hgb
        clear hS3 hR3 hBc k3b hgw hgb
        go_wp2
        clear hx hfx
        go_ret2
        exact ⟨some ⟨g, 0, none⟩, cg, by rw [HE.out, HUN.out]; rfl, by rw [HE.out, HUN.out]; exact HS3.out, below_set HBc.out HG.out⟩
      · have HUN : Aside0 (upN n = ([⟨4, n.ints, n.texts, []⟩] : List Node).set 0 ⟨(nd [⟨4, n.ints, n.texts, []⟩] 0).kind, (nd [⟨4, n.ints, n.texts, []⟩] 0).ints, (nd [⟨4, n.ints, n.texts, []⟩] 0).texts, n.kids⟩) := ⟨by unfold upN; rw [hk]; rfl⟩
        have HLn := Aside0.mk (HLen.out hk rfl)
        have HKn := Aside0.mk hk
        have hk0 : w8.cell? ⟨w.heap.size, 0, none⟩ = some (.int .i64 4) := by rw [← hk]; exact k0
        have hnode : Value.agg #[.int .i64 n.kind, .slice A1 n.ints.length c1, .slice A2 n.texts.length c2, .slice A3 n.kids.length c3] = .agg #[.int .i64 4, .slice A1 n.ints.length c1, .slice A2 n.texts.length c2, .slice A3 n.kids.length c3] := by rw [hk]
        have HCall := Aside0.mk (fun (wx : World) (HBa : Aside0 (Below w.heap.size w wx)) => show Calls Tryd.prog 78 #[.agg #[.int .i64 4, .slice A1 n.ints.length c1, .slice A2 n.texts.length c2, .slice A3 n.kids.length c3]] wx (RowsPost [⟨4, n.ints, n.texts, []⟩] wx) from hnode ▸ (up4_any n A1 c1 A2 c2 A3 c3 wx (HN.out.below HBa.out) HS.out))
        have hfd := field_run 78
        clear hk k0 hnode
        go_wp2
        go_region_held3 (fun W => W.cell? ⟨w.heap.size, 0, none⟩ = some (.int .i64 4) ∧ W.cell? ⟨w.heap.size, 1, none⟩ = some (.slice A1 n.ints.length c1) ∧ W.cell? ⟨w.heap.size, 2, none⟩ = some (.slice A2 n.texts.length c2) ∧ W.cell? ⟨w.heap.size, 3, none⟩ = some (.slice A3 n.kids.length c3))
          (first
            | (go_split_ands
               refine ⟨?_, ?_, ?_, ?_⟩
               all_goals first
                 | with_reducible assumption
                 | with_reducible exact pw_cell_below hB (by assumption)
                 | (simp [*]; done)))
          (first
            | (go_at_call 38; refine (uprows_any _).mono ?_; rintro e wa ⟨b, rfl, hMF, hbb, hBa⟩; have hlk := MapF.run_lookup wa 73 hMF keyI Tryd.underlying73 (zeroU wa) (keyI_of (x := 4) (by omega) (by omega)); rw [upF_4] at hlk; replace hlk : (Instr.lookup 73 (.map (some b)) (.int .i64 4) false).run Tryd.prog wa = .ok (.agg #[.func (.func 78) #[] #[]]) wa := hlk; have HBa := Aside0.mk (below_step (below_drew HB8.out) hBa); have hB := hBa)
            | (go_at_call 78; refine (HCall.out wa HBa).mono ?_; rintro e wb ⟨g, cg, rfl, hSg, hBg⟩; have hB := hBg))
        have HBb := Aside0.mk (below_step HBa.out hBg)
        have HSg := Aside0.mk (show Kd.S kNode 26 wb w.heap.size (fun _ => True) (.slice (some ⟨g, 0, none⟩) 1 cg) [⟨4, n.ints, n.texts, []⟩] from by obtain ⟨f, hf⟩ := hSg; exact ⟨f, Kd.R_lower hf HBa.out.size⟩)
        have k3b := pw_cell_below hBg (pw_cell_below hBa (show w8.drew.cell? _ = _ from k3))
        have hgw := Kd.S_lt HSg.out g rfl
        clear k1 k2 k3 hk0 hfd hSg hBg hBa hMF hbb hlk
        go_wp2_with fail
        refine (clone_int A3 c3 n.kids _ (Kd.C_below HN.out.k HBb.out) (Nat.le_trans HS.out.2.2 (by omega))).mono ?_
        rintro e wc ⟨B3, d3, rfl, hR3, hBc⟩
        have HBc := Aside0.mk (below_step HBb.out hBc)
        obtain ⟨⟨x, hx⟩, hfx, hgb, hS3⟩ := S_kids HSg.out hBc hR3 0 (by decide) HBb.out.size
        replace hx : wc.cell? ⟨g, 3, none⟩ = some x := hx
        replace hfx : wc.frozen? ⟨g, 3, none⟩ = false := hfx
        have HS3 := Aside0.mk hS3
        have HG := Aside0.mk hgb
        clear hS3 hR3 hBc k3b hgw hgb
        go_wp2
        clear hx hfx
        go_ret2
        exact ⟨some ⟨g, 0, none⟩, cg, by rw [HE.out, HUN.out]; rfl, by rw [HE.out, HUN.out]; exact HS3.out, below_set HBc.out HG.out⟩
      · have HUN : Aside0 (upN n = ([⟨5, [65536], [str n.texts 0, ⟨#[115, 97, 110, 115]⟩], []⟩] : List Node).set 0 ⟨(nd [⟨5, [65536], [str n.texts 0, ⟨#[115, 97, 110, 115]⟩], []⟩] 0).kind, (nd [⟨5, [65536], [str n.texts 0, ⟨#[115, 97, 110, 115]⟩], []⟩] 0).ints, (nd [⟨5, [65536], [str n.texts 0, ⟨#[115, 97, 110, 115]⟩], []⟩] 0).texts, n.kids⟩) := ⟨by unfold upN; rw [hk]; rfl⟩
        have HLn := Aside0.mk (HLen.out hk rfl)
        have HKn := Aside0.mk hk
        have hk0 : w8.cell? ⟨w.heap.size, 0, none⟩ = some (.int .i64 5) := by rw [← hk]; exact k0
        have hnode : Value.agg #[.int .i64 n.kind, .slice A1 n.ints.length c1, .slice A2 n.texts.length c2, .slice A3 n.kids.length c3] = .agg #[.int .i64 5, .slice A1 n.ints.length c1, .slice A2 n.texts.length c2, .slice A3 n.kids.length c3] := by rw [hk]
        have HCall := Aside0.mk (fun (wx : World) (HBa : Aside0 (Below w.heap.size w wx)) => show Calls Tryd.prog 79 #[.agg #[.int .i64 5, .slice A1 n.ints.length c1, .slice A2 n.texts.length c2, .slice A3 n.kids.length c3]] wx (RowsPost [⟨5, [65536], [str n.texts 0, ⟨#[115, 97, 110, 115]⟩], []⟩] wx) from hnode ▸ (up5_any n A1 c1 A2 c2 A3 c3 wx (HN.out.below HBa.out) (pos5 HLn.out.2)))
        have hfd := field_run 79
        clear hk k0 hnode
        go_wp2
        go_region_held3 (fun W => W.cell? ⟨w.heap.size, 0, none⟩ = some (.int .i64 5) ∧ W.cell? ⟨w.heap.size, 1, none⟩ = some (.slice A1 n.ints.length c1) ∧ W.cell? ⟨w.heap.size, 2, none⟩ = some (.slice A2 n.texts.length c2) ∧ W.cell? ⟨w.heap.size, 3, none⟩ = some (.slice A3 n.kids.length c3))
          (first
            | (go_split_ands
               refine ⟨?_, ?_, ?_, ?_⟩
               all_goals first
                 | with_reducible assumption
                 | with_reducible exact pw_cell_below hB (by assumption)
                 | (simp [*]; done)))
          (first
            | (go_at_call 38; refine (uprows_any _).mono ?_; rintro e wa ⟨b, rfl, hMF, hbb, hBa⟩; have hlk := MapF.run_lookup wa 73 hMF keyI Tryd.underlying73 (zeroU wa) (keyI_of (x := 5) (by omega) (by omega)); rw [upF_5] at hlk; replace hlk : (Instr.lookup 73 (.map (some b)) (.int .i64 5) false).run Tryd.prog wa = .ok (.agg #[.func (.func 79) #[] #[]]) wa := hlk; have HBa := Aside0.mk (below_step (below_drew HB8.out) hBa); have hB := hBa)
            | (go_at_call 79; refine (HCall.out wa HBa).mono ?_; rintro e wb ⟨g, cg, rfl, hSg, hBg⟩; have hB := hBg))
        have HBb := Aside0.mk (below_step HBa.out hBg)
        have HSg := Aside0.mk (show Kd.S kNode 26 wb w.heap.size (fun _ => True) (.slice (some ⟨g, 0, none⟩) 1 cg) [⟨5, [65536], [str n.texts 0, ⟨#[115, 97, 110, 115]⟩], []⟩] from by obtain ⟨f, hf⟩ := hSg; exact ⟨f, Kd.R_lower hf HBa.out.size⟩)
        have k3b := pw_cell_below hBg (pw_cell_below hBa (show w8.drew.cell? _ = _ from k3))
        have hgw := Kd.S_lt HSg.out g rfl
        clear k1 k2 k3 hk0 hfd hSg hBg hBa hMF hbb hlk
        go_wp2_with fail
        refine (clone_int A3 c3 n.kids _ (Kd.C_below HN.out.k HBb.out) (Nat.le_trans HS.out.2.2 (by omega))).mono ?_
        rintro e wc ⟨B3, d3, rfl, hR3, hBc⟩
        have HBc := Aside0.mk (below_step HBb.out hBc)
        obtain ⟨⟨x, hx⟩, hfx, hgb, hS3⟩ := S_kids HSg.out hBc hR3 0 (by decide) HBb.out.size
        replace hx : wc.cell? ⟨g, 3, none⟩ = some x := hx
        replace hfx : wc.frozen? ⟨g, 3, none⟩ = false := hfx
        have HS3 := Aside0.mk hS3
        have HG := Aside0.mk hgb
        clear hS3 hR3 hBc k3b hgw hgb
        go_wp2
        clear hx hfx
        go_ret2
        exact ⟨some ⟨g, 0, none⟩, cg, by rw [HE.out, HUN.out]; rfl, by rw [HE.out, HUN.out]; exact HS3.out, below_set HBc.out HG.out⟩
      · have HUN : Aside0 (upN n = ([⟨7, [rd n.ints 0, rd n.ints 0, rd n.ints 0, 1], [], []⟩] : List Node).set 0 ⟨(nd [⟨7, [rd n.ints 0, rd n.ints 0, rd n.ints 0, 1], [], []⟩] 0).kind, (nd [⟨7, [rd n.ints 0, rd n.ints 0, rd n.ints 0, 1], [], []⟩] 0).ints, (nd [⟨7, [rd n.ints 0, rd n.ints 0, rd n.ints 0, 1], [], []⟩] 0).texts, n.kids⟩) := ⟨by unfold upN; rw [hk]; rfl⟩
        have HLn := Aside0.mk (HLen.out hk rfl)
        have HKn := Aside0.mk hk
        have hk0 : w8.cell? ⟨w.heap.size, 0, none⟩ = some (.int .i64 6) := by rw [← hk]; exact k0
        have hnode : Value.agg #[.int .i64 n.kind, .slice A1 n.ints.length c1, .slice A2 n.texts.length c2, .slice A3 n.kids.length c3] = .agg #[.int .i64 6, .slice A1 n.ints.length c1, .slice A2 n.texts.length c2, .slice A3 n.kids.length c3] := by rw [hk]
        have HCall := Aside0.mk (fun (wx : World) (HBa : Aside0 (Below w.heap.size w wx)) => show Calls Tryd.prog 80 #[.agg #[.int .i64 6, .slice A1 n.ints.length c1, .slice A2 n.texts.length c2, .slice A3 n.kids.length c3]] wx (RowsPost [⟨7, [rd n.ints 0, rd n.ints 0, rd n.ints 0, 1], [], []⟩] wx) from hnode ▸ (up6_any n A1 c1 A2 c2 A3 c3 wx (HN.out.below HBa.out) (pos1 HLn.out.1 (by decide))))
        have hfd := field_run 80
        clear hk k0 hnode
        go_wp2
        go_region_held3 (fun W => W.cell? ⟨w.heap.size, 0, none⟩ = some (.int .i64 6) ∧ W.cell? ⟨w.heap.size, 1, none⟩ = some (.slice A1 n.ints.length c1) ∧ W.cell? ⟨w.heap.size, 2, none⟩ = some (.slice A2 n.texts.length c2) ∧ W.cell? ⟨w.heap.size, 3, none⟩ = some (.slice A3 n.kids.length c3))
          (first
            | (go_split_ands
               refine ⟨?_, ?_, ?_, ?_⟩
               all_goals first
                 | with_reducible assumption
                 | with_reducible exact pw_cell_below hB (by assumption)
                 | (simp [*]; done)))
          (first
            | (go_at_call 38; refine (uprows_any _).mono ?_; rintro e wa ⟨b, rfl, hMF, hbb, hBa⟩; have hlk := MapF.run_lookup wa 73 hMF keyI Tryd.underlying73 (zeroU wa) (keyI_of (x := 6) (by omega) (by omega)); rw [upF_6] at hlk; replace hlk : (Instr.lookup 73 (.map (some b)) (.int .i64 6) false).run Tryd.prog wa = .ok (.agg #[.func (.func 80) #[] #[]]) wa := hlk; have HBa := Aside0.mk (below_step (below_drew HB8.out) hBa); have hB := hBa)
            | (go_at_call 80; refine (HCall.out wa HBa).mono ?_; rintro e wb ⟨g, cg, rfl, hSg, hBg⟩; have hB := hBg))
        have HBb := Aside0.mk (below_step HBa.out hBg)
        have HSg := Aside0.mk (show Kd.S kNode 26 wb w.heap.size (fun _ => True) (.slice (some ⟨g, 0, none⟩) 1 cg) [⟨7, [rd n.ints 0, rd n.ints 0, rd n.ints 0, 1], [], []⟩] from by obtain ⟨f, hf⟩ := hSg; exact ⟨f, Kd.R_lower hf HBa.out.size⟩)
        have k3b := pw_cell_below hBg (pw_cell_below hBa (show w8.drew.cell? _ = _ from k3))
        have hgw := Kd.S_lt HSg.out g rfl
        clear k1 k2 k3 hk0 hfd hSg hBg hBa hMF hbb hlk
        go_wp2_with fail
        refine (clone_int A3 c3 n.kids _ (Kd.C_below HN.out.k HBb.out) (Nat.le_trans HS.out.2.2 (by omega))).mono ?_
        rintro e wc ⟨B3, d3, rfl, hR3, hBc⟩
        have HBc := Aside0.mk (below_step HBb.out hBc)
        obtain ⟨⟨x, hx⟩, hfx, hgb, hS3⟩ := S_kids HSg.out hBc hR3 0 (by decide) HBb.out.size
        replace hx : wc.cell? ⟨g, 3, none⟩ = some x := hx
        replace hfx : wc.frozen? ⟨g, 3, none⟩ = false := hfx
        have HS3 := Aside0.mk hS3
        have HG := Aside0.mk hgb
        clear hS3 hR3 hBc k3b hgw hgb
        go_wp2
        clear hx hfx
        go_ret2
        exact ⟨some ⟨g, 0, none⟩, cg, by rw [HE.out, HUN.out]; rfl, by rw [HE.out, HUN.out]; exact HS3.out, below_set HBc.out HG.out⟩
    · have HE := Aside0.mk (show upR n = ([], nodeErr n sp) from by unfold upR; rw [if_neg (by rw [HE2.out]; exact hz), HE2.out])
      have dz : (nodeErr n sp != 0) = true := by simpa using hz
      clear hz
      go_wp2
      go_ret2
      exact ⟨none, 0, by rw [HE.out]; rfl, by rw [HE.out]; exact Kd.S_nil _ _ _ _ _, HB8.out⟩
end Go.Proofs.YtglfebpgdghlfaaDoor.L
end
section
namespace Go.Proofs.YtglfebpgdghlfaaDoor.L
open Go.RowKit Go.ChangeShapes Go.WideShapes Go.Proofs.YtglfebpgdghlfaaDoorW.PrintWords Go.Proofs.YtglfebpgdghlfaaDoorW.PrintLast Go.Proofs.YtglfebpgdghlfaaDoorW.PrintMore
attribute [local go_sem] max2_int min2_int max_two min_two max_three min_three max_four min_four
section
open Classical in
theorem S_append_rows {P : Program} {ops : Array Oper} {rest : List Oper} {o : Oper} {a : Act} {Q : Exit → Act → World → Prop} {α : Type} (d : Kd α) {w0 W : World} (base : Nat) (hgd : o.guard = none) (s x : Operand) (t e : TypeId) (z : Value) (bytes : Nat)
    (ho : o.op = .call { callee := .builtin .append, args := #[s, x], argTypes := #[t, t] })
    (ht : P.underlying t = some (.slice e)) (hinfo : (P.info? e).map (fun i => (i.zero, i.size, i.bytes)) = some (some z, d.sz, bytes)) (hz : z.cells.size = d.sz) (hs0 : 0 < d.sz) (hb0 : 0 < bytes)
    (v : Value) (xs ys : List α) (A : Option Addr) (m c : Nat) (okx oky : Nat → Prop) (hs : a.eval s = v) (hx : a.eval x = .slice A m c)
    (HO : Kd.S d e W base okx v xs) (HY : Kd.S d e W base oky (.slice A m c) ys) (hap : ∀ k, oky k → ¬ okx k)
    (HB : Below base w0 W) (hbase : base ≤ W.heap.size) (hl : (xs.length + m) * bytes ≤ 140737488355328)
    (h : ∀ v1 w1, Kd.S d e w1 base (fun k => okx k ∨ oky k ∨ W.heap.size ≤ k) v1 (xs ++ ys) → Below base w0 w1 → W.grownBy w1 v.ownBlock → (v1.ownBlock = v.ownBlock ∨ ∃ b, v1.ownBlock = some b ∧ W.heap.size ≤ b) → wpList P ops Q rest (a.put o.dst v1) w1) :
    wpList P ops Q (o :: rest) a W := by
  obtain ⟨fx, hfx⟩ := HO
  obtain ⟨fy, hfy⟩ := HY
  let f' : Nat → Nat := fun k => if okx k then fx k else xs.length + fy k
  have h1 : (Kd.tag f' d).R e W base (fun k => okx k ∨ oky k ∨ W.heap.size ≤ k) v xs.zipIdx := Kd.R_mono (Kd.R_tag hfx (fun k hk _ => if_pos hk)) (fun k hk => .inl hk)
  obtain ⟨A', c', e', _, hrow⟩ := OwnRow.reads hfy.2
  rw [List.length_zipIdx] at e' hrow
  injection e' with eA em ec
  subst eA em ec
  have hrow2 : ReadsRow (fun (p : α × Nat) cs => xs.length ≤ p.2 ∧ (Kd.tag fy d).M W base oky (p.1, p.2 - xs.length) cs) (Kd.tag f' d).sz W A ys.length (ys.zipIdx xs.length) := by
    refine ⟨by simp, hrow.2.1, fun hp => ?_⟩
    obtain ⟨ad, ha, hc⟩ := hrow.2.2 hp
    refine ⟨ad, ha, fun j p hj => ?_⟩
    rw [List.getElem?_zipIdx] at hj
    obtain ⟨y, hy, rfl⟩ := Option.map_eq_some_iff.1 hj
    obtain ⟨cs, h1, h2, h3⟩ := hc j (y, j) (by rw [List.getElem?_zipIdx, hy, Nat.zero_add]; rfl)
    refine ⟨cs, h1, ⟨by show xs.length ≤ xs.length + j; omega, ?_⟩, h3⟩
    have : xs.length + j - xs.length = j := by omega
    show (Kd.tag fy d).M W base oky (y, xs.length + j - xs.length) cs
    rw [this]
    exact (Kd.tag fy d).M_mono (fun k hk => hk.1) h2
  refine Kd.R_append_rows (Kd.tag f' d) base hgd s x t e z bytes ho ht hinfo hz hs0 hb0 v xs.zipIdx (ys.zipIdx xs.length) A ys.length c (fun k => okx k ∨ oky k ∨ W.heap.size ≤ k) oky hs hx h1 hrow2 (fun p cs hp => ?_) (fun k hk => ⟨.inr (.inl hk), fun e => hap k hk (hfx.1 k e.symm)⟩) (fun k hk => .inr (.inr hk)) HB hbase (by rw [List.length_zipIdx]; exact hl) ?_
  · refine d.M_mono (fun k hk => ⟨hk.1, ?_⟩) (show d.M W base (fun k => oky k ∧ fy k = p.2 - xs.length) p.1 cs from hp.2)
    show (if okx k then fx k else xs.length + fy k) = p.2
    rw [if_neg (hap k hk.1), hk.2]
    have := hp.1
    omega
  · intro v1 w1 hr
    have e2 : xs.zipIdx ++ ys.zipIdx xs.length = (xs ++ ys).zipIdx := by rw [List.zipIdx_append, Nat.zero_add]
    rw [e2] at hr
    exact h v1 w1 ⟨f', hr⟩
end
end Go.Proofs.YtglfebpgdghlfaaDoor.L
end
section
namespace Go.Proofs.YtglfebpgdghlfaaDoor.L
open Go.RowKit Go.ChangeShapes Go.WideShapes Go.Proofs.YtglfebpgdghlfaaDoorW.PrintWords Go.Proofs.YtglfebpgdghlfaaDoorW.PrintLast Go.Proofs.YtglfebpgdghlfaaDoorW.PrintMore
attribute [local go_sem] max2_int min2_int max_two min_two max_three min_three max_four min_four
theorem count_sum {L : List Int} (hL : L.Nodup) : ∀ l : List Int, (L.map (fun c => l.count c)).sum = (l.filter (fun x => L.contains x)).length
  | [] => by
    rw [List.filter_nil, List.length_nil]
    have : ∀ L : List Int, (L.map (fun c => ([] : List Int).count c)).sum = 0 := fun L => by
      induction L with
      | nil => rfl
      | cons a r ih => simpa using ih
    exact this L
  | x :: l => by
    have ih := count_sum hL l
    have one : ∀ L : List Int, L.Nodup → (L.map (fun c => (x :: l).count c)).sum = (L.map (fun c => l.count c)).sum + if L.contains x then 1 else 0 := fun L => by
      induction L with
      | nil => intro _; rfl
      | cons a r ihr =>
        intro hn
        obtain ⟨h1, h2⟩ := List.nodup_cons.1 hn
        have := ihr h2
        have hc : (x :: l).count a = l.count a + if x = a then 1 else 0 := by
          rw [List.count_cons]
          by_cases h : x = a
          · simp [h]
          · simp [h]
        rw [List.map_cons, List.sum_cons, List.map_cons, List.sum_cons, this, hc]
        by_cases hax : x = a
        · subst hax
          have hr : r.contains x = false := by simpa using h1
          have hr2 : (x :: r).contains x = true := by simp
          rw [hr, hr2]
          simp
          omega
        · have e2 : (a :: r).contains x = r.contains x := by
            rw [List.contains_cons, show (x == a) = false by simpa using hax, Bool.false_or]
          rw [e2, if_neg hax]
          omega
    rw [one L hL, ih, List.filter_cons]
    by_cases h : L.contains x = true
    · rw [if_pos h, if_pos h, List.length_cons]
    · rw [if_neg h, if_neg h]; rfl
theorem all_of_count {L l : List Int} (hL : L.Nodup) (h : l.length ≤ (L.map (fun c => l.count c)).sum) : ∀ x ∈ l, x ∈ L := by
  rw [count_sum hL] at h
  have h2 : (l.filter (fun x => L.contains x)).length = l.length := Nat.le_antisymm (List.length_filter_le _ _) h
  intro x hx
  have := List.length_filter_eq_length_iff.1 h2 x hx
  simpa using this
theorem count_le {L l : List Int} (hL : L.Nodup) : (L.map (fun c => l.count c)).sum ≤ l.length := by
  rw [count_sum hL]; exact List.length_filter_le _ _
structure Topo (ns : List Node) (L : List Int) : Prop where
  nd : L.Nodup
  pl : ∀ x ∈ L, 0 ≤ x ∧ x < (ns.length : Int)
  ahead : ∀ m, m < L.length → ∀ k ∈ kids ns (rd L (m : Int)), k ∈ L.take m
  all : ∀ p : Nat, p < ns.length → (∀ k ∈ kids ns (p : Int), k ∈ L) → (p : Int) ∈ L
theorem kids_nat (ns : List Node) (p : Nat) : kids ns (p : Int) = (L.nd ns p).kids := by unfold kids; rw [Int.toNat_natCast]
def rowOf (t : List (List Int)) (c : Int) : List Int := t.getD c.toNat []
def ParsOk (ns : List Node) (t : List (List Int)) : Prop := t.length = ns.length ∧ (∀ c : Nat, c < ns.length → ∀ x ∈ rowOf t c, 0 ≤ x ∧ x < (ns.length : Int)) ∧ ∀ c p : Nat, c < ns.length → p < ns.length → (rowOf t c).count (p : Int) = (kids ns p).count (c : Int)
def done (t : List (List Int)) (out : List Int) (i j : Nat) : List Int := (out.take i).flatMap (rowOf t) ++ (rowOf t (rd out (i : Int))).take j
structure OInv (ns : List Node) (t : List (List Int)) (op out : List Int) (i j : Nat) : Prop where
  nd : out.Nodup
  pl : ∀ x ∈ out, 0 ≤ x ∧ x < (ns.length : Int)
  len : op.length = ns.length
  op : ∀ p : Nat, p < ns.length → rd op (p : Int) = ((kids ns p).length : Int) - ((done t out i j).count (p : Int) : Int)
  mem : ∀ p : Nat, p < ns.length → ((p : Int) ∈ out ↔ (done t out i j).count (p : Int) = (kids ns p).length)
  ahead : ∀ m, m < out.length → ∀ k ∈ kids ns (rd out (m : Int)), k ∈ out.take m
theorem count_flatMap {ns : List Node} {t : List (List Int)} (ht : ParsOk ns t) {p : Nat} (hp : p < ns.length) : ∀ L : List Int, (∀ x ∈ L, 0 ≤ x ∧ x < (ns.length : Int)) → (L.flatMap (rowOf t)).count (p : Int) = (L.map (fun c => (kids ns p).count c)).sum
  | [], _ => rfl
  | c :: L, h => by
    rw [List.flatMap_cons, List.count_append, List.map_cons, List.sum_cons, count_flatMap ht hp L (fun x hx => h x (by simp [hx]))]
    have hc := h c (by simp)
    have := ht.2.2 c.toNat p (by omega) hp
    rw [Int.toNat_of_nonneg hc.1] at this
    rw [this]
theorem rd_mem {l : List Int} {i : Nat} (h : i < l.length) : rd l (i : Int) ∈ l := by rw [rd_eq h]; exact List.getElem_mem h
theorem OInv.next_le {ns : List Node} {t : List (List Int)} {op out : List Int} {i j p : Nat} (ht : ParsOk ns t) (h : OInv ns t op out i j) (hi : i < out.length) (hj : j < (rowOf t (rd out (i : Int))).length) (hp : rd (rowOf t (rd out (i : Int))) (j : Int) = (p : Int)) (hpn : p < ns.length) :
    (done t out i j).count (p : Int) + 1 ≤ ((out.take (i + 1)).map (fun c => (kids ns p).count c)).sum ∧ ((out.take (i + 1)).map (fun c => (kids ns p).count c)).sum ≤ (kids ns p).length := by
  have hnd : (out.take (i + 1)).Nodup := h.nd.sublist (List.take_sublist _ _)
  refine ⟨?_, count_le hnd⟩
  have hpl : ∀ x ∈ out.take (i + 1), 0 ≤ x ∧ x < (ns.length : Int) := fun x hx => h.pl x (List.mem_of_mem_take hx)
  rw [← count_flatMap ht hpn _ hpl]
  rw [take_succ_rd hi, List.flatMap_append, List.flatMap_singleton]
  unfold done
  rw [List.count_append, List.count_append, Nat.add_assoc]
  apply Nat.add_le_add_left
  have e : rowOf t (rd out (i : Int)) = (rowOf t (rd out (i : Int))).take (j + 1) ++ (rowOf t (rd out (i : Int))).drop (j + 1) := (List.take_append_drop _ _).symm
  rw [e, List.count_append, ← e, take_succ_rd hj, List.count_append, hp]
  simp
theorem done_succ {t : List (List Int)} {out : List Int} {i j : Nat} (hj : j < (rowOf t (rd out (i : Int))).length) : done t out i (j + 1) = done t out i j ++ [rd (rowOf t (rd out (i : Int))) (j : Int)] := by
  unfold done
  rw [take_succ_rd hj, List.append_assoc]
theorem done_push {t : List (List Int)} {out : List Int} {i j : Nat} (hi : i < out.length) (x : Int) : done t (out ++ [x]) i j = done t out i j := by
  unfold done
  rw [List.take_append_of_le_length (by omega)]
  have : rd (out ++ [x]) (i : Int) = rd out (i : Int) := by
    unfold rd
    rw [Int.toNat_natCast, List.getD_eq_getElem?_getD, List.getD_eq_getElem?_getD, List.getElem?_append_left hi]
  rw [this]
theorem done_row {t : List (List Int)} {out : List Int} {i : Nat} (hi : i < out.length) : done t out i (rowOf t (rd out (i : Int))).length = done t out (i + 1) 0 := by
  unfold done
  rw [List.take_length, List.take_zero, List.append_nil, take_succ_rd hi, List.flatMap_append, List.flatMap_singleton]
theorem count_snoc (l : List Int) (x y : Int) : (l ++ [x]).count y = l.count y + if x = y then 1 else 0 := by
  rw [List.count_append, List.count_singleton]
  by_cases h : x = y
  · simp [h]
  · simp [h]
theorem OInv.strike {ns : List Node} {t : List (List Int)} {op out : List Int} {i j p : Nat} (ht : ParsOk ns t) (h : OInv ns t op out i j) (hi : i < out.length) (hj : j < (rowOf t (rd out (i : Int))).length) (hp : rd (rowOf t (rd out (i : Int))) (j : Int) = (p : Int)) (hpn : p < ns.length)
    (hne : ¬ rd op (p : Int) - 1 = 0) : OInv ns t (op.set p (rd op (p : Int) - 1)) out i (j + 1) := by
  have hb := h.next_le ht hi hj hp hpn
  have hop := h.op p hpn
  refine ⟨h.nd, h.pl, by simpa using h.len, fun q hq => ?_, fun q hq => ?_, h.ahead⟩
  · rw [done_succ hj, hp, count_snoc, rd_set _ _ _ _ (by rw [h.len]; omega)]
    by_cases e : q = p
    · subst e; rw [if_pos rfl, if_pos rfl, hop]; omega
    · rw [if_neg e, if_neg (by omega), h.op q hq]; omega
  · rw [done_succ hj, hp, count_snoc, h.mem q hq]
    by_cases e : q = p
    · subst e; rw [if_pos rfl]; omega
    · rw [if_neg (by omega)]; omega
theorem OInv.free {ns : List Node} {t : List (List Int)} {op out : List Int} {i j p : Nat} (ht : ParsOk ns t) (h : OInv ns t op out i j) (hi : i < out.length) (hj : j < (rowOf t (rd out (i : Int))).length) (hp : rd (rowOf t (rd out (i : Int))) (j : Int) = (p : Int)) (hpn : p < ns.length)
    (hz : rd op (p : Int) - 1 = 0) : OInv ns t (op.set p (rd op (p : Int) - 1)) (out ++ [(p : Int)]) i (j + 1) := by
  have hb := h.next_le ht hi hj hp hpn
  have hop := h.op p hpn
  have hnot : ¬ (p : Int) ∈ out := fun hm => by have := (h.mem p hpn).1 hm; omega
  have hrd : rd (out ++ [(p : Int)]) (i : Int) = rd out (i : Int) := by
    unfold rd
    rw [Int.toNat_natCast, List.getD_eq_getElem?_getD, List.getD_eq_getElem?_getD, List.getElem?_append_left hi]
  have hd : done t (out ++ [(p : Int)]) i (j + 1) = done t out i j ++ [(p : Int)] := by rw [done_push hi, done_succ hj, hp]
  refine ⟨?_, fun x hx => ?_, by simpa using h.len, fun q hq => ?_, fun q hq => ?_, fun m hm k hk => ?_⟩
  · exact List.nodup_append.2 ⟨h.nd, by simp, fun a ha b hb e => by rw [List.mem_singleton.1 hb] at e; exact hnot (e ▸ ha)⟩
  · rcases List.mem_append.1 hx with hx | hx
    · exact h.pl x hx
    · rw [List.mem_singleton.1 hx]; omega
  · rw [hd, count_snoc, rd_set _ _ _ _ (by rw [h.len]; omega)]
    by_cases e : q = p
    · subst e; rw [if_pos rfl, if_pos rfl, hop]; omega
    · rw [if_neg e, if_neg (by omega), h.op q hq]; omega
  · rw [hd, count_snoc, List.mem_append, h.mem q hq]
    by_cases e : q = p
    · subst e; rw [if_pos rfl]
      exact ⟨fun _ => by omega, fun _ => .inr (by simp)⟩
    · rw [if_neg (by omega)]
      refine ⟨fun h' => ?_, fun h' => .inl (by omega)⟩
      rcases h' with h' | h'
      · omega
      · have := List.mem_singleton.1 h'; omega
  · rw [List.length_append, List.length_singleton] at hm
    rcases Nat.lt_or_ge m out.length with hlt | hge
    · have e : rd (out ++ [(p : Int)]) (m : Int) = rd out (m : Int) := by
        unfold rd
        rw [Int.toNat_natCast, List.getD_eq_getElem?_getD, List.getD_eq_getElem?_getD, List.getElem?_append_left hlt]
      rw [e] at hk
      rw [List.take_append_of_le_length (by omega)]
      exact h.ahead m hlt k hk
    · obtain rfl : m = out.length := by omega
      have e : rd (out ++ [(p : Int)]) (out.length : Int) = (p : Int) := by simp [rd]
      rw [e] at hk
      rw [List.take_left']
      · exact List.mem_of_mem_take (all_of_count (h.nd.sublist (List.take_sublist (i + 1) _)) (by omega) k hk)
      · rfl
theorem OInv.row {ns : List Node} {t : List (List Int)} {op out : List Int} {i : Nat} (h : OInv ns t op out i (rowOf t (rd out (i : Int))).length) (hi : i < out.length) : OInv ns t op out (i + 1) 0 :=
  ⟨h.nd, h.pl, h.len, fun p hp => by rw [← done_row hi]; exact h.op p hp, fun p hp => by rw [← done_row hi]; exact h.mem p hp, h.ahead⟩
theorem OInv.topo {ns : List Node} {t : List (List Int)} {op out : List Int} {i : Nat} (ht : ParsOk ns t) (h : OInv ns t op out i 0) (hi : out.length ≤ i) : Topo ns out := by
  refine ⟨h.nd, h.pl, h.ahead, fun p hp hk => (h.mem p hp).2 ?_⟩
  unfold done
  rw [List.take_of_length_le hi, List.take_zero, List.append_nil, count_flatMap ht hp _ h.pl, count_sum h.nd]
  apply List.length_filter_eq_length_iff.2
  intro x hx
  simpa using hk x hx
end Go.Proofs.YtglfebpgdghlfaaDoor.L
end
section
namespace Go.Proofs.YtglfebpgdghlfaaDoor.L
open Go.RowKit Go.ChangeShapes Go.WideShapes Go.Proofs.YtglfebpgdghlfaaDoorW.PrintWords Go.Proofs.YtglfebpgdghlfaaDoorW.PrintLast Go.Proofs.YtglfebpgdghlfaaDoorW.PrintMore
attribute [local go_sem] max2_int min2_int max_two min_two max_three min_three max_four min_four
theorem rowOf_nat (t : List (List Int)) (k : Nat) : rowOf t (k : Int) = row t k := by unfold rowOf row; rw [Int.toNat_natCast]
def leaves (ns : List Node) (i : Nat) : List Int := ((List.range i).filter (fun p : Nat => decide ((kids ns (p : Int)).length = 0))).map (fun p : Nat => (p : Int))
def pre (ns : List Node) (i : Nat) : Nat := ((List.range i).map (wt ns)).sum
theorem pre_succ (ns : List Node) (i : Nat) : pre ns (i + 1) = pre ns i + wt ns i := by unfold pre; rw [List.range_succ, List.map_append, List.sum_append]; simp
theorem pre_le {ns : List Node} {i : Nat} (h : i ≤ ns.length) : pre ns i ≤ rows ns := by
  have : ∀ d, pre ns i ≤ pre ns (i + d) := fun d => by
    induction d with
    | zero => exact Nat.le_refl _
    | succ d ih => rw [← Nat.add_assoc, pre_succ]; omega
  have := this (ns.length - i)
  rw [show i + (ns.length - i) = ns.length by omega] at this
  exact this
theorem leaves_mem {ns : List Node} {i : Nat} {x : Int} : x ∈ leaves ns i ↔ ∃ p : Nat, x = (p : Int) ∧ p < i ∧ (kids ns (p : Int)).length = 0 := by
  unfold leaves
  simp only [List.mem_map, List.mem_filter, List.mem_range, decide_eq_true_eq]
  exact ⟨fun ⟨p, h, e⟩ => ⟨p, e.symm, h⟩, fun ⟨p, e, h⟩ => ⟨p, h, e.symm⟩⟩
theorem leaves_succ_yes {ns : List Node} {i : Nat} (h : (kids ns (i : Int)).length = 0) : leaves ns (i + 1) = leaves ns i ++ [(i : Int)] := by
  unfold leaves
  rw [List.range_succ, List.filter_append, List.map_append, List.filter_cons, if_pos (decide_eq_true h)]
  rfl
theorem leaves_succ_no {ns : List Node} {i : Nat} (h : ¬ (kids ns (i : Int)).length = 0) : leaves ns (i + 1) = leaves ns i := by
  unfold leaves
  rw [List.range_succ, List.filter_append, List.map_append, List.filter_cons, if_neg (by rw [decide_eq_false h]; simp)]
  simp
theorem leaves_nodup (ns : List Node) (i : Nat) : (leaves ns i).Nodup := by
  unfold leaves
  refine List.Pairwise.map _ ?_ (List.Pairwise.filter _ List.nodup_range)
  intro a b hab h
  exact hab (by omega)
theorem leaves_len (ns : List Node) (i : Nat) : (leaves ns i).length ≤ i := by
  unfold leaves
  rw [List.length_map]
  exact Nat.le_trans (List.length_filter_le _ _) (by simp)
structure PInv (ns : List Node) (t : List (List Int)) (op : List Int) (i j b : Nat) : Prop where
  tl : t.length = ns.length
  ol : op.length = ns.length
  mem : ∀ c : Nat, c < ns.length → ∀ x ∈ row t c, 0 ≤ x ∧ x < (ns.length : Int)
  cnt : ∀ c p : Nat, c < ns.length → p < ns.length → (row t c).count (p : Int) = if p < i then (kids ns p).count (c : Int) else if p = i then ((kids ns i).take j).count (c : Int) else 0
  op : ∀ p : Nat, p < b → p < ns.length → rd op (p : Int) = ((kids ns p).length : Int)
  len : ∀ c : Nat, c < ns.length → (row t c).length ≤ pre ns i + j
theorem row_repl (n k : Nat) : row (List.replicate n []) k = [] := by
  unfold row
  rw [List.getD_eq_getElem?_getD, List.getElem?_replicate]
  split <;> rfl
theorem PInv.start (ns : List Node) : PInv ns (List.replicate ns.length []) (List.replicate ns.length 0) 0 0 0 where
  tl := by simp
  ol := by simp
  mem := fun c _ x hx => by rw [row_repl] at hx; simp at hx
  cnt := fun c p _ _ => by
    rw [row_repl, if_neg (by omega)]
    split <;> rfl
  op := fun p h => by omega
  len := fun c _ => by rw [row_repl]; simp
theorem PInv.count {ns : List Node} {t : List (List Int)} {op : List Int} {i : Nat} (h : PInv ns t op i 0 i) (hi : i < ns.length) : PInv ns t (op.set i ((kids ns i).length : Int)) i 0 (i + 1) where
  tl := h.tl
  ol := by simpa using h.ol
  mem := h.mem
  cnt := h.cnt
  op := fun p hp hpn => by
    rw [rd_set _ _ _ _ (by rw [h.ol]; exact hi)]
    by_cases e : p = i
    · subst e; rw [if_pos rfl]
    · rw [if_neg e]; exact h.op p (by omega) hpn
  len := h.len
theorem PInv.edge {ns : List Node} {t : List (List Int)} {op : List Int} {i j k : Nat} (h : PInv ns t op i j (i + 1)) (hi : i < ns.length) (hj : j < (kids ns i).length) (hk : rd (kids ns i) (j : Int) = (k : Int)) (hkn : k < ns.length) : PInv ns (t.set k (row t k ++ [(i : Int)])) op i (j + 1) (i + 1) where
  tl := by simpa using h.tl
  ol := h.ol
  mem := fun c hc x hx => by
    rw [row_set (by rw [h.tl]; exact hkn)] at hx
    by_cases e : c = k
    · rw [if_pos e] at hx
      rcases List.mem_append.1 hx with hx | hx
      · exact h.mem k hkn x hx
      · rw [List.mem_singleton.1 hx]; omega
    · rw [if_neg e] at hx
      exact h.mem c hc x hx
  cnt := fun c p hc hp => by
    have h0 := h.cnt c p hc hp
    rw [row_set (by rw [h.tl]; exact hkn), take_succ_rd hj, count_snoc, hk]
    by_cases e : c = k
    · subst e
      rw [if_pos rfl, count_snoc, h0, if_pos (show ((c : Int) = (c : Int)) from rfl)]
      by_cases h1 : p < i
      · rw [if_pos h1, if_pos h1, if_neg (by omega)]; rfl
      · rw [if_neg h1, if_neg h1]
        by_cases h2 : p = i
        · rw [if_pos h2, if_pos h2, if_pos (by omega)]
        · rw [if_neg h2, if_neg h2, if_neg (by omega)]
    · rw [if_neg e, h0, if_neg (show ¬ ((k : Int) = (c : Int)) by omega)]
      rfl
  op := h.op
  len := fun c hc => by
    rw [row_set (by rw [h.tl]; exact hkn)]
    have h1 := h.len c hc
    by_cases e : c = k
    · subst e; rw [if_pos rfl, List.length_append, List.length_singleton]; omega
    · rw [if_neg e]; omega
theorem PInv.node {ns : List Node} {t : List (List Int)} {op : List Int} {i : Nat} (h : PInv ns t op i (kids ns i).length (i + 1)) : PInv ns t op (i + 1) 0 (i + 1) where
  tl := h.tl
  ol := h.ol
  mem := h.mem
  cnt := fun c p hc hp => by
    rw [h.cnt c p hc hp, List.take_zero, List.take_length]
    by_cases h1 : p < i
    · rw [if_pos h1, if_pos (by omega)]
    · rw [if_neg h1]
      by_cases h2 : p = i
      · subst h2; rw [if_pos rfl, if_pos (by omega)]
      · rw [if_neg h2, if_neg (by omega)]
        split <;> rfl
  op := h.op
  len := fun c hc => by
    have := h.len c hc
    rw [pre_succ, wt]
    have e : kids ns (i : Int) = (nd ns i).kids := by unfold kids; rw [Int.toNat_natCast]
    rw [e] at this
    omega
theorem PInv.pars {ns : List Node} {t : List (List Int)} {op : List Int} (h : PInv ns t op ns.length 0 ns.length) : ParsOk ns t := by
  refine ⟨h.tl, fun c hc x hx => ?_, fun c p hc hp => ?_⟩
  · rw [rowOf_nat] at hx; exact h.mem c hc x hx
  · rw [rowOf_nat, h.cnt c p hc hp, if_pos hp]
theorem PInv.ends {ns : List Node} {t : List (List Int)} {op : List Int} (h : PInv ns t op ns.length 0 ns.length) : OInv ns t op (leaves ns ns.length) 0 0 := by
  have e0 : done t (leaves ns ns.length) 0 0 = [] := by unfold done; rw [List.take_zero, List.take_zero]; rfl
  refine ⟨leaves_nodup _ _, fun x hx => ?_, h.ol, fun p hp => ?_, fun p hp => ?_, fun m hm k hk => ?_⟩
  · obtain ⟨p, rfl, hp, _⟩ := leaves_mem.1 hx; omega
  · rw [e0, h.op p hp hp]; simp
  · rw [e0]
    refine ⟨fun hm => ?_, fun he => leaves_mem.2 ⟨p, rfl, hp, by simpa using he.symm⟩⟩
    obtain ⟨q, hq, _, h0⟩ := leaves_mem.1 hm
    rw [hq, h0]; rfl
  · obtain ⟨p, hp, _, h0⟩ := leaves_mem.1 (rd_mem hm)
    rw [hp, List.eq_nil_of_length_eq_zero h0] at hk
    simp at hk
end Go.Proofs.YtglfebpgdghlfaaDoor.L
end
section
namespace Go.Proofs.YtglfebpgdghlfaaDoor.L
open Go.RowKit Go.ChangeShapes Go.WideShapes Go.Proofs.YtglfebpgdghlfaaDoorW.PrintWords Go.Proofs.YtglfebpgdghlfaaDoorW.PrintLast Go.Proofs.YtglfebpgdghlfaaDoorW.PrintMore
attribute [local go_sem] max2_int min2_int max_two min_two max_three min_three max_four min_four
def Cyc (ns : List Node) (i : Int) : Prop := Rch ns (kids ns i) i
theorem Topo.reach {ns : List Node} {L : List Int} (h : Topo ns L) {m : Nat} (hm : m < L.length) {x : Int} (hr : Rch ns (kids ns (rd L (m : Int))) x) : x ∈ L.take m := by
  induction hr with
  | base hk => exact h.ahead m hm _ hk
  | step _ hk ih =>
    obtain ⟨j, hj, rfl⟩ := List.getElem_of_mem ih
    have hj' : j < m ∧ j < L.length := by rw [List.length_take] at hj; omega
    have e : (L.take m)[j] = rd L (j : Int) := by rw [List.getElem_take, rd_eq hj'.2]
    rw [e] at hk
    have := h.ahead j hj'.2 _ hk
    have e2 : L.take j = (L.take m).take j := by rw [List.take_take, Nat.min_eq_left (by omega)]
    rw [e2] at this
    exact List.mem_of_mem_take this
theorem Topo.acyclic {ns : List Node} {L : List Int} (h : Topo ns L) (hl : ∀ p : Nat, p < ns.length → (p : Int) ∈ L) (p : Nat) (hp : p < ns.length) : ¬ Cyc ns p := by
  intro hc
  obtain ⟨m, hm, e⟩ := List.getElem_of_mem (hl p hp)
  have e' : rd L (m : Int) = (p : Int) := by rw [rd_eq hm, e]
  have := h.reach hm (by rw [e']; exact hc)
  obtain ⟨j, hj, e2⟩ := List.getElem_of_mem this
  rw [List.length_take] at hj
  rw [List.getElem_take] at e2
  exact (List.pairwise_iff_getElem.1 h.nd) j m (by omega) hm (by omega) (e2.trans e.symm)
open Classical in
noncomputable def reachN (ns : List Node) (p : Int) : Nat := ((List.range ns.length).filter (fun x : Nat => decide (Rch ns (kids ns p) (x : Int)))).length
theorem filter_lt {p q : Nat → Bool} (x : Nat) : ∀ l : List Nat, (∀ y, p y = true → q y = true) → x ∈ l → p x = false → q x = true → (l.filter p).length < (l.filter q).length
  | [], _, h, _, _ => by simp at h
  | y :: r, hpq, h, hp, hq => by
    have hle : ∀ l : List Nat, (l.filter p).length ≤ (l.filter q).length := fun l => by
      induction l with
      | nil => exact Nat.le_refl _
      | cons a r ih =>
        rw [List.filter_cons, List.filter_cons]
        cases hpa : p a
        · cases q a <;> simp <;> omega
        · rw [hpq a hpa]; simp; exact ih
    by_cases e : y = x
    · subst e
      rw [List.filter_cons, List.filter_cons, hp, hq]
      simp
      have := hle r
      omega
    · have hx : x ∈ r := by
        rcases List.mem_cons.1 h with h | h
        · exact absurd h.symm e
        · exact h
      have ih := filter_lt x r hpq hx hp hq
      rw [List.filter_cons, List.filter_cons]
      cases hpa : p y
      · cases q y <;> simp <;> omega
      · rw [hpq y hpa]; simp; exact ih
theorem Rch.trans {ns : List Node} {l : List Int} {k x : Int} (hk : Rch ns l k) (h : Rch ns (kids ns k) x) : Rch ns l x := by
  induction h with
  | base h => exact .step hk h
  | step _ h ih => exact .step ih h
open Classical in
theorem Topo.cyclic {ns : List Node} {L : List Int} (hP : Places ns) (h : Topo ns L) (hc : ∀ p : Nat, p < ns.length → ¬ Cyc ns p) (p : Nat) (hp : p < ns.length) : (p : Int) ∈ L := by
  have key : ∀ N (p : Nat), reachN ns p < N → p < ns.length → ¬ (p : Int) ∈ L → False := fun N => by
    induction N with
    | zero => intro p h; omega
    | succ N ih =>
      intro p hN hp hnot
      have : ∃ k ∈ kids ns (p : Int), ¬ k ∈ L := by
        apply Classical.byContradiction
        intro hno
        exact hnot (h.all p hp (fun k hk => Classical.byContradiction fun hkl => hno ⟨k, hk, hkl⟩))
      obtain ⟨k, hk, hkl⟩ := this
      have hpl := hP p hp k (by rw [← kids_nat]; exact hk)
      obtain ⟨q, rfl⟩ : ∃ q : Nat, k = (q : Int) := ⟨k.toNat, by omega⟩
      refine ih q ?_ (by omega) hkl
      have : reachN ns q < reachN ns p := by
        unfold reachN
        refine filter_lt q _ (fun y hy => ?_) (List.mem_range.2 (by omega)) ?_ ?_
        · exact decide_eq_true (Rch.trans (.base hk) (of_decide_eq_true hy))
        · exact decide_eq_false (hc q (by omega))
        · exact decide_eq_true (.base hk)
      omega
  exact Classical.byContradiction fun hnot => key _ p (Nat.lt_succ_self _) hp hnot
open Classical in
noncomputable def firstP (p : Nat → Prop) : Nat → Nat → Int
  | 0, _ => -1
  | f + 1, i => if p i then (i : Int) else firstP p f (i + 1)
theorem firstP_at {p : Nat → Prop} : ∀ (f i k : Nat), k < f → (∀ j, j < k → ¬ p (i + j)) → p (i + k) → firstP p f i = ((i + k : Nat) : Int)
  | 0, _, _, h, _, _ => by omega
  | f + 1, i, 0, _, _, hp => by unfold firstP; rw [if_pos (by simpa using hp)]; rfl
  | f + 1, i, k + 1, h, hn, hp => by
    unfold firstP
    rw [if_neg (by simpa using hn 0 (by omega)), firstP_at f (i + 1) k (by omega) (fun j hj => by have := hn (j + 1) (by omega); rwa [show i + (j + 1) = i + 1 + j by omega] at this) (by rwa [show i + (k + 1) = i + 1 + k by omega] at hp)]
    congr 1
    omega
theorem firstP_no {p : Nat → Prop} : ∀ (f i : Nat), (∀ j, j < f → ¬ p (i + j)) → firstP p f i = -1
  | 0, _, _ => rfl
  | f + 1, i, hn => by
    unfold firstP
    rw [if_neg (by simpa using hn 0 (by omega))]
    exact firstP_no f (i + 1) (fun j hj => by have := hn (j + 1) (by omega); rwa [show i + (j + 1) = i + 1 + j by omega] at this)
noncomputable def cycAt (ns : List Node) : Int := firstP (fun i => Cyc ns (i : Int)) ns.length 0
noncomputable def looseAt (s : Scene) : Int := firstP (fun i => ¬ Rch s.nodes [s.root] (i : Int)) s.nodes.length 0
noncomputable def gcheck (s : Scene) : Int × Int :=
  if s.root < 0 ∨ (s.nodes.length : Int) ≤ s.root then (13, -1) else if 0 ≤ refsAt s.nodes then (13, refsAt s.nodes)
  else if 0 ≤ cycAt s.nodes then (14, cycAt s.nodes) else if 0 ≤ looseAt s then (15, looseAt s) else (0, 0)
structure Right (s : Scene) : Prop where
  r0 : 0 ≤ s.root
  r1 : s.root < s.nodes.length
  pl : Places s.nodes
  cyc : ∀ p : Nat, p < s.nodes.length → ¬ Cyc s.nodes p
  all : ∀ p : Nat, p < s.nodes.length → Rch s.nodes [s.root] (p : Int)
theorem refsAt_lt (l : List Node) : refsAt l = -1 ∨ 0 ≤ refsAt l := by
  unfold refsAt
  have : ∀ (N : Nat) (l : List Node) (i : Nat), refsFrom N l i = -1 ∨ 0 ≤ refsFrom N l i := fun N l => by
    induction l with
    | nil => intro i; exact .inl rfl
    | cons n r ih =>
      intro i
      unfold refsFrom
      split
      · exact .inr (by omega)
      · exact ih _
  exact this _ _ _
theorem firstP_neg {p : Nat → Prop} : ∀ (f i : Nat), firstP p f i < 0 → ∀ j, j < f → ¬ p (i + j)
  | 0, _, _, j, hj => by omega
  | f + 1, i, h, j, hj => by
    unfold firstP at h
    by_cases hp : p i
    · rw [if_pos hp] at h; omega
    · rw [if_neg hp] at h
      cases j with
      | zero => simpa using hp
      | succ j =>
        have := firstP_neg f (i + 1) h j (by omega)
        rwa [show i + (j + 1) = i + 1 + j by omega]
theorem Places.refs {ns : List Node} (h : Places ns) : refsAt ns = -1 := by
  unfold refsAt
  refine refsFrom_no ns 0 (fun j hj => ?_)
  refine decide_eq_false (fun ⟨q, hq, hb⟩ => ?_)
  have := h j hj _ (rd_mem hq)
  unfold noPlace at hb
  simp at hb
  omega
theorem gcheck_right {s : Scene} : (gcheck s).1 = 0 ↔ Right s := by
  unfold gcheck
  constructor
  · intro h
    by_cases h1 : s.root < 0 ∨ (s.nodes.length : Int) ≤ s.root
    · rw [if_pos h1] at h; simp at h
    · rw [if_neg h1] at h
      by_cases h2 : 0 ≤ refsAt s.nodes
      · rw [if_pos h2] at h; simp at h
      · rw [if_neg h2] at h
        by_cases h3 : 0 ≤ cycAt s.nodes
        · rw [if_pos h3] at h; simp at h
        · rw [if_neg h3] at h
          by_cases h4 : 0 ≤ looseAt s
          · rw [if_pos h4] at h; simp at h
          · refine ⟨by omega, by omega, Places.of_refs ((refsAt_lt _).resolve_right h2), fun p hp => ?_, fun p hp => ?_⟩
            · have := firstP_neg _ _ (show firstP (fun i => Cyc s.nodes (i : Int)) s.nodes.length 0 < 0 from by unfold cycAt at h3; omega) p hp
              simpa using this
            · have := firstP_neg _ _ (show firstP (fun i => ¬ Rch s.nodes [s.root] (i : Int)) s.nodes.length 0 < 0 from by unfold looseAt at h4; omega) p hp
              have := Classical.not_not.1 this
              simpa using this
  · intro h
    have h0 := h.r0
    have h1 := h.r1
    rw [if_neg (by omega), if_neg (by rw [h.pl.refs]; omega)]
    rw [if_neg (by unfold cycAt; rw [firstP_no _ _ (fun j hj => by simpa using h.cyc j hj)]; omega)]
    rw [if_neg (by unfold looseAt; rw [firstP_no _ _ (fun j hj => by simpa using h.all j hj)]; omega)]
theorem gcheck_zero {s : Scene} (h : Right s) : gcheck s = (0, 0) := by
  have h0 := h.r0
  have h1 := h.r1
  unfold gcheck
  rw [if_neg (by omega), if_neg (by rw [h.pl.refs]; omega)]
  rw [if_neg (by unfold cycAt; rw [firstP_no _ _ (fun j hj => by simpa using h.cyc j hj)]; omega)]
  rw [if_neg (by unfold looseAt; rw [firstP_no _ _ (fun j hj => by simpa using h.all j hj)]; omega)]
end Go.Proofs.YtglfebpgdghlfaaDoor.L
end
section
namespace Go.Proofs.YtglfebpgdghlfaaDoor.L
open Go.RowKit Go.ChangeShapes Go.WideShapes Go.Proofs.YtglfebpgdghlfaaDoorW.PrintWords Go.Proofs.YtglfebpgdghlfaaDoorW.PrintLast Go.Proofs.YtglfebpgdghlfaaDoorW.PrintMore
attribute [local go_sem] max2_int min2_int max_two min_two max_three min_three max_four min_four
def meet (ns : List Node) : Nat → Int → List Int → List Int
  | 0, _, met => met
  | f + 1, a, met => if a ∈ met then met else (kids ns a).foldl (fun m k => meet ns f k m) met ++ [a]
structure Dag (ns : List Node) : Prop where
  pl : Places ns
  cyc : ∀ p : Nat, p < ns.length → ¬ Cyc ns p
theorem Right.dag {s : Scene} (h : Right s) : Dag s.nodes := ⟨h.pl, h.cyc⟩
def Pl (ns : List Node) (x : Int) : Prop := 0 ≤ x ∧ x < (ns.length : Int)
theorem Dag.kid {ns : List Node} (h : Dag ns) {p k : Int} (hp : Pl ns p) (hk : k ∈ kids ns p) : Pl ns k := h.pl p.toNat (by have := hp.1; have := hp.2; omega) k hk
open Classical in
theorem Dag.lower {ns : List Node} (h : Dag ns) {p k : Int} (hp : Pl ns p) (hk : k ∈ kids ns p) : reachN ns k < reachN ns p := by
  have hkp := h.kid hp hk
  obtain ⟨q, rfl⟩ : ∃ q : Nat, k = (q : Int) := ⟨k.toNat, by have := hkp.1; omega⟩
  unfold reachN
  refine filter_lt q _ (fun y hy => ?_) (List.mem_range.2 (by have := hkp.2; omega)) ?_ ?_
  · exact decide_eq_true (Rch.trans (.base hk) (of_decide_eq_true hy))
  · exact decide_eq_false (h.cyc q (by have := hkp.2; omega))
  · exact decide_eq_true (.base hk)
open Classical in
theorem reachN_le (ns : List Node) (p : Int) : reachN ns p ≤ ns.length := by
  unfold reachN
  exact Nat.le_trans (List.length_filter_le _ _) (by simp)
theorem foldl_congr {α β : Type} {f g : β → α → β} : ∀ (l : List α) (b : β), (∀ x ∈ l, ∀ b, f b x = g b x) → l.foldl f b = l.foldl g b
  | [], _, _ => rfl
  | x :: l, b, h => by rw [List.foldl_cons, List.foldl_cons, h x (by simp)]; exact foldl_congr l _ (fun y hy => h y (by simp [hy]))
theorem meet_fuel {ns : List Node} (h : Dag ns) : ∀ (f g : Nat) (a : Int) (met : List Int), Pl ns a → reachN ns a < f → reachN ns a < g → meet ns f a met = meet ns g a met
  | 0, _, _, _, _, hf, _ => by omega
  | f + 1, 0, _, _, _, _, hg => by omega
  | f + 1, g + 1, a, met, ha, hf, hg => by
    unfold meet
    split
    · rfl
    · congr 1
      exact foldl_congr _ _ (fun k hk b => meet_fuel h f g k b (h.kid ha hk) (by have := h.lower ha hk; omega) (by have := h.lower ha hk; omega))
def M (ns : List Node) (a : Int) (met : List Int) : List Int := meet ns (ns.length + 1) a met
def ML (ns : List Node) (l : List Int) (met : List Int) : List Int := l.foldl (fun m k => M ns k m) met
theorem M_eq {ns : List Node} (h : Dag ns) {a : Int} (ha : Pl ns a) (met : List Int) : M ns a met = if a ∈ met then met else ML ns (kids ns a) met ++ [a] := by
  unfold M
  conv => lhs; unfold meet
  split
  · rfl
  · congr 1
    refine foldl_congr _ _ (fun k hk b => meet_fuel h _ _ k b (h.kid ha hk) ?_ ?_)
    · have := h.lower ha hk; have := reachN_le ns a; omega
    · have := reachN_le ns k; omega
theorem M_in {ns : List Node} (h : Dag ns) {a : Int} (ha : Pl ns a) {met : List Int} (hm : a ∈ met) : M ns a met = met := by rw [M_eq h ha, if_pos hm]
theorem M_out {ns : List Node} (h : Dag ns) {a : Int} (ha : Pl ns a) {met : List Int} (hm : ¬ a ∈ met) : M ns a met = ML ns (kids ns a) met ++ [a] := by rw [M_eq h ha, if_neg hm]
theorem ML_cons (ns : List Node) (k : Int) (l met : List Int) : ML ns (k :: l) met = ML ns l (M ns k met) := rfl
theorem ML_nil (ns : List Node) (met : List Int) : ML ns [] met = met := rfl
structure Shut (ns : List Node) (m : List Int) : Prop where
  nd : m.Nodup
  pl : ∀ x ∈ m, Pl ns x
  kids : ∀ x ∈ m, ∀ k ∈ kids ns x, k ∈ m
theorem Shut.nil (ns : List Node) : Shut ns [] := ⟨List.nodup_nil, fun x hx => by simp at hx, fun x hx => by simp at hx⟩
structure Met (ns : List Node) (a : Int) (met out : List Int) : Prop where
  shut : Shut ns out
  ext : ∃ r, out = met ++ r ∧ ∀ x ∈ r, Rch ns [a] x
  here : a ∈ out
theorem Rch.sub {ns : List Node} {l l' : List Int} (h : ∀ k ∈ l, Rch ns l' k) {x : Int} (hr : Rch ns l x) : Rch ns l' x := by
  induction hr with
  | base hk => exact h _ hk
  | step _ hk ih => exact .step ih hk
theorem Rch.under {ns : List Node} {a : Int} {x : Int} (h : Rch ns (_root_.Go.Proofs.YtglfebpgdghlfaaDoor.L.kids ns a) x) : Rch ns [a] x := h.sub (fun _ hk => .step (.base (by simp)) hk)
theorem M_met {ns : List Node} (h : Dag ns) : ∀ (N : Nat) (a : Int) (met : List Int), reachN ns a < N → Pl ns a → Shut ns met → (∀ x ∈ met, ¬ Rch ns (kids ns x) a ∨ a ∈ met) → Met ns a met (M ns a met)
  | 0, _, _, hN, _, _, _ => by omega
  | N + 1, a, met, hN, ha, hs, hx => by
    by_cases hm : a ∈ met
    · rw [M_in h ha hm]
      exact ⟨hs, ⟨[], by simp, fun x hx => by simp at hx⟩, hm⟩
    · rw [M_out h ha hm]
      -- the kids, one behind the other
      have key : ∀ (l met : List Int), (∀ k ∈ l, k ∈ kids ns a) → Shut ns met → ¬ a ∈ met → (Shut ns (ML ns l met) ∧ (∃ r, ML ns l met = met ++ r ∧ ∀ x ∈ r, Rch ns (kids ns a) x) ∧ ∀ k ∈ l, k ∈ ML ns l met) := by
        intro l
        induction l with
        | nil => intro met _ hs _; exact ⟨hs, ⟨[], by simp [ML_nil], fun x hx => by simp at hx⟩, fun k hk => by simp at hk⟩
        | cons k l ih =>
          intro met hl hs hna
          have hk := hl k (by simp)
          have m1 := M_met h N k met (by have := h.lower ha hk; omega) (h.kid ha hk) hs (fun x hx => by
            by_cases hr : Rch ns (kids ns x) k
            · right
              clear hna
              have : ∀ y, Rch ns (kids ns x) y → y ∈ met := fun y hy => by
                induction hy with
                | base hb => exact hs.kids x hx _ hb
                | step _ hb ih => exact hs.kids _ ih _ hb
              exact this k hr
            · exact .inl hr)
          obtain ⟨r1, e1, hr1⟩ := m1.ext
          have hka : ∀ x, Rch ns [k] x → Rch ns (kids ns a) x := fun x hx => hx.sub (fun y hy => by rw [List.mem_singleton.1 hy]; exact .base hk)
          have hna1 : ¬ a ∈ M ns k met := fun hin => by
            rw [e1] at hin
            rcases List.mem_append.1 hin with hin | hin
            · exact hna hin
            · obtain ⟨q, rfl⟩ : ∃ q : Nat, a = (q : Int) := ⟨a.toNat, by have := ha.1; omega⟩
              exact h.cyc q (by have := ha.2; omega) (hka _ (hr1 _ hin))
          obtain ⟨s2, ⟨r2, e2, hr2⟩, k2⟩ := ih (M ns k met) (fun y hy => hl y (by simp [hy])) m1.shut hna1
          rw [ML_cons]
          refine ⟨s2, ⟨r1 ++ r2, by rw [e2, e1, List.append_assoc], fun x hx => ?_⟩, fun y hy => ?_⟩
          · rcases List.mem_append.1 hx with hx | hx
            · exact hka x (hr1 x hx)
            · exact hr2 x hx
          · rcases List.mem_cons.1 hy with rfl | hy
            · rw [e2]; exact List.mem_append_left _ m1.here
            · exact k2 y hy
      obtain ⟨s2, ⟨r, e, hr⟩, k2⟩ := key (kids ns a) met (fun _ hk => hk) hs hm
      have hna : ¬ a ∈ ML ns (kids ns a) met := fun hin => by
        rw [e] at hin
        rcases List.mem_append.1 hin with hin | hin
        · exact hm hin
        · obtain ⟨q, rfl⟩ : ∃ q : Nat, a = (q : Int) := ⟨a.toNat, by have := ha.1; omega⟩
          exact h.cyc q (by have := ha.2; omega) (hr _ hin)
      refine ⟨⟨List.nodup_append.2 ⟨s2.nd, by simp, fun x hx y hy e => by rw [List.mem_singleton.1 hy] at e; exact hna (e ▸ hx)⟩, fun x hx => ?_, fun x hx k hk => ?_⟩, ⟨r ++ [a], by rw [e, List.append_assoc], fun x hx => ?_⟩, by simp⟩
      · rcases List.mem_append.1 hx with hx | hx
        · exact s2.pl x hx
        · rw [List.mem_singleton.1 hx]; exact ha
      · rcases List.mem_append.1 hx with hx | hx
        · exact List.mem_append_left _ (s2.kids x hx k hk)
        · rw [List.mem_singleton.1 hx] at hk; exact List.mem_append_left _ (k2 k hk)
      · rcases List.mem_append.1 hx with hx | hx
        · exact (hr x hx).under
        · exact .base hx
def ord (s : Scene) : List Int := M s.nodes s.root []
theorem ord_met {s : Scene} (h : Right s) : Met s.nodes s.root [] (ord s) := M_met h.dag _ _ _ (Nat.lt_succ_self _) ⟨h.r0, h.r1⟩ (Shut.nil _) (fun x hx => by simp at hx)
theorem ord_nodup {s : Scene} (h : Right s) : (ord s).Nodup := (ord_met h).shut.nd
theorem ord_pl {s : Scene} (h : Right s) : ∀ x ∈ ord s, Pl s.nodes x := (ord_met h).shut.pl
theorem ord_all {s : Scene} (h : Right s) (p : Nat) (hp : p < s.nodes.length) : (p : Int) ∈ ord s := by
  have hm := ord_met h
  have : ∀ y, Rch s.nodes [s.root] y → y ∈ ord s := fun y hy => by
    induction hy with
    | base hb => rw [List.mem_singleton.1 hb]; exact hm.here
    | step _ hb ih => exact hm.shut.kids _ ih _ hb
  exact this _ (h.all p hp)
end Go.Proofs.YtglfebpgdghlfaaDoor.L
end
section
namespace Go.Proofs.YtglfebpgdghlfaaDoor.L
open Go.RowKit Go.ChangeShapes Go.WideShapes Go.Proofs.YtglfebpgdghlfaaDoorW.PrintWords Go.Proofs.YtglfebpgdghlfaaDoorW.PrintLast Go.Proofs.YtglfebpgdghlfaaDoorW.PrintMore
attribute [local go_sem] max2_int min2_int max_two min_two max_three min_three max_four min_four
def cont (ns : List Node) : List (Int × Nat) → List Int → List Int
  | [], out => out
  | x :: r, out => cont ns r (ML ns ((kids ns x.1).drop x.2) out ++ [x.1])
def stk (ns : List Node) (st : List (Int × Nat)) : Nat := (st.map (fun x => (kids ns x.1).length - x.2 + 1)).sum
theorem stk_snoc (ns : List Node) (st : List (Int × Nat)) (x : Int × Nat) : stk ns (st ++ [x]) = stk ns st + ((kids ns x.1).length - x.2 + 1) := by unfold stk; rw [List.map_append, List.sum_append]; simp
theorem stk_len (ns : List Node) (st : List (Int × Nat)) : st.length ≤ stk ns st := by
  induction st with
  | nil => exact Nat.zero_le _
  | cons x r ih =>
    have : stk ns (x :: r) = ((kids ns x.1).length - x.2 + 1) + stk ns r := by unfold stk; rw [List.map_cons, List.sum_cons]
    rw [this, List.length_cons]; omega
structure CInv (ns : List Node) (o : List Int) (m : Nat) (out : List Int) (st : List (Int × Nat)) (vs : List Int) (cnt : Nat) : Prop where
  eq : cont ns st.reverse out = o
  pl : ∀ x ∈ st, Pl ns x.1 ∧ x.2 ≤ (kids ns x.1).length
  iff : ∀ k, k ∈ vs ↔ k ∈ out ∨ ∃ j, (k, j) ∈ st
  ch : st.Pairwise (fun x y => Rch ns (kids ns x.1) y.1)
  mo : left ns vs + stk ns st + out.length ≤ m
  c : left ns vs + stk ns st + cnt ≤ m + 1
theorem CInv.start {s : Scene} (h : Dag s.nodes) (hr : Pl s.nodes s.root) : CInv s.nodes (ord s) (rows s.nodes) [] [(s.root, 0)] [s.root] 1 := by
  obtain ⟨q, e⟩ : ∃ q : Nat, s.root = (q : Int) := ⟨s.root.toNat, by have := hr.1; omega⟩
  have h1 := left_cons (ns := s.nodes) (vs := []) (x := q) (by have := hr.2; omega) (by simp)
  rw [left_nil, ← e, wt] at h1
  have h2 : stk s.nodes [(s.root, 0)] = (nd s.nodes q).kids.length + 1 := by
    unfold stk
    rw [List.map_cons, List.map_nil, List.sum_cons, List.sum_nil]
    have : kids s.nodes s.root = (nd s.nodes q).kids := by unfold kids; rw [e, Int.toNat_natCast]
    rw [this]; rfl
  refine ⟨?_, fun x hx => ?_, fun k => ?_, ?_, ?_, ?_⟩
  · show cont s.nodes [(s.root, 0)] [] = _
    unfold ord
    rw [M_out h hr (by simp)]
    rfl
  · rw [List.mem_singleton.1 hx]; exact ⟨hr, Nat.zero_le _⟩
  · constructor
    · intro hk; rw [List.mem_singleton.1 hk]; exact .inr ⟨0, by simp⟩
    · rintro (hk | ⟨j, hj⟩)
      · simp at hk
      · have := List.mem_singleton.1 hj
        injection this with h1 _
        rw [h1]; simp
  · exact List.pairwise_singleton _ _
  · rw [h2]; simp; omega
  · rw [h2]; omega
theorem CInv.pop {ns : List Node} {o out vs : List Int} {st : List (Int × Nat)} {a : Int} {j m cnt : Nat} (h : CInv ns o m out (st ++ [(a, j)]) vs cnt) (hj : j = (kids ns a).length) : CInv ns o m (out ++ [a]) st vs cnt := by
  subst hj
  have hs := stk_snoc ns st (a, (kids ns a).length)
  refine ⟨?_, fun x hx => h.pl x (by simp [hx]), fun k => ?_, (List.pairwise_append.1 h.ch).1, ?_, ?_⟩
  · have := h.eq
    rw [List.reverse_append] at this
    simp only [List.reverse_cons, List.reverse_nil, List.nil_append, List.cons_append] at this
    unfold cont at this
    simp only [List.drop_length, ML_nil] at this
    exact this
  · rw [h.iff k]
    constructor
    · rintro (hk | ⟨j, hj⟩)
      · exact .inl (by simp [hk])
      · rcases List.mem_append.1 hj with hj | hj
        · exact .inr ⟨j, hj⟩
        · have := List.mem_singleton.1 hj
          injection this with h1 _
          exact .inl (by rw [h1]; simp)
    · rintro (hk | ⟨j, hj⟩)
      · rcases List.mem_append.1 hk with hk | hk
        · exact .inl hk
        · rw [List.mem_singleton.1 hk]; exact .inr ⟨_, List.mem_append_right _ (List.mem_singleton.2 rfl)⟩
      · exact .inr ⟨j, by simp [hj]⟩
  · have := h.mo; rw [hs] at this; rw [List.length_append, List.length_singleton]; omega
  · have := h.c; rw [hs] at this; omega
theorem CInv.kid {ns : List Node} {o out vs : List Int} {st : List (Int × Nat)} {a : Int} {j m cnt : Nat} (hd : Dag ns) (h : CInv ns o m out (st ++ [(a, j)]) vs cnt) (hj : j < (kids ns a).length) : Pl ns (rd (kids ns a) (j : Int)) ∧ rd (kids ns a) (j : Int) ∈ kids ns a := by
  have h1 : rd (kids ns a) (j : Int) ∈ kids ns a := rd_mem hj
  exact ⟨hd.kid (h.pl _ (List.mem_append_right _ (List.mem_singleton.2 rfl))).1 h1, h1⟩
theorem drop_rd {l : List Int} {j : Nat} (hj : j < l.length) : l.drop j = rd l (j : Int) :: l.drop (j + 1) := by rw [List.drop_eq_getElem_cons hj, rd_eq hj]
theorem CInv.pass {ns : List Node} {o out vs : List Int} {st : List (Int × Nat)} {a : Int} {j m cnt : Nat} (hd : Dag ns) (h : CInv ns o m out (st ++ [(a, j)]) vs cnt) (hj : j < (kids ns a).length) (hk : rd (kids ns a) (j : Int) ∈ vs) :
    CInv ns o m out (st ++ [(a, j + 1)]) vs cnt ∧ left ns vs + stk ns (st ++ [(a, j + 1)]) < left ns vs + stk ns (st ++ [(a, j)]) := by
  obtain ⟨hp, hm⟩ := h.kid hd hj
  have s1 := stk_snoc ns st (a, j)
  have s2 := stk_snoc ns st (a, j + 1)
  simp only at s1 s2
  refine ⟨⟨?_, fun x hx => ?_, fun k => ?_, ?_, ?_, ?_⟩, by omega⟩
  · have := h.eq
    rw [List.reverse_append] at this ⊢
    simp only [List.reverse_cons, List.reverse_nil, List.nil_append, List.cons_append] at this ⊢
    unfold cont at this ⊢
    simp only at this ⊢
    rw [drop_rd hj, ML_cons, M_in hd hp] at this
    · exact this
    · rcases (h.iff _).1 hk with hk | ⟨i, hi⟩
      · exact hk
      · exfalso
        have hcyc : Rch ns (kids ns (rd (kids ns a) (j : Int))) (rd (kids ns a) (j : Int)) := by
          rcases List.mem_append.1 hi with hi | hi
          · exact .step ((List.pairwise_append.1 h.ch).2.2 _ hi (a, j) (by simp)) hm
          · have := List.mem_singleton.1 hi
            injection this with h1 _
            have hm' := hm
            rw [h1] at hm' ⊢
            exact .base hm'
        obtain ⟨q, e⟩ : ∃ q : Nat, rd (kids ns a) (j : Int) = (q : Int) := ⟨(rd (kids ns a) (j : Int)).toNat, by have := hp.1; omega⟩
        rw [e] at hcyc
        exact hd.cyc q (by have := hp.2; omega) hcyc
  · rcases List.mem_append.1 hx with hx | hx
    · exact h.pl x (by simp [hx])
    · rw [List.mem_singleton.1 hx]
      exact ⟨(h.pl (a, j) (by simp)).1, hj⟩
  · rw [h.iff k]
    constructor
    · rintro (hk | ⟨i, hi⟩)
      · exact .inl hk
      · rcases List.mem_append.1 hi with hi | hi
        · exact .inr ⟨i, by simp [hi]⟩
        · have := List.mem_singleton.1 hi
          injection this with h1 _
          exact .inr ⟨j + 1, by rw [h1]; simp⟩
    · rintro (hk | ⟨i, hi⟩)
      · exact .inl hk
      · rcases List.mem_append.1 hi with hi | hi
        · exact .inr ⟨i, by simp [hi]⟩
        · have := List.mem_singleton.1 hi
          injection this with h1 _
          exact .inr ⟨j, by rw [h1]; simp⟩
  · have hc := List.pairwise_append.1 h.ch
    refine List.pairwise_append.2 ⟨hc.1, List.pairwise_singleton _ _, fun x hx y hy => ?_⟩
    rw [List.mem_singleton.1 hy]
    exact hc.2.2 x hx (a, j) (by simp)
  · have := h.mo; omega
  · have := h.c; omega
theorem CInv.push {ns : List Node} {o out vs : List Int} {st : List (Int × Nat)} {a : Int} {j m cnt : Nat} (hd : Dag ns) (h : CInv ns o m out (st ++ [(a, j)]) vs cnt) (hj : j < (kids ns a).length) (hk : ¬ rd (kids ns a) (j : Int) ∈ vs) :
    CInv ns o m out (st ++ [(a, j + 1)] ++ [(rd (kids ns a) (j : Int), 0)]) (rd (kids ns a) (j : Int) :: vs) (cnt + 1) ∧ left ns (rd (kids ns a) (j : Int) :: vs) + stk ns (st ++ [(a, j + 1)] ++ [(rd (kids ns a) (j : Int), 0)]) < left ns vs + stk ns (st ++ [(a, j)]) := by
  obtain ⟨hp, hm⟩ := h.kid hd hj
  have s1 := stk_snoc ns st (a, j)
  have s2 := stk_snoc ns st (a, j + 1)
  have s3 := stk_snoc ns (st ++ [(a, j + 1)]) (rd (kids ns a) (j : Int), 0)
  have hl : left ns (rd (kids ns a) (j : Int) :: vs) + ((kids ns (rd (kids ns a) (j : Int))).length + 1) = left ns vs := by
    obtain ⟨q, e⟩ : ∃ q : Nat, rd (kids ns a) (j : Int) = (q : Int) := ⟨(rd (kids ns a) (j : Int)).toNat, by have := hp.1; omega⟩
    rw [e] at hk hp ⊢
    have h1 := left_cons (ns := ns) (vs := vs) (x := q) (by have := hp.2; omega) hk
    rw [wt] at h1
    have : kids ns (q : Int) = (nd ns q).kids := by unfold kids; rw [Int.toNat_natCast]
    rw [this]; exact h1
  simp only at s1 s2 s3
  have hnout : ¬ rd (kids ns a) (j : Int) ∈ out := fun hin => hk ((h.iff _).2 (.inl hin))
  refine ⟨⟨?_, fun x hx => ?_, fun k => ?_, ?_, ?_, ?_⟩, by omega⟩
  · have := h.eq
    rw [List.reverse_append] at this
    rw [List.reverse_append, List.reverse_append]
    simp only [List.reverse_cons, List.reverse_nil, List.nil_append, List.cons_append] at this ⊢
    unfold cont at this
    simp only at this
    rw [drop_rd hj, ML_cons, M_out hd hp hnout] at this
    unfold cont
    unfold cont
    simp only [List.drop_zero]
    exact this
  · rcases List.mem_append.1 hx with hx | hx
    · rcases List.mem_append.1 hx with hx | hx
      · exact h.pl x (by simp [hx])
      · rw [List.mem_singleton.1 hx]
        exact ⟨(h.pl (a, j) (by simp)).1, hj⟩
    · rw [List.mem_singleton.1 hx]
      exact ⟨hp, Nat.zero_le _⟩
  · rw [List.mem_cons, h.iff k]
    constructor
    · rintro (rfl | hk | ⟨i, hi⟩)
      · exact .inr ⟨0, by simp⟩
      · exact .inl hk
      · rcases List.mem_append.1 hi with hi | hi
        · exact .inr ⟨i, by simp [hi]⟩
        · have := List.mem_singleton.1 hi
          injection this with h1 _
          exact .inr ⟨j + 1, by rw [h1]; simp⟩
    · rintro (hk | ⟨i, hi⟩)
      · exact .inr (.inl hk)
      · rcases List.mem_append.1 hi with hi | hi
        · rcases List.mem_append.1 hi with hi | hi
          · exact .inr (.inr ⟨i, by simp [hi]⟩)
          · have := List.mem_singleton.1 hi
            injection this with h1 _
            exact .inr (.inr ⟨j, by rw [h1]; simp⟩)
        · have := List.mem_singleton.1 hi
          injection this with h1 _
          exact .inl h1
  · have hc := List.pairwise_append.1 h.ch
    refine List.pairwise_append.2 ⟨List.pairwise_append.2 ⟨hc.1, List.pairwise_singleton _ _, fun x hx y hy => ?_⟩, List.pairwise_singleton _ _, fun x hx y hy => ?_⟩
    · rw [List.mem_singleton.1 hy]
      exact hc.2.2 x hx (a, j) (by simp)
    · rw [List.mem_singleton.1 hy]
      rcases List.mem_append.1 hx with hx | hx
      · exact .step (hc.2.2 x hx (a, j) (by simp)) hm
      · rw [List.mem_singleton.1 hx]; exact .base hm
  · have := h.mo; omega
  · have := h.c; omega
end Go.Proofs.YtglfebpgdghlfaaDoor.L
end
section
namespace Go.Proofs.YtglfebpgdghlfaaDoor.L
open Go.RowKit Go.ChangeShapes Go.WideShapes Go.Proofs.YtglfebpgdghlfaaDoorW.PrintWords Go.Proofs.YtglfebpgdghlfaaDoorW.PrintLast Go.Proofs.YtglfebpgdghlfaaDoorW.PrintMore
attribute [local go_sem] max2_int min2_int max_two min_two max_three min_three max_four min_four
def kFr : Kd (Int × Nat) := Kd.iso (Kd.pair (Kd.int .i64) (Kd.int .i64)) (fun x : Int × Nat => (x.1, (x.2 : Int)))
theorem kFr_mk (w : World) (base : Nat) (ok : Nat → Prop) (a : Int) (j : Nat) : kFr.M w base ok (a, j) [.int .i64 a, .int .i64 (j : Int)] := ⟨[_], [_], rfl, rfl, rfl⟩
theorem kFr_open {w : World} {x : Int × Nat} {cs : List Value} (h : kFr.K w x cs) : cs = [.int .i64 x.1, .int .i64 (x.2 : Int)] := by
  obtain ⟨_, _, rfl, h1, h2⟩ := h
  rw [show _ = [_] from h1, show _ = [_] from h2]; rfl
theorem info_fr : (Tryd.prog.info? 150).map (fun i => (i.zero, i.size, i.bytes)) = some (some (.agg #[.int .i64 0, .int .i64 0]), 2, 16) := by kernel_rfl
theorem frame_at {W : World} {base g n c : Nat} {st : List (Int × Nat)} {a : Int} {j : Nat} (h : kFr.R 150 W base (fun _ => True) (.slice (some ⟨g, 0, none⟩) n c) (st ++ [(a, j)])) :
    W.cell? ⟨g, st.length * 2, none⟩ = some (.int .i64 a) ∧ W.cell? ⟨g, st.length * 2 + 1, none⟩ = some (.int .i64 (j : Int)) ∧ W.frozen? ⟨g, st.length * 2 + 1, none⟩ = false ∧
      kFr.R 150 (W.setCell ⟨g, st.length * 2 + 1, none⟩ (.int .i64 ((j + 1 : Nat) : Int))) base (fun _ => True) (.slice (some ⟨g, 0, none⟩) n c) (st ++ [(a, j + 1)]) ∧ W.grownBy (W.setCell ⟨g, st.length * 2 + 1, none⟩ (.int .i64 ((j + 1 : Nat) : Int))) (some g) ∧ base ≤ g := by
  have hn := (Kd.R_reads' h).1
  rw [List.length_append, List.length_singleton] at hn
  obtain ⟨cs, hcl, hM, hcc, hfr⟩ := R_elemN h (0, 0) st.length (by omega)
  have e0 : (st ++ [(a, j)]).getD st.length (0, 0) = (a, j) := by simp [List.getD_eq_getElem?_getD]
  rw [e0] at hM
  obtain rfl := kFr_open (kFr.K_of_M hM)
  have h0 := hcc 0 _ rfl
  have h1 := hcc 1 _ rfl
  have hf := hfr 1
  have hs := R_segN h st.length (by omega) (seg := [.int .i64 ((j + 1 : Nat) : Int)]) (j := 1) hcl hcc (Nat.le_refl 2) (x' := (a, j + 1)) (okp := fun _ => False) (kFr_mk W base _ a (j + 1)) (fun _ h => h.elim)
  have e2 : (st ++ [(a, j)]).set st.length (a, j + 1) = st ++ [(a, j + 1)] := by simp
  rw [e2] at hs
  exact ⟨h0, h1, hf, hs.1, hs.2, Kd.R_base h g (by simp [Value.ownBlock])⟩
structure OrdMem (s : Scene) (A : Option Addr) (c : Nat) (w : World) (b : Nat) (v3 v5 : Value) (out : List Int) (st : List (Int × Nat)) (vs : List Int) (cnt : Nat) (W : World) : Prop where
  orow : (Kd.int .i64).R 3 W w.heap.size (fun _ => True) v3 out
  stk : kFr.R 150 W w.heap.size (fun _ => True) v5 st
  map : MapF Tryd.prog 3 W b cnt (visF vs)
  mb : w.heap.size ≤ b
  box : W.heap[w.heap.size]? = some (.cells #[.slice A s.nodes.length c, .int .i64 s.root] 39 (0, 0))
  below : Below w.heap.size w W
structure OrdRel (s : Scene) (A : Option Addr) (c : Nat) (w : World) (b : Nat) (v3 v5 : Value) (out : List Int) (st : List (Int × Nat)) (vs : List Int) (cnt : Nat) (W : World) : Prop extends OrdMem s A c w b v3 v5 out st vs cnt W where
  inv : CInv s.nodes (ord s) (rows s.nodes) out st vs cnt
theorem OrdRel.drew {s : Scene} {A : Option Addr} {c : Nat} {w : World} {b : Nat} {v3 v5 : Value} {out : List Int} {st : List (Int × Nat)} {vs : List Int} {cnt : Nat} {W : World} (h : OrdRel s A c w b v3 v5 out st vs cnt W) : OrdRel s A c w b v3 v5 out st vs cnt W.drew :=
  ⟨⟨Kd.R_drew h.orow, Kd.R_drew h.stk, h.map.below (pw_below_drewN (Below.refl _ _) 1), h.mb, h.box, pw_below_drewN h.below 1⟩, h.inv⟩
theorem OrdMem.turn {s : Scene} {A : Option Addr} {c : Nat} {w : World} {b g n cs : Nat} {v3 : Value} {out : List Int} {st : List (Int × Nat)} {a : Int} {j : Nat} {vs : List Int} {cnt : Nat} {W : World} (h : OrdMem s A c w b v3 (.slice (some ⟨g, 0, none⟩) n cs) out (st ++ [(a, j)]) vs cnt W) :
    OrdMem s A c w b v3 (.slice (some ⟨g, 0, none⟩) n cs) out (st ++ [(a, j + 1)]) vs cnt (W.setCell ⟨g, st.length * 2 + 1, none⟩ (.int .i64 ((j + 1 : Nat) : Int))) := by
  obtain ⟨_, _, _, h1, h2, h3⟩ := frame_at h.stk
  obtain ⟨cells, hc⟩ := Kd.R_typed h.stk g rfl
  refine ⟨Kd.R_grown1 h.orow rfl h2 (Kd.R_ne h.orow hc (by decide)), h1, h.map.kept h2 (fun e => ?_), h.mb, blk_grown h.box h2 (fun e => ?_), below_set h.below h3⟩
  · injection e with e; subst e; exact h.map.not_cells hc
  · injection e with e; subst e; rw [h.box] at hc; cases hc
theorem OrdRel.start {s : Scene} {A : Option Addr} {c : Nat} {w w2 : World} (hd : Dag s.nodes) (hr : Pl s.nodes s.root) (hM : MapF Tryd.prog 3 w2 (w.heap.size + 1) 1 (putF (fun _ => none) (.int .i64 s.root) (.bool true)))
    (hx : w2.heap[w.heap.size]? = some (.cells #[.slice A s.nodes.length c, .int .i64 s.root] 39 (0, 0))) (hB : Below w.heap.size w w2) :
    OrdRel s A c w (w.heap.size + 1) (.slice none 0 0) (.slice (some ⟨w2.heap.size, 0, none⟩) 1 1) [] [(s.root, 0)] [s.root] 1 (w2.alloc (.cells #[.int .i64 s.root, .int .i64 0] 150)) :=
  ⟨⟨Kd.R_nil _ _ _ _ _, R_lits kFr 150 (fun x => [.int .i64 x.1, .int .i64 (x.2 : Int)]) w2 w.heap.size [(s.root, 0)] (fun x => kFr_mk w2 _ _ x.1 x.2) (fun _ => rfl) hB.size (by simp) rfl,
    by rw [← visF_put, visF_nil]; exact hM.below (below_alloc (Below.refl _ _) _), Nat.le_succ _, (Below.block (below_alloc (Below.refl _ _) _) _ (blk_lt hx)).trans hx, below_alloc hB _⟩, CInv.start hd hr⟩
set_option maxRecDepth 100000 in
set_option maxHeartbeats 4000000 in
theorem canOrder_any (A : Option Addr) (c : Nat) (s : Scene) (w : World) (h : kNode.C w A s.nodes.length s.nodes) (hd : Dag s.nodes) (hr : Pl s.nodes s.root) (hM : rows s.nodes ≤ 1000000) :
    Calls Tryd.prog 100 #[.agg #[.slice A s.nodes.length c, .int .i64 s.root]] w (RowPost (Kd.int .i64) 3 (ord s) w) := by
  have HR := Aside0.mk h
  have HD := Aside0.mk hd
  have HM := Aside0.mk hM
  have HP := Aside0.mk hr
  have HK := Aside0.mk (keyI_of (x := s.root) (by have := hr.1; omega) (by have := hr.2; have := h.2.1; omega))
  have HM0 := Aside0.mk (show MapF Tryd.prog 3 ((w.alloc (.cells #[.slice A s.nodes.length c, .int .i64 s.root] 39)).alloc (.map #[] 0)) (w.heap.size + 1) 0 (fun _ => none) from by simpa using MapF.made Tryd.prog 3 (w.alloc (.cells #[.slice A s.nodes.length c, .int .i64 s.root] 39)))
  have HX := Aside0.mk (show ((w.alloc (.cells #[.slice A s.nodes.length c, .int .i64 s.root] 39)).alloc (.map #[] 0)).heap[w.heap.size]? = some (.cells #[.slice A s.nodes.length c, .int .i64 s.root] 39 (0, 0)) from by
      have : (w.alloc (.cells #[.slice A s.nodes.length c, .int .i64 s.root] 39)).heap[w.heap.size]? = some (.cells #[.slice A s.nodes.length c, .int .i64 s.root] 39 (0, 0)) := by simpa using heap_alloc_new w _
      exact (Below.block (below_alloc (Below.refl _ _) _) _ (by simp)).trans this)
  have HB0 := Aside0.mk (show Below w.heap.size w ((w.alloc (.cells #[.slice A s.nodes.length c, .int .i64 s.root] 39)).alloc (.map #[] 0)) from below_alloc (below_alloc (Below.refl _ _) _) _)
  have hk1 := (blk_cell HX.out 1).trans rfl
  have hmm := @run_makeMap Tryd.prog
  have hnc := h.2.1
  clear h hd hr hM
  go_enter Tryd.func100, Tryd.ntmps100
  go_wp2_with (refine wpList_insert_F _ rfl (.tmp 9) (.tmp 11) _ 115 rfl 3 4 keyI Tryd.underlying115 (w.heap.size + 1) 0 (fun _ => none) rfl HM0.out (by unfold maxLen; omega) (.int .i64 s.root) (.bool true) (.int .i64 s.root) rfl rfl HK.out ?_; intro w2 hM2 hg2; have HG2 := Aside0.mk hg2; have HM2 := Aside0.mk hM2; have HX2 := Aside0.mk (blk_grown HX.out hg2 (by simp)); have hx1 := (blk_cell HX2.out 1).trans rfl; have HB2 := Aside0.mk (below_map HB0.out HB0.out.size hg2 (by omega)); clear hM2 hg2)
  have HI := Aside0.mk (OrdRel.start HD.out HP.out HM2.out HX2.out HB2.out)
  clear hx1 hk1 hmm HM2 HX2 HB2
  go_loopg [3, 5] (left s.nodes [s.root] + stk s.nodes [(s.root, 0)]) (fun g v3 v5 W => ∃ out st vs cnt, g = left s.nodes vs + stk s.nodes st ∧ Aside0 (OrdRel s A c w (w.heap.size + 1) v3 v5 out st vs cnt W))
  case atStart => exact ⟨_, _, _, _, rfl, HI⟩
  case round =>
    clear HI
    obtain ⟨out, st, vs, cnt, hg, HL⟩ := hrel
    obtain ⟨Ao, co, rfl⟩ := Kd.R_slice HL.out.orow
    rcases snoc_cases st with rfl | ⟨st, ⟨a, j⟩, rfl⟩
    · obtain ⟨As, cs, rfl⟩ := Kd.R_slice HL.out.stk
      obtain rfl : out = ord s := HL.out.inv.eq
      clear hg
      go_wp2
      go_ret
      exact ⟨_, _, rfl, HL.out.orow, HL.out.below⟩
    · obtain ⟨g, cs, hv, hbg, hgl, cells, hgc⟩ := Kd.R_form HL.out.stk (by simp)
      have e1 : (st ++ [(a, j)]).length = st.length + 1 := by simp
      rw [e1] at hv
      subst hv
      have HT := Aside0.mk (frame_at HL.out.stk)
      obtain ⟨f0, f1, f2, -⟩ := frame_at HL.out.stk
      have HC := Aside0.mk hgc
      have HAP := Aside0.mk (HL.out.inv.pl (a, j) (by simp))
      obtain ⟨x, rfl⟩ : ∃ q : Nat, a = (q : Int) := ⟨a.toNat, by have := HAP.out.1.1; simp only at this; omega⟩
      have hx1 : x < s.nodes.length := by have := HAP.out.1.2; simp only at this; omega
      have hsl : st.length + 1 ≤ 1000000 := by
        have h1 := HL.out.inv.mo
        have h2 := stk_len s.nodes (st ++ [((x : Int), j)])
        rw [e1] at h2
        have := HM.out
        omega
      have hol : out.length + 1 ≤ 1000000 := by
        have h1 := HL.out.inv.mo
        have h2 := stk_len s.nodes (st ++ [((x : Int), j)])
        rw [e1] at h2
        have := HM.out
        omega
      have hj := HAP.out.2
      simp only [kids_nat] at hj
      obtain ⟨adn, A1, c1, A2, c2, A3, c3, rfl, x0, x1, x2, x3, hN⟩ := at_node HR.out x hx1
      have hklM : (nd s.nodes x).kids.length ≤ 1000000 := by have := HM.out; have h1 := left_cons (ns := s.nodes) (vs := []) hx1 (by simp); rw [left_nil, wt] at h1; omega
      replace x3 := pw_cell_below HL.out.below x3
      have hb0 := (blk_cell HL.out.box 0).trans rfl
      have hcsl : st.length + 1 ≤ cs := by have := (Kd.R_reads' HL.out.stk).2.1; omega
      clear x0 x1 x2 hgc e1
      by_cases hje : j = (nd s.nodes x).kids.length
      · subst hje
        have HN := Aside0.mk (HL.out.inv.pop (by rw [kids_nat]))
        have HS := Aside0.mk (show kFr.R 150 wr w.heap.size (fun _ => True) (.slice (some ⟨g, 0, none⟩) st.length cs) st from by have := Kd.R_take HL.out.stk (m := st.length) (by simp); simpa using this)
        have HG := Aside0.mk (show left s.nodes vs + stk s.nodes st < gk from by rw [hg, stk_snoc]; omega)
        clear hg hN
        go_wp2
        go_region
        clear f0 f1 f2 x3 hb0
        have HL2 := Aside0.mk HL.out.drew
        replace HS := Aside0.mk (Kd.R_drew HS.out)
        replace HC := Aside0.mk (show wr.drew.heap[g]? = _ from HC.out)
        obtain ⟨f0, f1, f2, -⟩ := frame_at HL2.out.stk
        clear HL HT
        generalize wr.drew = W2 at HL2 HS HC f0 f1 f2 ⊢
        go_wp2_with (at_builtin; refine Kd.R_append (Kd.int .i64) (w0 := w) w.heap.size rfl (.tmp 41) (.tmp 46) 24 3 (.int .i64 0) 8 rfl Tryd.underlying24 info_int rfl (by decide) (by omega) (.slice Ao out.length co) out (x : Int) [.int .i64 (x : Int)] (fun _ => True) (fun _ => False) rfl (by go_simp) rfl (fun _ h => h.elim) (fun _ _ => trivial) HL2.out.orow HL2.out.below HL2.out.below.size (by omega) ?_; intro v2 w2 hR2 hB2 hg2 hat2; have HR2 := Aside0.mk hR2; have HB2 := Aside0.mk hB2; have HS2 := Aside0.mk (Kd.R_grown1 HS.out rfl hg2 (Ne.symm (Kd.R_ne HL2.out.orow HC.out (by decide)))); have HM2 := Aside0.mk (HL2.out.map.kept hg2 (HL2.out.map.ne_row HL2.out.orow)); have HX2 := Aside0.mk (blk_grown HL2.out.box hg2 (Kd.R_ne HL2.out.orow HL2.out.box (by decide))); clear hR2 hB2 hg2 hat2)
        go_roundg (left s.nodes vs + stk s.nodes st)
        case measure => exact HG.out
        case rel => exact ⟨_, _, _, _, rfl, ⟨⟨HR2.out, HS2.out, HM2.out, HL2.out.mb, HX2.out, HB2.out⟩, HN.out⟩⟩
      · have hjl : j < (nd s.nodes x).kids.length := by omega
        have HNk := Aside0.mk hN.k
        obtain ⟨adk, rfl, -⟩ := at_nat (Kd.C_below hN.k HL.out.below) j hjl
        have HKD := Aside0.mk (HL.out.inv.kid HD.out (by rw [kids_nat]; exact hjl))
        obtain ⟨k, hk⟩ : ∃ q : Nat, rd (nd s.nodes x).kids (j : Int) = (q : Int) := ⟨(rd (nd s.nodes x).kids (j : Int)).toNat, by have := HKD.out.1.1; rw [kids_nat] at this; omega⟩
        have HKK := Aside0.mk hk
        have hkn : k < s.nodes.length := by have := HKD.out.1.2; rw [kids_nat, hk] at this; omega
        have dj : (j == (nd s.nodes x).kids.length) = false := by simpa using hje
        have HG := Aside0.mk hg
        clear hN hk hg hje
        go_wp2
        go_region
        clear f0 f1 f2 x3 hb0
        have HL2 := Aside0.mk HL.out.drew
        clear HL HT HC
        generalize wr.drew = W2 at HL2 ⊢
        obtain ⟨f0, f1, f2, -⟩ := frame_at HL2.out.stk
        have hxk := at_nat (Kd.C_below HNk.out HL2.out.below) j hjl
        obtain ⟨adk', he, hxk⟩ := hxk
        injection he with he
        subst he
        rw [HKK.out] at hxk
        have HT2 := Aside0.mk HL2.out.toOrdMem.turn
        obtain ⟨g0, g1, g2, -⟩ := frame_at HT2.out.stk
        have HKI := Aside0.mk (keyI_of (x := (k : Int)) (by omega) (by omega))
        by_cases hv : (k : Int) ∈ vs
        · have HV := Aside0.mk (visF_in hv)
          have HN := Aside0.mk (HL2.out.inv.pass HD.out (by rw [kids_nat]; exact hjl) (by rw [kids_nat, HKK.out]; exact hv))
          clear hv
          go_wp2_with (at_lookup; refine wpList_lookup_F _ rfl (.tmp 67) (.tmp 68) 115 rfl 3 4 keyI Tryd.underlying115 (zeroB _) (w.heap.size + 1) cnt (visF vs) rfl HT2.out.map (.int .i64 k) (.int .i64 k) rfl HKI.out (.bool true) HV.out ?_)
          go_roundg (left s.nodes vs + stk s.nodes (st ++ [((x : Int), j + 1)]))
          case measure => rw [HG.out]; exact HN.out.2
          case rel => exact ⟨_, _, _, _, rfl, ⟨HT2.out, HN.out.1⟩⟩
        · have HV := Aside0.mk (visF_out hv)
          have HN := Aside0.mk (HL2.out.inv.push HD.out (by rw [kids_nat]; exact hjl) (by rw [kids_nat, HKK.out]; exact hv))
          have hcM : cnt < maxLen := by have := HL2.out.inv.c; have := HM.out; unfold maxLen; omega
          clear hv
          go_wp2_with (first
            | (at_lookup; refine wpList_lookup_F _ rfl (.tmp 67) (.tmp 68) 115 rfl 3 4 keyI Tryd.underlying115 (zeroB _) (w.heap.size + 1) cnt (visF vs) rfl HT2.out.map (.int .i64 k) (.int .i64 k) rfl HKI.out (.bool false) HV.out ?_)
            | (at_mapUpdate; refine wpList_update_F _ rfl (.tmp 71) (.tmp 72) _ 115 rfl 3 4 keyI Tryd.underlying115 (w.heap.size + 1) cnt (visF vs) rfl HT2.out.map hcM (.int .i64 k) (.bool true) (.int .i64 k) rfl rfl HKI.out ?_; intro w3 hM3 hg3; have HM3 := Aside0.mk hM3; have HB3 := Aside0.mk (below_map HT2.out.below HT2.out.below.size hg3 HT2.out.mb); have HX3 := Aside0.mk (blk_grown HT2.out.box hg3 (by simp)); have HS3 := Aside0.mk (R_past_map HT2.out.stk HT2.out.map hg3); have HO3 := Aside0.mk (R_past_map HT2.out.orow HT2.out.map hg3); clear hM3 hg3)
            | (at_builtin; refine Kd.R_append kFr (w0 := w) w.heap.size rfl (.tmp 73) (.tmp 76) 151 150 (.agg #[.int .i64 0, .int .i64 0]) 16 rfl Tryd.underlying151 info_fr rfl (by decide) (by omega) (.slice (some ⟨g, 0, none⟩) (st.length + 1) cs) (st ++ [((x : Int), j + 1)]) ((k : Int), 0) [.int .i64 (k : Int), .int .i64 0] (fun _ => True) (fun _ => False) rfl (by go_simp) (kFr_mk _ _ _ _ _) (fun _ h => h.elim) (fun _ _ => trivial) HS3.out HB3.out HB3.out.size (by rw [List.length_append, List.length_singleton]; omega) ?_; intro v4 w4 hR4 hB4 hg4 hat4; have HI4 := Aside0.mk (show OrdMem s (some adn) c w (w.heap.size + 1) (.slice Ao out.length co) v4 out (st ++ [((x : Int), j + 1)] ++ [((k : Int), 0)]) ((k : Int) :: vs) (cnt + 1) w4 from ⟨Kd.R_grown1 HO3.out rfl hg4 (by obtain ⟨cells, hc⟩ := Kd.R_typed HS3.out g rfl; exact Kd.R_ne HO3.out hc (by decide)), hR4, by rw [← visF_put]; exact HM3.out.kept hg4 (HM3.out.ne_row HS3.out), HT2.out.mb, blk_grown HX3.out hg4 (Kd.R_ne HS3.out HX3.out (by decide)), hB4⟩); clear hR4 hB4 hg4 hat4))
          go_roundg (left s.nodes ((k : Int) :: vs) + stk s.nodes (st ++ [((x : Int), j + 1)] ++ [((k : Int), 0)]))
          case measure => rw [HG.out]; have := HN.out.2; rw [kids_nat, HKK.out] at this; exact this
          case rel => exact ⟨_, _, _, _, rfl, ⟨HI4.out, by have := HN.out.1; rw [kids_nat, HKK.out] at this; exact this⟩⟩
end Go.Proofs.YtglfebpgdghlfaaDoor.L
end
