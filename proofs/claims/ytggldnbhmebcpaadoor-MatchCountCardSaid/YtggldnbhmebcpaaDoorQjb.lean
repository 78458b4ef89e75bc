/- Part 2 of the texts that YtggldnbhmebcpaaDoorRowMC rests on, joined by a program: what its functions come to. Conditions: those that each theorem states. -/
import Derived.Test.YtggldnbhmebcpaaDoorQja
import Derived.Test.YtggldnbhmebcpaaDoorProg
import Derived.StillTailTactics
import Derived.Deep.Slices
import Derived.ProofKit
import Derived.ChangeSame
import Derived.Maps.OwnSet
import Derived.Maps.OwnOps
import Derived.Below
import Derived.Lib.QuoteLoop
import Derived.Lib.Small
set_option linter.unusedVariables false
set_option linter.unusedSimpArgs false
section
namespace Go.Proofs.YtggldnbhmebcpaaDoor.L
open Go.RowKit Go.ChangeShapes Go.WideShapes Go.Proofs.YtggldnbhmebcpaaDoorW.PrintWords Go.Proofs.YtggldnbhmebcpaaDoorW.PrintLast Go.Proofs.YtggldnbhmebcpaaDoorW.PrintMore
attribute [local go_sem] max2_int min2_int max_two min_two max_three min_three max_four min_four
theorem rd_eq {xs : List Int} {i : Nat} (h : i < xs.length) : rd xs (i : Int) = xs[i] := by
  unfold rd
  rw [List.getD_eq_getElem?_getD, Int.toNat_natCast, List.getElem?_eq_getElem h]; rfl
theorem rd_set (l : List Int) (i i' : Nat) (v : Int) (h1 : i < l.length) : rd (l.set i v) (i' : Int) = if i' = i then v else rd l (i' : Int) := by
  unfold rd
  rw [List.getD_eq_getElem?_getD, List.getD_eq_getElem?_getD, List.getElem?_set, Int.toNat_natCast]
  by_cases e : i' = i
  · subst e; rw [if_pos rfl, if_pos rfl, if_pos h1]; rfl
  · rw [if_neg e, if_neg (fun h => e h.symm)]
theorem getD_eq {α : Type} {xs : List α} {i : Nat} (d : α) (h : i < xs.length) : xs.getD i d = xs[i] := by
  rw [List.getD_eq_getElem?_getD, List.getElem?_eq_getElem h]; rfl
theorem take_succ_getD {α : Type} {xs : List α} {i : Nat} (d : α) (h : i < xs.length) : xs.take (i + 1) = xs.take i ++ [xs.getD i d] := by
  rw [List.take_succ_eq_append_getElem h, getD_eq d h]
theorem take_succ_rd {xs : List Int} {i : Nat} (h : i < xs.length) : xs.take (i + 1) = xs.take i ++ [rd xs (i : Int)] := by
  rw [List.take_succ_eq_append_getElem h, rd_eq h]
theorem ret_bool {a b : Bool} (h : a = b) : Ending.returned (.bool a) = .returned (.bool b) := by rw [h]
theorem ret_int {k : IntKind} {a b : Int} (h : a = b) : Ending.returned (.int k a) = .returned (.int k b) := by rw [h]
theorem wrap_id {x : Int} (h0 : -9223372036854775808 ≤ x) (h1 : x ≤ 9223372036854775807) : wrap64 x = x := by
  unfold wrap64
  omega
theorem wrap_i {x : Int} (h0 : -9223372036854775808 ≤ x) (h1 : x ≤ 9223372036854775807) : IntKind.i64.wrap x = x := (i64_w _).trans (wrap_id h0 h1)
theorem wf_i64 {x : Int} (h : (Lit.int .i64 x).wf = true) : -9223372036854775808 ≤ x ∧ x ≤ 9223372036854775807 := by
  have h' : IntKind.min .i64 ≤ x ∧ x ≤ IntKind.max .i64 := by simpa [Lit.wf] using h
  have e1 : IntKind.min .i64 = -9223372036854775808 := by decide
  have e2 : IntKind.max .i64 = 9223372036854775807 := by decide
  omega
theorem snoc_cases {α : Type} (l : List α) : l = [] ∨ ∃ i e, l = i ++ [e] := by
  rcases List.eq_nil_or_concat l with h | ⟨i, e, h⟩
  · exact .inl h
  · exact .inr ⟨i, e, by rw [h, List.concat_eq_append]⟩
theorem ext_lt {P : Nat → Prop} {k : Nat} (h : ∀ j, j < k → P j) (hk : P k) : ∀ j, j < k + 1 → P j := fun j hj => by
  rcases Nat.lt_or_ge j k with h' | h'
  · exact h j h'
  · obtain rfl : j = k := by omega
    exact hk
theorem at_nat {w : World} {A : Option Addr} {n : Nat} {k : IntKind} {xs : List Int} (h : (Kd.int k).C w A n xs) (i : Nat) (h1 : i < n) : ∃ ad, A = some ad ∧ w.cell? (ad.add i) = some (.int k (rd xs (i : Int))) := by
  obtain ⟨ad, e, hx⟩ := Kd.at_int h (i : Int) (by omega) (by omega)
  exact ⟨ad, e, by simpa using hx⟩
def str (xs : List ByteArray) (i : Nat) : ByteArray := xs.getD i ByteArray.empty
theorem at_str {w : World} {A : Option Addr} {n : Nat} {xs : List ByteArray} (h : Kd.string.C w A n xs) (i : Nat) (h1 : i < n) : ∃ ad, A = some ad ∧ w.cell? (ad.add i) = some (.string (str xs i)) := by
  obtain ⟨ad, c, e, _, hK, hc0⟩ := Kd.C_get h ByteArray.empty (i : Int) (by omega) (by omega)
  have hK : c = [.string (str xs i)] := by
    rw [Int.toNat_natCast] at hK
    exact hK
  subst hK
  exact ⟨ad, e, by simpa [show Kd.string.sz = 1 from rfl] using hc0 0 _ rfl⟩
section
variable {α : Type} {d : Kd α} {e base g n cap : Nat} {W : World} {ok okp : Nat → Prop} {xs : List α}
theorem R_elemN (h : d.R e W base ok (.slice (some ⟨g, 0, none⟩) n cap) xs) (z : α) (i : Nat) (h1 : i < n) :
    ∃ c, c.length = d.sz ∧ d.M W base (fun k => ok k ∧ k ≠ g) (xs.getD i z) c ∧ (∀ j u, c[j]? = some u → W.cell? ⟨g, i * d.sz + j, none⟩ = some u) ∧ ∀ j, W.frozen? ⟨g, i * d.sz + j, none⟩ = false := by
  simpa using Kd.R_elem h z (i : Int) (by omega) (by omega)
theorem R_segN (h : d.R e W base ok (.slice (some ⟨g, 0, none⟩) n cap) xs) (i : Nat) (h1 : i < n) {c seg : List Value} {j : Nat} (hcl : c.length = d.sz) (hcc : ∀ j u, c[j]? = some u → W.cell? ⟨g, i * d.sz + j, none⟩ = some u)
    (hj : j + seg.length ≤ d.sz) {x' : α} (hM : d.M W base okp x' (c.take j ++ seg ++ c.drop (j + seg.length))) (hokp : ∀ k, okp k → ok k ∧ k ≠ g) :
    d.R e (W.setCells g (i * d.sz + j) seg) base ok (.slice (some ⟨g, 0, none⟩) n cap) (xs.set i x') ∧ W.grownBy (W.setCells g (i * d.sz + j) seg) (some g) := by
  simpa using Kd.R_seg h (i : Int) (by omega) (by omega) hcl (by simpa using hcc) hj hM hokp
theorem R_empty (d : Kd α) (e : Nat) (W : World) (base : Nat) (hb : base ≤ W.heap.size) : d.R e (W.alloc (.cells #[] e)) base (fun _ => True) (.slice (some ⟨W.heap.size, 0, none⟩) 0 0) [] :=
  ⟨fun _ _ => trivial, OwnRow.lit W base (Reps.none _ _) hb (by simp)⟩
end
theorem C_nil {α : Type} (d : Kd α) (w : World) : Kd.C d w none ([] : List α).length [] := ⟨rfl, by simp, fun h => by simp at h⟩
theorem ints_cell {W : World} {base g n cap e : Nat} {k : IntKind} {ok : Nat → Prop} {xs : List Int} (h : (Kd.int k).R e W base ok (.slice (some ⟨g, 0, none⟩) n cap) xs) (i : Nat) (hi : i < n) : W.cell? ⟨g, i, none⟩ = some (.int k (rd xs (i : Int))) ∧ W.frozen? ⟨g, i, none⟩ = false := by
  obtain ⟨c, hcl, hM, hcc, hfr⟩ := R_elemN h 0 i hi
  obtain rfl : c = [.int k (xs.getD i 0)] := hM
  have h1 := hcc 0 _ rfl
  have h2 := hfr 0
  exact ⟨by simpa [show (Kd.int k).sz = 1 from rfl, rd] using h1, by simpa [show (Kd.int k).sz = 1 from rfl] using h2⟩
theorem ints_store {W : World} {base g n cap e : Nat} {k : IntKind} {ok : Nat → Prop} {xs : List Int} (h : (Kd.int k).R e W base ok (.slice (some ⟨g, 0, none⟩) n cap) xs) (i : Nat) (hi : i < n) (v : Int) :
    (Kd.int k).R e (W.setCell ⟨g, i, none⟩ (.int k v)) base ok (.slice (some ⟨g, 0, none⟩) n cap) (xs.set i v) ∧ W.grownBy (W.setCell ⟨g, i, none⟩ (.int k v)) (some g) ∧ base ≤ g := by
  obtain ⟨c, hcl, hM, hcc, hfr⟩ := R_elemN h 0 i hi
  obtain ⟨hs, hg⟩ := R_segN h i hi (seg := [.int k v]) (j := 0) hcl hcc (Nat.le_refl 1) (x' := v) (okp := fun _ => False) (by simp [hcl, show (Kd.int k).sz = 1 from rfl, List.drop_eq_nil_of_le]; rfl) (fun _ h => h.elim)
  have e' : W.setCells g (i * (Kd.int k).sz + 0) [.int k v] = W.setCell ⟨g, i, none⟩ (.int k v) := by
    rw [show (Kd.int k).sz = 1 from rfl, Nat.mul_one]; rfl
  rw [e'] at hs hg
  exact ⟨hs, hg, Kd.R_base h g (by simp [Value.ownBlock])⟩
theorem box_cell (w : World) (n : Nat) (hn : w.heap.size = n) (cs : Array Value) (t : TypeId) (i : Nat) (v : Value) (h : cs[i]? = some v) : (w.alloc (.cells cs t)).cell? ⟨n, i, none⟩ = some v := by
  subst hn
  have hh : (w.alloc (.cells cs t)).heap[w.heap.size]? = some (.cells cs t (0, 0)) := by simpa using heap_alloc_new w _
  rw [blk_cell hh, h]
theorem box_cell2 (w : World) (n : Nat) (hn : w.heap.size = n) (cs : Array Value) (t : TypeId) (o : Obj) (i : Nat) (v : Value) (h : cs[i]? = some v) : ((w.alloc (.cells cs t)).alloc o).cell? ⟨n, i, none⟩ = some v :=
  pw_cell_below (below_alloc (Below.refl _ _) o) (box_cell w n hn cs t i v h)
theorem reps_more {α : Type} {R : α → List Value → Prop} {size : Nat} (f : α → List Value) (h : ∀ p, R p (f p)) (hl : ∀ p, (f p).length = size) : ∀ (ps qs : List α) (cs : List Value), Reps R size qs cs → Reps R size (qs ++ ps) (cs ++ ps.flatMap f) := by
  intro ps
  induction ps with
  | nil => intro qs cs hr; simpa using hr
  | cons p ps ih =>
    intro qs cs hr
    have := ih (qs ++ [p]) (cs ++ f p) (Reps.snoc hr (h p) (hl p))
    simpa using this
theorem reps_flatMap {α : Type} {R : α → List Value → Prop} {size : Nat} (f : α → List Value) (h : ∀ p, R p (f p)) (hl : ∀ p, (f p).length = size) (ps : List α) : Reps R size ps (ps.flatMap f) := by
  simpa using reps_more f h hl ps [] [] (Reps.none _ _)
theorem R_lits {α : Type} (d : Kd α) (e : Nat) (f : α → List Value) (W : World) (base : Nat) (ps : List α) (h : ∀ p, d.M W base (fun _ => False) p (f p)) (hl : ∀ p, (f p).length = d.sz) (hb : base ≤ W.heap.size) (hm : ps.length ≤ 9223372036854775807) {cs : Array Value} (hcs : cs = (ps.flatMap f).toArray) :
    d.R e (W.alloc (.cells cs e)) base (fun _ => True) (.slice (some ⟨W.heap.size, 0, none⟩) ps.length ps.length) ps := by
  subst hcs
  exact ⟨fun _ _ => trivial, OwnRow.imp_ (OwnRow.lit (R := fun p c => d.M W base (fun _ => False) p c) W base (reps_flatMap f h hl ps) hb hm) (fun p c hp => d.M_mono (fun _ h => h.elim) (Kd.M_alloc hp _))⟩
theorem C_ints (W : World) (e n : Nat) (hn : W.heap.size = n) (ps : List Int) (hm : ps.length ≤ 9223372036854775807) {cs : Array Value} (hcs : cs = (ps.flatMap fun x => [.int .i64 x]).toArray) : Kd.C (Kd.int .i64) (W.alloc (.cells cs e)) (some ⟨n, 0, none⟩) ps.length ps := by
  subst hn
  exact (Kd.R_reads' (R_lits (Kd.int .i64) e (fun x => [.int .i64 x]) W W.heap.size ps (fun _ => rfl) (fun _ => rfl) (Nat.le_refl _) hm hcs)).2.2
theorem C_strs (W : World) (e n : Nat) (hn : W.heap.size = n) (ps : List ByteArray) (hm : ps.length ≤ 9223372036854775807) {cs : Array Value} (hcs : cs = (ps.flatMap fun x => [.string x]).toArray) : Kd.C Kd.string (W.alloc (.cells cs e)) (some ⟨n, 0, none⟩) ps.length ps := by
  subst hn
  exact (Kd.R_reads' (R_lits Kd.string e (fun x => [.string x]) W W.heap.size ps (fun _ => rfl) (fun _ => rfl) (Nat.le_refl _) hm hcs)).2.2
structure Node where
  kind : Int
  ints : List Int
  texts : List ByteArray
  kids : List Int
structure Scene where
  nodes : List Node
  root : Int
def nodez : Node := ⟨0, [], [], []⟩
def kNode : Kd Node := Kd.iso (Kd.pair (Kd.int .i64) (Kd.pair (Kd.slice 2 (Kd.int .i64)) (Kd.pair (Kd.slice 9 Kd.string) (Kd.slice 3 (Kd.int .i64))))) (fun x : Node => (x.kind, x.ints, x.texts, x.kids))
def nd (xs : List Node) (i : Nat) : Node := xs.getD i nodez
structure NodeC (w : World) (n : Node) (A1 : Option Addr) (c1 : Nat) (A2 : Option Addr) (c2 : Nat) (A3 : Option Addr) (c3 : Nat) : Prop where
  l1 : n.ints.length ≤ c1
  l2 : n.texts.length ≤ c2
  l3 : n.kids.length ≤ c3
  i : (Kd.int .i64).C w A1 n.ints.length n.ints
  t : Kd.string.C w A2 n.texts.length n.texts
  k : (Kd.int .i64).C w A3 n.kids.length n.kids
theorem NodeC.below {w w' : World} {n : Node} {A1 A2 A3 : Option Addr} {c1 c2 c3 : Nat} (h : NodeC w n A1 c1 A2 c2 A3 c3) (hb : Below w.heap.size w w') : NodeC w' n A1 c1 A2 c2 A3 c3 :=
  ⟨h.l1, h.l2, h.l3, Kd.C_below h.i hb, Kd.C_below h.t hb, Kd.C_below h.k hb⟩
theorem NodeC.alloc {w : World} {n : Node} {A1 A2 A3 : Option Addr} {c1 c2 c3 : Nat} (h : NodeC w n A1 c1 A2 c2 A3 c3) (o : Obj) : NodeC (w.alloc o) n A1 c1 A2 c2 A3 c3 := h.below (below_alloc (Below.refl _ _) o)
theorem NodeC.drewN {w : World} {n : Node} {A1 A2 A3 : Option Addr} {c1 c2 c3 : Nat} (h : NodeC w n A1 c1 A2 c2 A3 c3) (m : Nat) : NodeC (w.drewN m) n A1 c1 A2 c2 A3 c3 := h.below (pw_below_drewN (Below.refl _ _) m)
theorem kNode_open {w : World} {x : Node} {cs : List Value} (h : kNode.K w x cs) : ∃ A1 c1 A2 c2 A3 c3, cs = [.int .i64 x.kind, .slice A1 x.ints.length c1, .slice A2 x.texts.length c2, .slice A3 x.kids.length c3] ∧ NodeC w x A1 c1 A2 c2 A3 c3 := by
  obtain ⟨_, _, rfl, rfl, ⟨_, _, rfl, ⟨A1, c1, rfl, l1, h1⟩, ⟨_, _, rfl, ⟨A2, c2, rfl, l2, h2⟩, ⟨A3, c3, rfl, l3, h3⟩⟩⟩⟩ := h
  exact ⟨A1, c1, A2, c2, A3, c3, rfl, l1, l2, l3, h1, h2, h3⟩
theorem kNode_mk {w : World} {x : Node} {A1 A2 A3 : Option Addr} {c1 c2 c3 : Nat} (h : NodeC w x A1 c1 A2 c2 A3 c3) : kNode.K w x [.int .i64 x.kind, .slice A1 x.ints.length c1, .slice A2 x.texts.length c2, .slice A3 x.kids.length c3] :=
  ⟨[_], _, rfl, rfl, ⟨[_], _, rfl, ⟨A1, c1, rfl, h.l1, h.i⟩, ⟨[_], _, rfl, ⟨A2, c2, rfl, h.l2, h.t⟩, ⟨A3, c3, rfl, h.l3, h.k⟩⟩⟩⟩
theorem at_node {w : World} {A : Option Addr} {n : Nat} {xs : List Node} (h : kNode.C w A n xs) (i : Nat) (h1 : i < n) :
    ∃ ad A1 c1 A2 c2 A3 c3, A = some ad ∧ w.cell? (ad.add (i * 4)) = some (.int .i64 (nd xs i).kind) ∧ w.cell? ⟨(ad.add (i * 4)).block, (ad.add (i * 4)).off + 1, none⟩ = some (.slice A1 (nd xs i).ints.length c1) ∧ w.cell? ⟨(ad.add (i * 4)).block, (ad.add (i * 4)).off + 2, none⟩ = some (.slice A2 (nd xs i).texts.length c2) ∧ w.cell? ⟨(ad.add (i * 4)).block, (ad.add (i * 4)).off + 3, none⟩ = some (.slice A3 (nd xs i).kids.length c3) ∧ NodeC w (nd xs i) A1 c1 A2 c2 A3 c3 := by
  obtain ⟨ad, c, e, _, hK, hc0⟩ := Kd.C_get h nodez (i : Int) (by omega) (by omega)
  have hc : ∀ j u, c[j]? = some u → w.cell? (ad.add (i * 4 + j)) = some u := fun j u h => by simpa [show kNode.sz = 4 from rfl] using hc0 j u h
  have hK' : kNode.K w (nd xs i) c := by simpa [nd] using hK
  obtain ⟨A1, c1, A2, c2, A3, c3, rfl, hN⟩ := kNode_open hK'
  refine ⟨ad, A1, c1, A2, c2, A3, c3, e, hc 0 _ rfl, ?_, ?_, ?_, hN⟩
  · rw [← add_field _ _ 1 (by omega)]; exact hc 1 _ rfl
  · rw [← add_field _ _ 2 (by omega)]; exact hc 2 _ rfl
  · rw [← add_field _ _ 3 (by omega)]; exact hc 3 _ rfl
section
open Go.Maps
def heldE (v : Value) : Option (DataW Value × List MemPlace) := some (.held v, [])
def MapF (P : Program) (k : TypeId) (w : World) (b n : Nat) (f : Lit → Option Value) : Prop :=
  ∃ D : DataW Value, w.ownsMap P k heldE b n D ∧ ∀ q, Maps.has D q = (f q).isSome ∧ ∀ v z, f q = some v → D.atKey q z = .held v
section
variable {P : Program} {k : TypeId} {w w1 : World} {b n : Nat} {f : Lit → Option Value}
theorem MapF.made (P : Program) (k : TypeId) (w : World) : MapF P k (w.alloc (.map #[] 0)) w.heap.size 0 (fun _ => none) :=
  ⟨.map [], World.ownsMap_made w P k heldE, fun q => ⟨rfl, fun v z h => by cases h⟩⟩
theorem MapF.lt (h : MapF P k w b n f) : b < w.heap.size := by
  obtain ⟨D, h, _⟩ := h
  exact h.lt
theorem MapF.kept {row : Option Nat} (h : MapF P k w b n f) (hg : w.grownBy w1 row) (hne : some b ≠ row) : MapF P k w1 b n f := by
  obtain ⟨D, h, hf⟩ := h
  exact ⟨D, h.kept hg hne, hf⟩
theorem MapF.below (h : MapF P k w b n f) (hb : Below w.heap.size w w1) : MapF P k w1 b n f := h.kept (row := none) ⟨hb.os, hb.tape, hb.output, hb.size, fun i hi _ => hb.block i hi⟩ (by simp)
theorem MapF.setCell (h : MapF P k w b n f) {a : Addr} (ha : b ≠ a.block) (u : Value) : MapF P k (w.setCell a u) b n f := by
  obtain ⟨D, h, hf⟩ := h
  exact ⟨D, h.setCell ha u, hf⟩
theorem MapF.mono (h : MapF P k w b n f) {n' : Nat} (hn : n ≤ n') : MapF P k w b n' f := by
  obtain ⟨D, h, hf⟩ := h
  exact ⟨D, h.mono hn, hf⟩
theorem MapF.not_cells (h : MapF P k w b n f) {cs : Array Value} {t : TypeId} {fr : Nat × Nat} : ¬ w.heap[b]? = some (.cells cs t fr) := by
  obtain ⟨D, ⟨es, clock, hb, _⟩, _⟩ := h
  rw [hb]
  intro h
  cases h
theorem MapF.ne_row {α : Type} {d : Kd α} {e base : Nat} {ok : Nat → Prop} {v : Value} {xs : List α} (h : MapF P k w b n f) (hR : d.R e w base ok v xs) : some b ≠ v.ownBlock := fun he => by
  obtain ⟨cells, hc⟩ := Kd.R_typed hR b he.symm
  exact h.not_cells hc
theorem R_past_map {α : Type} {d : Kd α} {e base : Nat} {ok : Nat → Prop} {v : Value} {xs : List α} (hR : d.R e w base ok v xs) (h : MapF P k w b n f) (hg : w.grownBy w1 (some b)) : d.R e w1 base ok v xs :=
  Kd.R_mono (Kd.R_grown (Kd.R_bound hR) hg (fun q hq he => by
    obtain ⟨_, _, _, e', _, cells, hc⟩ := hq
    injection he with he
    subst he
    exact h.not_cells hc)) (fun _ hq => hq.1)
theorem below_map {B : Nat} {w0 : World} (h : Below B w0 w) (hB : B ≤ w.heap.size) (hg : w.grownBy w1 (some b)) (hb : B ≤ b) : Below B w0 w1 := h.grown hg hB (fun q hq => by injection hq with hq; omega)
open Classical in
noncomputable def putF (f : Lit → Option Value) (q : Lit) (v : Value) : Lit → Option Value := fun x => if x = q then some v else f x
theorem putF_same (f : Lit → Option Value) (q : Lit) (v : Value) : putF f q v q = some v := by simp [putF]
theorem putF_other (f : Lit → Option Value) {q x : Lit} (v : Value) (h : x ≠ q) : putF f q v x = f x := by simp [putF, h]
end
section
variable {P : Program} (w : World) {ops : Array Oper} {rest : List Oper} {o : Oper} {a : Act} {Q : Exit → Act → World → Prop}
theorem MapF.run_lookup {b n : Nat} {f : Lit → Option Value} {k e : TypeId} (t : TypeId) (hown : MapF P k w b n f) (K : Keyed P k) (ht : P.underlying t = some (.map k e)) {z : Value} (hz : (zeroValue e).run P w = .ok z w) {key : Value} {kl : Lit} (hkey : keyOf P k key = some kl) :
    (Instr.lookup t (.map (some b)) key false).run P w = .ok ((f kl).getD z) w := by
  obtain ⟨D, hown, hf⟩ := hown
  obtain ⟨v, ps, hrun, hv⟩ := hown.lookup (z := z) (zd := .held z) (zp := []) K ht hz rfl hkey
  have e : v = (f kl).getD z := by
    have hv' : DataW.held v = D.atKey kl (.held z) := by
      have := Option.some.inj hv
      exact (Prod.mk.inj this).1
    cases hq : f kl with
    | none =>
      have h1 := (hf kl).1
      rw [hq] at h1
      rw [Maps.atKey_of_not_has h1] at hv'
      exact DataW.held.inj hv'
    | some u =>
      rw [(hf kl).2 u _ hq] at hv'
      exact DataW.held.inj hv'
  rw [← e]; exact hrun
theorem wpList_lookup_F (hg : o.guard = none) (m x : Operand) (t : TypeId) (hop : o.op = Op.lookup t m x false)
    (k e : TypeId) (K : Keyed P k) (ht : P.underlying t = some (.map k e)) {z : Value} (hz : (zeroValue e).run P w = .ok z w) (b n : Nat) (f : Lit → Option Value)
    (hm : a.eval m = .map (some b)) (hown : MapF P k w b n f) (key : Value) (kl : Lit) (hx : a.eval x = key) (hkey : keyOf P k key = some kl) (u : Value) (hu : (f kl).getD z = u)
    (hK : wpList P ops Q rest (a.put o.dst u) w) :
    wpList P ops Q (o :: rest) a w := by
  subst hu
  obtain ⟨D, hown, hf⟩ := hown
  refine wpList_plain hg fun K' hK' => ?_
  obtain ⟨v, ps, hrun, hv⟩ := hown.lookup (z := z) (zd := .held z) (zp := []) K ht hz rfl hkey
  have e : v = (f kl).getD z := by
    have hv' : DataW.held v = D.atKey kl (.held z) := by
      have := Option.some.inj hv
      exact (Prod.mk.inj this).1
    cases hq : f kl with
    | none =>
      have h1 := (hf kl).1
      rw [hq] at h1
      rw [Maps.atKey_of_not_has h1] at hv'
      exact DataW.held.inj hv'
    | some u =>
      rw [(hf kl).2 u _ hq] at hv'
      exact DataW.held.inj hv'
  subst e
  unfold Oper.wp
  simp [execOp, hop, hm, hx, hrun, Result.andThen]
  exact hK' _ _ hK
theorem wpList_lookup_F_ok (hg : o.guard = none) (m x : Operand) (t : TypeId) (hop : o.op = Op.lookup t m x true)
    (k e : TypeId) (K : Keyed P k) (ht : P.underlying t = some (.map k e)) {z : Value} (hz : (zeroValue e).run P w = .ok z w) (b n : Nat) (f : Lit → Option Value)
    (hm : a.eval m = .map (some b)) (hown : MapF P k w b n f) (key : Value) (kl : Lit) (hx : a.eval x = key) (hkey : keyOf P k key = some kl) (u : Value) (hu : (f kl).getD z = u) (ok : Bool) (hok : (f kl).isSome = ok)
    (hK : wpList P ops Q rest (a.put o.dst (.tuple #[u, .bool ok])) w) :
    wpList P ops Q (o :: rest) a w := by
  subst hu hok
  obtain ⟨D, hown, hf⟩ := hown
  refine wpList_plain hg fun K' hK' => ?_
  obtain ⟨v, ps, hrun, hv⟩ := hown.look_ok (z := z) (zd := .held z) (zp := []) K ht hz rfl hkey
  have e : v = (f kl).getD z := by
    have hv' : DataW.held v = D.atKey kl (.held z) := by
      have := Option.some.inj hv
      exact (Prod.mk.inj this).1
    cases hq : f kl with
    | none =>
      have h1 := (hf kl).1
      rw [hq] at h1
      rw [Maps.atKey_of_not_has h1] at hv'
      exact DataW.held.inj hv'
    | some u =>
      rw [(hf kl).2 u _ hq] at hv'
      exact DataW.held.inj hv'
  subst e
  rw [(hf kl).1] at hrun
  unfold Oper.wp
  simp [execOp, hop, hm, hx, hrun, Result.andThen]
  exact hK' _ _ hK
theorem wpList_update_F (hg : o.guard = none) (m x v : Operand) (t : TypeId) (hop : o.op = Op.mapUpdate t m x v)
    (k e : TypeId) (K : Keyed P k) (ht : P.underlying t = some (.map k e)) (b n : Nat) (f : Lit → Option Value)
    (hm : a.eval m = .map (some b)) (hown : MapF P k w b n f) (hn : n < maxLen) (key val : Value) (kl : Lit) (hx : a.eval x = key) (hv : a.eval v = val) (hkey : keyOf P k key = some kl)
    (hK : ∀ w', MapF P k w' b (n + 1) (putF f kl val) → w.grownBy w' (some b) → wpList P ops Q rest (a.put o.dst undef) w') :
    wpList P ops Q (o :: rest) a w := by
  obtain ⟨D, hown, hf⟩ := hown
  have hm' := hown.isMap
  have hkl : WideAt.IsKeyLit kl := K.key hkey
  refine wpList_mapUpdate_own w hg m x v t hop k e K ht heldE b n D hm hown hn key val kl hx hv hkey (.held val) [] rfl ?_
  intro w' h1 h2
  refine hK w' ⟨_, h1, fun q => ?_⟩ h2
  by_cases hq : q = kl
  · subst hq
    rw [Maps.has_put_same hm' hkl, putF_same]
    refine ⟨rfl, fun u z hu => ?_⟩
    cases hu
    exact Maps.atKey_put_same hm' hkl _ _
  · rw [Maps.has_put_other hq, putF_other f val hq]
    refine ⟨(hf q).1, fun u z hu => ?_⟩
    rw [Maps.atKey_put_other hq]
    exact (hf q).2 u z hu
end
end
end Go.Proofs.YtggldnbhmebcpaaDoor.L
end
section
namespace Go.Proofs.YtggldnbhmebcpaaDoor.L
open Go.RowKit Go.ChangeShapes Go.WideShapes Go.Proofs.YtggldnbhmebcpaaDoorW.PrintWords Go.Proofs.YtggldnbhmebcpaaDoorW.PrintLast Go.Proofs.YtggldnbhmebcpaaDoorW.PrintMore
attribute [local go_sem] max2_int min2_int max_two min_two max_three min_three max_four min_four
structure RowsM (w0 W : World) (mb n : Nat) (f : Lit → Option Value) (tg : Nat → List UInt8) (rows : List UInt8 → List Int) : Prop where
  map : MapF Tryd.prog 9 W mb n f
  row : ∀ q, (Kd.int .i64).R 3 W w0.heap.size (fun k => tg k = q) ((f (.string q)).getD (.slice none 0 0)) (rows q)
  below : Below w0.heap.size w0 W
  ge : w0.heap.size ≤ mb
def tgN (tg : Nat → List UInt8) (N : Nat) (q : List UInt8) : Nat → List UInt8 := fun k => if k < N then tg k else q
section
variable {w0 W w1 w2 : World} {mb n : Nat} {f : Lit → Option Value} {tg : Nat → List UInt8} {rows : List UInt8 → List Int}
theorem RowsM.start (w0 : World) (tg : Nat → List UInt8) : RowsM w0 (w0.alloc (.map #[] 0)) w0.heap.size 0 (fun _ => none) tg (fun _ => []) :=
  ⟨MapF.made _ _ _, fun _ => Kd.R_nil _ _ _ _ _, below_alloc (Below.refl _ _) _, Nat.le_refl _⟩
theorem RowsM.later (h : RowsM w0 W mb n f tg rows) (hb : Below W.heap.size W w1) : RowsM w0 w1 mb n f tg rows :=
  ⟨h.map.below hb, fun q => Kd.R_below (h.row q) hb, below_step h.below hb, h.ge⟩
theorem RowsM.lend (h : RowsM w0 W mb n f tg rows) (q : List UInt8) : (Kd.int .i64).R 3 W w0.heap.size (fun k => tgN tg W.heap.size q k = q) ((f (.string q)).getD (.slice none 0 0)) (rows q) :=
  Kd.R_mono (Kd.R_bound (h.row q)) (fun k hk => by unfold tgN; rw [if_pos hk.2.2.1]; exact hk.1)
theorem RowsM.fresh (q : List UInt8) : ∀ k, W.heap.size ≤ k → tgN tg W.heap.size q k = q := fun k hk => by unfold tgN; rw [if_neg (by omega)]
theorem RowsM.push (h : RowsM w0 W mb n f tg rows) {q : List UInt8} {x : Int} {v1 : Value} (hR : (Kd.int .i64).R 3 w1 w0.heap.size (fun k => tgN tg W.heap.size q k = q) v1 (rows q ++ [x])) (hB : Below w0.heap.size w0 w1)
    (hg : W.grownBy w1 ((f (.string q)).getD (.slice none 0 0)).ownBlock) :
    MapF Tryd.prog 9 w1 mb n f ∧ ∀ w2, MapF Tryd.prog 9 w2 mb (n + 1) (putF f (.string q) v1) → w1.grownBy w2 (some mb) → RowsM w0 w2 mb (n + 1) (putF f (.string q) v1) (tgN tg W.heap.size q) (fun p => if p = q then rows q ++ [x] else rows p) := by
  have hM := h.map.kept hg (h.map.ne_row (h.row q))
  refine ⟨hM, fun w2 hM2 hg2 => ⟨hM2, fun p => ?_, below_map hB hB.size hg2 h.ge, h.ge⟩⟩
  by_cases hp : p = q
  · subst hp
    rw [putF_same, if_pos rfl]
    exact R_past_map hR hM hg2
  · rw [putF_other _ _ (fun e => hp (by injection e)), if_neg hp]
    refine R_past_map ?_ hM hg2
    refine Kd.R_mono (Kd.R_grown (Kd.R_bound (h.row p)) hg (fun k hk e => ?_)) (fun k hk => ?_)
    · have := (h.row q).1 k e.symm
      exact hp (hk.1.symm.trans this)
    · unfold tgN
      rw [if_pos hk.2.2.1]
      exact hk.1
end
structure FreeM (w0 W : World) (N mb n : Nat) (f : Lit → Option Value) (full : List UInt8 → List Int) (cut : List UInt8 → Nat) : Prop where
  map : MapF Tryd.prog 9 W mb n f
  row : ∀ q, cut q ≤ (full q).length ∧ ∃ A c, (Kd.int .i64).R 3 W w0.heap.size (fun k => k < N) (.slice A (full q).length c) (full q) ∧
    ∃ A' c', (f (.string q)).getD (.slice none 0 0) = .slice A' ((full q).length - cut q) c' ∧ (cut q < (full q).length → A' = A.map (fun a => a.add (cut q)) ∧ c' = c - cut q)
  below : Below w0.heap.size w0 W
  ge : w0.heap.size ≤ mb
section
variable {w0 W w1 : World} {N mb n : Nat} {f : Lit → Option Value} {full : List UInt8 → List Int} {cut : List UInt8 → Nat}
theorem RowsM.free {tg : Nat → List UInt8} (h : RowsM w0 W mb n f tg full) : FreeM w0 W W.heap.size mb n f full (fun _ => 0) :=
  ⟨h.map, fun q => by
    have hr := Kd.R_mono (Kd.R_bound (h.row q)) (fun k hk => hk.2.2.1) (ok' := fun k => k < W.heap.size)
    obtain ⟨A, c, e⟩ := Kd.R_slice hr
    rw [e] at hr
    refine ⟨Nat.zero_le _, A, c, hr, A, c, e, fun _ => ⟨?_, rfl⟩⟩
    cases A with
    | none => rfl
    | some a => simp [Addr.add], h.below, h.ge⟩
theorem FreeM.later (h : FreeM w0 W N mb n f full cut) (hb : Below W.heap.size W w1) : FreeM w0 w1 N mb n f full cut :=
  ⟨h.map.below hb, fun q => by
    obtain ⟨h1, A, c, h2, h3⟩ := h.row q
    exact ⟨h1, A, c, Kd.R_below h2 hb, h3⟩, below_step h.below hb, h.ge⟩
theorem FreeM.far (h : FreeM w0 W N mb n f full cut) {g j : Nat} (hg : N ≤ g) (hg0 : w0.heap.size ≤ g) (hm : mb ≠ g) (u : Value) : FreeM w0 (W.setCell ⟨g, j, none⟩ u) N mb n f full cut :=
  ⟨h.map.setCell hm u, fun q => by
    obtain ⟨h1, A, c, h2, h3⟩ := h.row q
    exact ⟨h1, A, c, Kd.R_far h2 (fun k hk => by show k ≠ g; omega) u, h3⟩, below_set h.below hg0, h.ge⟩
end
section
variable {w0 W w1 : World} {N mb tb n n' m : Nat} {f : Lit → Option Value} {g : Lit → Option Value} {kt : TypeId} {full : List UInt8 → List Int} {cut : List UInt8 → Nat}
theorem FreeM.past (h : FreeM w0 W N mb n f full cut) (hT : MapF Tryd.prog kt W tb m g) (hg : W.grownBy w1 (some tb)) (hne : mb ≠ tb) (hge : w0.heap.size ≤ tb) : FreeM w0 w1 N mb n f full cut :=
  ⟨h.map.kept hg (fun e => hne (by injection e)), fun q => by
    obtain ⟨h1, A, c, h2, h3⟩ := h.row q
    exact ⟨h1, A, c, R_past_map h2 hT hg, h3⟩, below_map h.below h.below.size hg hge, h.ge⟩
theorem FreeM.cutTo (h : FreeM w0 W N mb n f full cut) {q : List UInt8} {d : Nat} (hd : d ≤ (full q).length) {A A' : Option Addr} {c c' : Nat}
    (hR : (Kd.int .i64).R 3 W w0.heap.size (fun k => k < N) (.slice A (full q).length c) (full q)) (hA : d < (full q).length → A' = A.map (fun a => a.add d) ∧ c' = c - d)
    (hM : MapF Tryd.prog 9 w1 mb n' (putF f (.string q) (.slice A' ((full q).length - d) c'))) (hg : W.grownBy w1 (some mb)) :
    FreeM w0 w1 N mb n' (putF f (.string q) (.slice A' ((full q).length - d) c')) full (fun p => if p = q then d else cut p) :=
  ⟨hM, fun p => by
    by_cases hp : p = q
    · subst hp
      rw [putF_same, if_pos rfl]
      exact ⟨hd, A, c, R_past_map hR h.map hg, A', c', rfl, hA⟩
    · rw [putF_other _ _ (fun e => hp (by injection e)), if_neg hp]
      obtain ⟨h1, A, c, h2, h3⟩ := h.row p
      exact ⟨h1, A, c, R_past_map h2 h.map hg, h3⟩, below_map h.below h.below.size hg h.ge, h.ge⟩
end
end Go.Proofs.YtggldnbhmebcpaaDoor.L
end
section
namespace Go.Proofs.YtggldnbhmebcpaaDoor.L
open Go.RowKit Go.ChangeShapes Go.WideShapes Go.Proofs.YtggldnbhmebcpaaDoorW.PrintWords Go.Proofs.YtggldnbhmebcpaaDoorW.PrintLast Go.Proofs.YtggldnbhmebcpaaDoorW.PrintMore
attribute [local go_sem] max2_int min2_int max_two min_two max_three min_three max_four min_four
def firstF (P : Nat → Bool) (tk : List Int) (n : Nat) : Int :=
  match (List.range n).find? (fun k => P k && !decide ((k : Int) ∈ tk)) with
  | some k => (k : Int)
  | none => -1
theorem firstF_cases (P : Nat → Bool) (tk : List Int) (n : Nat) :
    (firstF P tk n = -1 ∧ ∀ k : Nat, k < n → P k = true → (k : Int) ∈ tk) ∨
    (∃ k : Nat, k < n ∧ firstF P tk n = (k : Int) ∧ P k = true ∧ (k : Int) ∉ tk ∧ ∀ j : Nat, j < k → P j = true → (j : Int) ∈ tk) := by
  unfold firstF
  cases h : (List.range n).find? (fun k => P k && !decide ((k : Int) ∈ tk)) with
  | none =>
    refine .inl ⟨rfl, fun k hk hp => ?_⟩
    have := List.find?_eq_none.1 h k (List.mem_range.2 hk)
    simpa [hp] using this
  | some k =>
    obtain ⟨h1, us, bs, h2, h3⟩ := List.find?_eq_some_iff_append.1 h
    have hk : k < n := List.mem_range.1 (h2 ▸ by simp)
    have hk2 : us = List.range k := by
      have e1 : us.length = k := by
        have := (congrArg (fun l : List Nat => l[us.length]?) h2 : (List.range n)[us.length]? = (us ++ k :: bs)[us.length]?)
        simp only [List.getElem?_append_right (Nat.le_refl _), Nat.sub_self, List.getElem?_cons_zero] at this
        have hl : us.length < (List.range n).length := by rw [h2]; simp
        rw [List.getElem?_eq_getElem hl, List.getElem_range] at this
        injection this
      have := (congrArg (fun l : List Nat => l.take k) h2 : (List.range n).take k = (us ++ k :: bs).take k)
      rw [List.take_append_of_le_length (by omega), List.take_of_length_le (l := us) (by omega), List.take_range, Nat.min_eq_left (by omega)] at this
      exact this.symm
    simp only [Bool.and_eq_true, Bool.not_eq_true', decide_eq_false_iff_not] at h1
    refine .inr ⟨k, hk, rfl, h1.1, h1.2, fun j hj hp => ?_⟩
    have := h3 j (by rw [hk2]; exact List.mem_range.2 hj)
    simpa [hp] using this
def rndA (P : Nat → Nat → Bool) (n : Nat) : Nat → List Int
  | 0 => []
  | i + 1 => rndA P n i ++ [firstF (P i) (rndA P n i) n]
def rndB (Q : Nat → Nat → Bool) (n : Nat) (o : List Int) : Nat → List Int
  | 0 => o
  | i + 1 => (rndB Q n o i).set i (if rd (rndB Q n o i) (i : Int) < 0 then firstF (Q i) (rndB Q n o i) n else rd (rndB Q n o i) (i : Int))
def matP (P Q : Nat → Nat → Bool) (n m : Nat) : List Int := rndB Q n (rndA P n m) m
structure Once (n : Nat) (o : List Int) : Prop where
  pl : ∀ i : Nat, i < o.length → rd o (i : Int) = -1 ∨ (0 ≤ rd o (i : Int) ∧ rd o (i : Int) < (n : Int))
  ne : ∀ i j : Nat, i < o.length → j < o.length → i ≠ j → 0 ≤ rd o (i : Int) → rd o (i : Int) ≠ rd o (j : Int)
theorem rdm {o : List Int} {i : Nat} (h : i < o.length) : rd o (i : Int) ∈ o := by rw [rd_eq h]; exact List.getElem_mem h
theorem mem_rd {o : List Int} {x : Int} (h : x ∈ o) : ∃ i : Nat, i < o.length ∧ rd o (i : Int) = x := by
  obtain ⟨i, hi, e⟩ := List.getElem_of_mem h
  exact ⟨i, hi, by rw [rd_eq hi]; exact e⟩
theorem rd_app1 {o : List Int} {x : Int} {i : Nat} (h : i < o.length) : rd (o ++ [x]) (i : Int) = rd o (i : Int) := by
  rw [rd_eq (by simp; omega), rd_eq h, List.getElem_append_left h]
theorem rd_app2 {o : List Int} {x : Int} : rd (o ++ [x]) (o.length : Int) = x := by
  rw [rd_eq (by simp)]; simp
theorem rd_set1 {o : List Int} {x : Int} {i : Nat} (h : i < o.length) : rd (o.set i x) (i : Int) = x := by
  rw [rd_eq (by simpa using h)]; simp
theorem rd_set2 {o : List Int} {x : Int} {i j : Nat} (h : j < o.length) (hn : i ≠ j) : rd (o.set i x) (j : Int) = rd o (j : Int) := by
  rw [rd_eq (by simpa using h), rd_eq h, List.getElem_set_ne hn]
section
variable {P Q : Nat → Nat → Bool} {n : Nat} {o : List Int}
theorem Once.snoc (h : Once n o) (p : Nat → Bool) : Once n (o ++ [firstF p o n]) := by
  have hx := firstF_cases p o n
  generalize firstF p o n = x at hx
  have hl : (o ++ [x]).length = o.length + 1 := by simp
  refine ⟨fun i hi => ?_, fun i j hi hj hne h0 => ?_⟩
  · by_cases hil : i < o.length
    · rw [rd_app1 hil]; exact h.pl i hil
    · obtain rfl : i = o.length := by omega
      rw [rd_app2]
      rcases hx with ⟨rfl, -⟩ | ⟨k, hk, rfl, -⟩
      · exact .inl rfl
      · exact .inr (by omega)
  · by_cases hil : i < o.length
    · rw [rd_app1 hil] at h0 ⊢
      by_cases hjl : j < o.length
      · rw [rd_app1 hjl]; exact h.ne i j hil hjl hne h0
      · obtain rfl : j = o.length := by omega
        rw [rd_app2]
        rintro rfl
        rcases hx with ⟨e, -⟩ | ⟨k, hk, e, -, hnk, -⟩
        · omega
        · exact hnk (e ▸ rdm hil)
    · obtain rfl : i = o.length := by omega
      rw [rd_app2] at h0 ⊢
      have hjl : j < o.length := by omega
      rw [rd_app1 hjl]
      rintro rfl
      rcases hx with ⟨e, -⟩ | ⟨k, hk, e, -, hnk, -⟩
      · omega
      · exact hnk (e ▸ rdm hjl)
theorem Once.put (h : Once n o) (p : Nat → Bool) {i : Nat} (hi : i < o.length) (hz : rd o (i : Int) < 0) : Once n (o.set i (firstF p o n)) := by
  have hx := firstF_cases p o n
  generalize firstF p o n = x at hx
  refine ⟨fun j hj => ?_, fun a b ha hb hne h0 => ?_⟩
  · rw [List.length_set] at hj
    by_cases he : i = j
    · subst he
      rw [rd_set1 hi]
      rcases hx with ⟨rfl, -⟩ | ⟨k, hk, rfl, -⟩
      · exact .inl rfl
      · exact .inr (by omega)
    · rw [rd_set2 hj he]; exact h.pl j hj
  · rw [List.length_set] at ha hb
    have key : ∀ y : Nat, y < o.length → 0 ≤ x → rd o (y : Int) ≠ x := fun y hy h0 e => by
      rcases hx with ⟨e2, -⟩ | ⟨k, hk, e2, -, hnk, -⟩
      · omega
      · exact hnk (e2 ▸ e ▸ rdm hy)
    by_cases hea : i = a
    · subst hea
      rw [rd_set1 hi] at h0 ⊢
      rw [rd_set2 hb hne]
      exact fun e => key b hb h0 e.symm
    · rw [rd_set2 ha hea] at h0 ⊢
      by_cases heb : i = b
      · subst heb
        rw [rd_set1 hi]
        exact fun e => key a ha (by omega) e
      · rw [rd_set2 hb heb]
        exact h.ne a b ha hb hne h0
theorem A_len : ∀ m : Nat, (rndA P n m).length = m
  | 0 => rfl
  | m + 1 => by show (rndA P n m ++ [_]).length = _; simp [A_len m]
theorem A_once : ∀ m : Nat, Once n (rndA P n m)
  | 0 => ⟨fun i hi => absurd hi (Nat.not_lt_zero _), fun i j hi => absurd hi (Nat.not_lt_zero _)⟩
  | m + 1 => (A_once m).snoc _
theorem A_at : ∀ {m i : Nat}, i < m → rd (rndA P n m) (i : Int) = firstF (P i) (rndA P n i) n
  | m + 1, i, hi => by
    show rd (rndA P n m ++ [_]) (i : Int) = _
    by_cases h : i < m
    · rw [rd_app1 (by rw [A_len]; exact h)]; exact A_at h
    · obtain rfl : i = m := by omega
      have := rd_app2 (o := rndA P n i) (x := firstF (P i) (rndA P n i) n)
      rw [A_len] at this
      exact this
theorem B_len : ∀ m : Nat, (rndB Q n o m).length = o.length
  | 0 => rfl
  | m + 1 => by show ((rndB Q n o m).set _ _).length = _; rw [List.length_set, B_len m]
theorem B_step {m : Nat} (hm : m < o.length) : rndB Q n o (m + 1) = if rd (rndB Q n o m) (m : Int) < 0 then (rndB Q n o m).set m (firstF (Q m) (rndB Q n o m) n) else rndB Q n o m := by
  show (rndB Q n o m).set m _ = _
  split
  · rfl
  · refine List.ext_getElem (by simp) fun i h1 h2 => ?_
    by_cases he : m = i
    · subst he
      rw [List.getElem_set_self, rd_eq h2]
    · rw [List.getElem_set_ne he]
theorem B_once (h : Once n o) : ∀ {m : Nat}, m ≤ o.length → Once n (rndB Q n o m)
  | 0, _ => h
  | m + 1, hm => by
    rw [B_step (by omega)]
    have ih := B_once h (m := m) (by omega)
    split
    · exact ih.put _ (by rw [B_len]; omega) (by assumption)
    · exact ih
theorem B_keep {i : Nat} (hi : i < o.length) : ∀ {m : Nat}, m ≤ o.length → 0 ≤ rd o (i : Int) → rd (rndB Q n o m) (i : Int) = rd o (i : Int)
  | 0, _, _ => rfl
  | m + 1, hm, h0 => by
    have ih := B_keep hi (m := m) (by omega) h0
    rw [B_step (by omega)]
    split
    · rename_i hz
      have hne : m ≠ i := fun e => by subst e; omega
      rw [rd_set2 (by rw [B_len]; exact hi) hne, ih]
    · exact ih
theorem B_mem {x : Int} (hx : 0 ≤ x) {m : Nat} (hm : m < o.length) (h : x ∈ rndB Q n o m) : x ∈ rndB Q n o (m + 1) := by
  rw [B_step hm]
  split
  · rename_i hz
    obtain ⟨i, hi, rfl⟩ := mem_rd h
    have hne : m ≠ i := fun e => by subst e; omega
    have := rdm (o := (rndB Q n o m).set m (firstF (Q m) (rndB Q n o m) n)) (i := i) (by simpa using hi)
    rwa [rd_set2 hi hne] at this
  · exact h
theorem B_memle {x : Int} (hx : 0 ≤ x) {m : Nat} : ∀ {m' : Nat}, m ≤ m' → m' ≤ o.length → x ∈ rndB Q n o m → x ∈ rndB Q n o m'
  | 0, h1, _, h => by
    have e : m = 0 := by omega
    subst e
    exact h
  | m' + 1, h1, h2, h => by
    by_cases e : m = m' + 1
    · subst e; exact h
    · exact B_mem hx (by omega) (B_memle hx (m' := m') (by omega) (by omega) h)
theorem B_ahead {i : Nat} (hi : i < o.length) : ∀ {m : Nat}, m ≤ i → rd (rndB Q n o m) (i : Int) = rd o (i : Int)
  | 0, _ => rfl
  | m + 1, hm => by
    rw [B_step (by omega)]
    split
    · rw [rd_set2 (by rw [B_len]; exact hi) (by omega)]; exact B_ahead hi (by omega)
    · exact B_ahead hi (by omega)
theorem B_after {i : Nat} : ∀ {m : Nat}, i < m → m ≤ o.length → rd (rndB Q n o m) (i : Int) = rd (rndB Q n o (i + 1)) (i : Int)
  | m + 1, h1, h2 => by
    by_cases e : i = m
    · subst e; rfl
    · rw [B_step (by omega)]
      split
      · rw [rd_set2 (by rw [B_len]; omega) (by omega)]; exact B_after (by omega) (by omega)
      · exact B_after (by omega) (by omega)
theorem B_at {i : Nat} (hi : i < o.length) :
    (0 ≤ rd o (i : Int) ∧ rd (rndB Q n o o.length) (i : Int) = rd o (i : Int)) ∨
    (rd o (i : Int) < 0 ∧ rd (rndB Q n o o.length) (i : Int) = firstF (Q i) (rndB Q n o i) n) := by
  by_cases h : 0 ≤ rd o (i : Int)
  · exact .inl ⟨h, B_keep hi (Nat.le_refl _) h⟩
  · refine .inr ⟨by omega, ?_⟩
    have e := B_ahead (Q := Q) (n := n) hi (Nat.le_refl i)
    rw [B_after hi (Nat.le_refl _), B_step hi, if_pos (by omega), rd_set1 (by rw [B_len]; exact hi)]
end
end Go.Proofs.YtggldnbhmebcpaaDoor.L
end
section
namespace Go.Proofs.YtggldnbhmebcpaaDoor.L
open Go.RowKit Go.ChangeShapes Go.WideShapes Go.Proofs.YtggldnbhmebcpaaDoorW.PrintWords Go.Proofs.YtggldnbhmebcpaaDoorW.PrintLast Go.Proofs.YtggldnbhmebcpaaDoorW.PrintMore
attribute [local go_sem] max2_int min2_int max_two min_two max_three min_three max_four min_four
theorem len_sub {α : Type} [DecidableEq α] : ∀ {L M : List α}, L.Nodup → (∀ x ∈ L, x ∈ M) → L.length ≤ M.length
  | [], M, _, _ => Nat.zero_le _
  | x :: L, M, hn, hs => by
    obtain ⟨h1, h2⟩ := List.nodup_cons.1 hn
    have hx := hs x (List.mem_cons_self ..)
    have h3 := len_sub (L := L) (M := M.erase x) h2 (fun y hy => (List.mem_erase_of_ne (fun (e : y = x) => h1 (e ▸ hy))).2 (hs y (List.mem_cons_of_mem _ hy)))
    have h4 := List.length_erase_of_mem hx
    have h5 : 0 < M.length := List.length_pos_of_mem hx
    show L.length + 1 ≤ M.length
    omega
theorem nodup_filter {p : Nat → Bool} {l : List Nat} (h : l.Nodup) : (l.filter p).Nodup := List.Pairwise.filter p h
def cntP (p : Nat → Bool) (m : Nat) : Nat := ((List.range m).filter p).length
theorem cntP_lt (p : Nat → Bool) (m : Nat) : cntP p m ≤ m := by
  unfold cntP
  exact Nat.le_trans (List.length_filter_le _ _) (by simp)
theorem cntP_succ (p : Nat → Bool) (m : Nat) : cntP p (m + 1) = cntP p m + (if p m = true then 1 else 0) := by
  unfold cntP
  rw [List.range_succ, List.filter_append, List.length_append]
  congr 1
  by_cases h : p m = true
  · simp [h]
  · simp [h]
theorem cntP_le {p q : Nat → Bool} {m : Nat} (h : ∀ i : Nat, i < m → p i = true → q i = true) : cntP p m ≤ cntP q m := by
  unfold cntP
  exact len_sub (nodup_filter List.nodup_range) (fun x hx => by
    obtain ⟨h1, h2⟩ := List.mem_filter.1 hx
    exact List.mem_filter.2 ⟨h1, h x (List.mem_range.1 h1) h2⟩)
theorem cntP_ex {p q : Nat → Bool} {m : Nat} (h : cntP p m < cntP q m) : ∃ i : Nat, i < m ∧ q i = true ∧ p i = false := by
  refine Classical.byContradiction fun hn => ?_
  have := cntP_le (p := q) (q := p) (m := m) (fun i hi hq => by
    cases hp : p i with
    | true => rfl
    | false => exact absurd ⟨i, hi, hq, hp⟩ hn)
  omega
theorem cntP_inj {p q : Nat → Bool} {m n : Nat} (f : Nat → Nat) (h : ∀ i : Nat, i < m → p i = true → f i < n ∧ q (f i) = true) (hf : ∀ i j : Nat, i < m → j < m → p i = true → p j = true → f i = f j → i = j) : cntP p m ≤ cntP q n := by
  unfold cntP
  have h1 : (((List.range m).filter p).map f).Nodup := by
    refine List.pairwise_map.2 (List.Pairwise.imp_of_mem ?_ (nodup_filter List.nodup_range))
    intro a b ha hb hne e
    obtain ⟨a1, a2⟩ := List.mem_filter.1 ha
    obtain ⟨b1, b2⟩ := List.mem_filter.1 hb
    exact hne (hf a b (List.mem_range.1 a1) (List.mem_range.1 b1) a2 b2 e)
  have h2 := len_sub h1 (M := (List.range n).filter q) (fun x hx => by
    obtain ⟨i, hi, rfl⟩ := List.mem_map.1 hx
    obtain ⟨i1, i2⟩ := List.mem_filter.1 hi
    obtain ⟨g1, g2⟩ := h i (List.mem_range.1 i1) i2
    exact List.mem_filter.2 ⟨List.mem_range.2 g1, g2⟩)
  rwa [List.length_map] at h2
section
variable {P Q : Nat → Nat → Bool} {n m : Nat}
theorem mat_len : (matP P Q n m).length = m := by unfold matP; rw [B_len, A_len]
theorem mat_once : Once n (matP P Q n m) := B_once (A_once m) (by rw [A_len]; exact Nat.le_refl _)
theorem mat_at {i : Nat} (hi : i < m) :
    (0 ≤ firstF (P i) (rndA P n i) n ∧ rd (matP P Q n m) (i : Int) = firstF (P i) (rndA P n i) n) ∨
    (firstF (P i) (rndA P n i) n < 0 ∧ rd (matP P Q n m) (i : Int) = firstF (Q i) (rndB Q n (rndA P n m) i) n) := by
  have h := B_at (Q := Q) (n := n) (o := rndA P n m) (i := i) (by rw [A_len]; exact hi)
  rw [A_len, A_at hi] at h
  exact h
theorem mat_pos {i : Nat} (hi : i < m) (h : 0 ≤ rd (matP P Q n m) (i : Int)) : ∃ k : Nat, k < n ∧ rd (matP P Q n m) (i : Int) = (k : Int) ∧ (P i k = true ∨ Q i k = true) := by
  rcases mat_at (P := P) (Q := Q) (n := n) hi with ⟨h1, h2⟩ | ⟨h1, h2⟩
  · rcases firstF_cases (P i) (rndA P n i) n with ⟨e, -⟩ | ⟨k, hk, e, hp, -⟩
    · omega
    · exact ⟨k, hk, by rw [h2, e], .inl hp⟩
  · rcases firstF_cases (Q i) (rndB Q n (rndA P n m) i) n with ⟨e, -⟩ | ⟨k, hk, e, hp, -⟩
    · omega
    · exact ⟨k, hk, by rw [h2, e], .inr hp⟩
theorem mat_none {i : Nat} (hi : i < m) (h : rd (matP P Q n m) (i : Int) < 0) {k : Nat} (hk : k < n) (hq : Q i k = true) : (k : Int) ∈ matP P Q n m := by
  rcases mat_at (P := P) (Q := Q) (n := n) hi with ⟨h1, h2⟩ | ⟨h1, h2⟩
  · omega
  · rcases firstF_cases (Q i) (rndB Q n (rndA P n m) i) n with ⟨e, hall⟩ | ⟨k', hk', e, -⟩
    · exact B_memle (by omega) (Nat.le_of_lt hi) (by rw [A_len]; exact Nat.le_refl _) (hall k hk hq)
    · omega
theorem mat_count {kl kr : Nat → Int} {K : Int} (hPQ : ∀ i k : Nat, i < m → k < n → P i k = true ∨ Q i k = true → kl i = kr k) (hQ : ∀ i k : Nat, i < m → k < n → kl i = K → kr k = K → Q i k = true) :
    cntP (fun i => decide (kl i = K) && decide (0 ≤ rd (matP P Q n m) (i : Int))) m = min (cntP (fun i => decide (kl i = K)) m) (cntP (fun k => decide (kr k = K)) n) := by
  have ho := mat_once (P := P) (Q := Q) (n := n) (m := m)
  have h1 : cntP (fun i => decide (kl i = K) && decide (0 ≤ rd (matP P Q n m) (i : Int))) m ≤ cntP (fun i => decide (kl i = K)) m := cntP_le fun i _ h => (Bool.and_eq_true _ _ ▸ h).1
  have h2 : cntP (fun i => decide (kl i = K) && decide (0 ≤ rd (matP P Q n m) (i : Int))) m ≤ cntP (fun k => decide (kr k = K)) n :=
    cntP_inj (fun i => (rd (matP P Q n m) (i : Int)).toNat) (fun i hi h => by
      simp only [Bool.and_eq_true, decide_eq_true_eq] at h
      obtain ⟨k, hk, e, hpq⟩ := mat_pos hi h.2
      rw [e, Int.toNat_natCast]
      exact ⟨hk, decide_eq_true ((hPQ i k hi hk hpq).symm.trans h.1)⟩) (fun a b ha hb pa pb e => by
      simp only [Bool.and_eq_true, decide_eq_true_eq] at pa pb
      refine Classical.byContradiction fun hne => ho.ne a b (by rw [mat_len]; exact ha) (by rw [mat_len]; exact hb) hne pa.2 (by have e : (rd (matP P Q n m) (a : Int)).toNat = (rd (matP P Q n m) (b : Int)).toNat := e; omega))
  by_cases hlt : cntP (fun i => decide (kl i = K) && decide (0 ≤ rd (matP P Q n m) (i : Int))) m < cntP (fun i => decide (kl i = K)) m
  · obtain ⟨i, hi, hk, hz⟩ := cntP_ex hlt
    have hki := of_decide_eq_true hk
    have hneg : rd (matP P Q n m) (i : Int) < 0 := by
      simp only [hki, decide_true, Bool.true_and, decide_eq_false_iff_not] at hz
      omega
    have key : ∀ k : Nat, k < n → kr k = K → ∃ j : Nat, j < m ∧ rd (matP P Q n m) (j : Int) = (k : Int) := fun k hk he => by
      obtain ⟨j, hj, e⟩ := mem_rd (mat_none hi hneg hk (hQ i k hi hk hki he))
      rw [mat_len] at hj
      exact ⟨j, hj, e⟩
    have h3 := cntP_inj (p := fun k => decide (kr k = K)) (q := fun i => decide (kl i = K) && decide (0 ≤ rd (matP P Q n m) (i : Int))) (m := n) (n := m) (fun k => if h : k < n ∧ kr k = K then Classical.choose (key k h.1 h.2) else 0) (fun k hk hp => by
      have he := of_decide_eq_true hp
      rw [dif_pos ⟨hk, he⟩]
      obtain ⟨g1, g2⟩ := Classical.choose_spec (key k hk he)
      generalize Classical.choose (key k hk he) = j at g1 g2
      have h0 : 0 ≤ rd (matP P Q n m) (j : Int) := by omega
      obtain ⟨k', hk', e, hpq⟩ := mat_pos g1 h0
      have : k' = k := by omega
      subst this
      simp only [Bool.and_eq_true, decide_eq_true_eq]
      exact ⟨g1, (hPQ j k' g1 hk hpq).trans he, h0⟩) (fun a b ha hb pa pb e => by
      have ea := of_decide_eq_true pa
      have eb := of_decide_eq_true pb
      rw [dif_pos ⟨ha, ea⟩, dif_pos ⟨hb, eb⟩] at e
      have ga := (Classical.choose_spec (key a ha ea)).2
      have gb := (Classical.choose_spec (key b hb eb)).2
      rw [e] at ga
      omega)
    omega
  · omega
end
end Go.Proofs.YtggldnbhmebcpaaDoor.L
end
section
namespace Go.Proofs.YtggldnbhmebcpaaDoor.L
open Go.RowKit Go.ChangeShapes Go.WideShapes Go.Proofs.YtggldnbhmebcpaaDoorW.PrintWords Go.Proofs.YtggldnbhmebcpaaDoorW.PrintLast Go.Proofs.YtggldnbhmebcpaaDoorW.PrintMore
attribute [local go_sem] max2_int min2_int max_two min_two max_three min_three max_four min_four
theorem hexDigit_inj {x y : Nat} (hx : x < 16) (hy : y < 16) (h : Lib.hexDigit x = Lib.hexDigit y) : x = y := by
  unfold Lib.hexDigit at h
  split at h <;> split at h <;> omega
theorem hexDigits_inj {r r' : Nat} {t t' : List Int} : ∀ n, Lib.hexDigits r n ++ t = Lib.hexDigits r' n ++ t' → r % 16 ^ n = r' % 16 ^ n ∧ t = t'
  | 0, h => ⟨by rw [Nat.pow_zero, Nat.mod_one, Nat.mod_one], h⟩
  | n + 1, h => by
    unfold Lib.hexDigits at h
    rw [List.cons_append, List.cons_append] at h
    injection h with h1 h2
    obtain ⟨h3, h4⟩ := hexDigits_inj n h2
    have h5 := hexDigit_inj (Nat.mod_lt _ (by omega)) (Nat.mod_lt _ (by omega)) h1
    refine ⟨?_, h4⟩
    rw [Nat.pow_succ, Nat.mod_mul, Nat.mod_mul, h3, h5]
def RuneOk (r : Int) : Prop := (0 ≤ r ∧ r < 55296) ∨ (57343 < r ∧ r ≤ 1114111)
theorem enc_forms {r : Int} (h : RuneOk r) : (Lib.encodeRuneZ r = [r] ∧ 0 ≤ r ∧ r ≤ 127) ∨ (Lib.encodeRuneZ r = [192 + r / 64, 128 + r % 64] ∧ 128 ≤ r ∧ r ≤ 2047) ∨
    (Lib.encodeRuneZ r = [224 + r / 4096, 128 + r / 64 % 64, 128 + r % 64] ∧ 2048 ≤ r ∧ r ≤ 65535) ∨ (Lib.encodeRuneZ r = [240 + r / 262144, 128 + r / 4096 % 64, 128 + r / 64 % 64, 128 + r % 64] ∧ 65536 ≤ r ∧ r ≤ 1114111) := by
  unfold RuneOk at h
  unfold Lib.encodeRuneZ
  by_cases c1 : 0 ≤ r ∧ r ≤ 127
  · rw [if_pos c1]; exact .inl ⟨rfl, c1⟩
  · rw [if_neg c1]
    by_cases c2 : 128 ≤ r ∧ r ≤ 2047
    · rw [if_pos c2]; exact .inr (.inl ⟨rfl, c2⟩)
    · rw [if_neg c2]
      by_cases c3 : (2048 ≤ r ∧ r < 55296) ∨ (57343 < r ∧ r ≤ 65535)
      · rw [if_pos c3]; exact .inr (.inr (.inl ⟨rfl, by omega, by omega⟩))
      · rw [if_neg c3, if_pos (by omega)]
        exact .inr (.inr (.inr ⟨rfl, by omega, by omega⟩))
theorem enc_inj {r r' : Int} (h : RuneOk r) (h' : RuneOk r') {t t' : List Int} (e : Lib.encodeRuneZ r ++ t = Lib.encodeRuneZ r' ++ t') : r = r' ∧ t = t' := by
  rcases enc_forms h with ⟨e1, a, b⟩ | ⟨e1, a, b⟩ | ⟨e1, a, b⟩ | ⟨e1, a, b⟩ <;> rcases enc_forms h' with ⟨e2, a', b'⟩ | ⟨e2, a', b'⟩ | ⟨e2, a', b'⟩ | ⟨e2, a', b'⟩ <;> rw [e1, e2] at e <;>
    simp only [List.cons_append, List.nil_append, List.cons.injEq] at e
  all_goals first
    | exact ⟨by omega, e.2⟩
    | exact ⟨by omega, e.2.2⟩
    | exact ⟨by omega, e.2.2.2⟩
    | exact ⟨by omega, e.2.2.2.2⟩
    | (exfalso; omega)
theorem enc_head {r : Int} (h : RuneOk r) (h1 : ¬ r = 34) (h2 : ¬ r = 92) : ∃ x l, Lib.encodeRuneZ r = x :: l ∧ x ≠ 34 ∧ x ≠ 92 := by
  rcases enc_forms h with ⟨e1, a, b⟩ | ⟨e1, a, b⟩ | ⟨e1, a, b⟩ | ⟨e1, a, b⟩
  all_goals exact ⟨_, _, e1, by omega, by omega⟩
def unesc (c : Int) : Int := if c = 97 then 7 else if c = 98 then 8 else if c = 102 then 12 else if c = 110 then 10 else if c = 114 then 13 else if c = 116 then 9 else if c = 118 then 11 else c
inductive QKey where
  | bad (b : Nat)
  | rune (r : Int)
def QKey.Ok : QKey → Prop
  | .bad b => 128 ≤ b ∧ b < 256
  | .rune r => RuneOk r
def qenc (T : Lib.PrintTabs) : QKey → List Int
  | .bad b => [92, 120, Lib.hexDigit (b / 16), Lib.hexDigit (b % 16)]
  | .rune r => Lib.escRune T r
theorem qenc_forms (T : Lib.PrintTabs) {k : QKey} (h : k.Ok) :
    (∃ c, qenc T k = [92, c] ∧ k = .rune (unesc c) ∧ c ≠ 120 ∧ c ≠ 117 ∧ c ≠ 85) ∨
    (∃ v : Nat, v < 256 ∧ qenc T k = [92, 120, Lib.hexDigit (v / 16), Lib.hexDigit (v % 16)] ∧ k = if v < 128 then .rune (v : Int) else .bad v) ∨
    (∃ v : Nat, v < 65536 ∧ qenc T k = 92 :: 117 :: Lib.hexDigits v 4 ∧ k = .rune (v : Int)) ∨
    (∃ v : Nat, v < 4294967296 ∧ qenc T k = 92 :: 85 :: Lib.hexDigits v 8 ∧ k = .rune (v : Int)) ∨
    (∃ r, RuneOk r ∧ ¬ r = 34 ∧ ¬ r = 92 ∧ qenc T k = Lib.encodeRuneZ r ∧ k = .rune r) := by
  cases k with
  | bad b => exact .inr (.inl ⟨b, h.2, rfl, by rw [if_neg (by have := h.1; omega)]⟩)
  | rune r =>
    have hr : RuneOk r := h
    have hv : Lib.validRune r = true := by
      unfold RuneOk at hr
      simp only [Lib.validRune, decide_eq_true_eq]
      omega
    show (∃ c, Lib.escRune T r = [92, c] ∧ QKey.rune r = .rune (unesc c) ∧ c ≠ 120 ∧ c ≠ 117 ∧ c ≠ 85) ∨ (∃ v : Nat, v < 256 ∧ Lib.escRune T r = _ ∧ QKey.rune r = _) ∨ (∃ v : Nat, v < 65536 ∧ Lib.escRune T r = _ ∧ QKey.rune r = _) ∨ (∃ v : Nat, v < 4294967296 ∧ Lib.escRune T r = _ ∧ QKey.rune r = _) ∨ (∃ r', RuneOk r' ∧ ¬ r' = 34 ∧ ¬ r' = 92 ∧ Lib.escRune T r = Lib.encodeRuneZ r' ∧ QKey.rune r = .rune r')
    unfold Lib.escRune
    by_cases c0 : r = 34 ∨ r = 92
    · rw [if_pos c0]
      refine .inl ⟨r, rfl, ?_, by omega, by omega, by omega⟩
      rcases c0 with rfl | rfl <;> rfl
    rw [if_neg c0]
    by_cases c1 : Lib.isPrintR T r = true
    · rw [if_pos c1]
      exact .inr (.inr (.inr (.inr ⟨r, hr, fun e => c0 (.inl e), fun e => c0 (.inr e), rfl, rfl⟩)))
    rw [if_neg c1]
    by_cases c2 : r = 7
    · rw [if_pos c2]; subst c2; exact .inl ⟨97, rfl, rfl, by omega, by omega, by omega⟩
    rw [if_neg c2]
    by_cases c3 : r = 8
    · rw [if_pos c3]; subst c3; exact .inl ⟨98, rfl, rfl, by omega, by omega, by omega⟩
    rw [if_neg c3]
    by_cases c4 : r = 12
    · rw [if_pos c4]; subst c4; exact .inl ⟨102, rfl, rfl, by omega, by omega, by omega⟩
    rw [if_neg c4]
    by_cases c5 : r = 10
    · rw [if_pos c5]; subst c5; exact .inl ⟨110, rfl, rfl, by omega, by omega, by omega⟩
    rw [if_neg c5]
    by_cases c6 : r = 13
    · rw [if_pos c6]; subst c6; exact .inl ⟨114, rfl, rfl, by omega, by omega, by omega⟩
    rw [if_neg c6]
    by_cases c7 : r = 9
    · rw [if_pos c7]; subst c7; exact .inl ⟨116, rfl, rfl, by omega, by omega, by omega⟩
    rw [if_neg c7]
    by_cases c8 : r = 11
    · rw [if_pos c8]; subst c8; exact .inl ⟨118, rfl, rfl, by omega, by omega, by omega⟩
    rw [if_neg c8]
    have h0 : 0 ≤ r := by unfold RuneOk at hr; omega
    obtain ⟨v, rfl⟩ : ∃ v : Nat, r = (v : Int) := ⟨r.toNat, by omega⟩
    by_cases c9 : (v : Int) < 32 ∨ (v : Int) = 127
    · rw [if_pos c9, Int.toNat_natCast]
      exact .inr (.inl ⟨v, by omega, rfl, by rw [if_pos (by omega)]⟩)
    rw [if_neg c9, if_neg (by rw [hv]; simp)]
    by_cases c11 : (v : Int) < 65536
    · rw [if_pos c11, Int.toNat_natCast]
      exact .inr (.inr (.inl ⟨v, by omega, rfl, rfl⟩))
    rw [if_neg c11, Int.toNat_natCast]
    exact .inr (.inr (.inr (.inl ⟨v, by unfold RuneOk at hr; omega, rfl, rfl⟩)))
theorem qenc_inj (T : Lib.PrintTabs) {k k' : QKey} (h : k.Ok) (h' : k'.Ok) {t t' : List Int} (e : qenc T k ++ t = qenc T k' ++ t') : k = k' ∧ t = t' := by
  rcases qenc_forms T h with ⟨c, e1, k1, n1, n2, n3⟩ | ⟨v, hv, e1, k1⟩ | ⟨v, hv, e1, k1⟩ | ⟨v, hv, e1, k1⟩ | ⟨r, hr, a1, a2, e1, k1⟩ <;>
    rcases qenc_forms T h' with ⟨c', e2, k2, m1, m2, m3⟩ | ⟨v', hv', e2, k2⟩ | ⟨v', hv', e2, k2⟩ | ⟨v', hv', e2, k2⟩ | ⟨r', hr', b1, b2, e2, k2⟩ <;> rw [e1, e2] at e
  case inl.inl =>
    simp only [List.cons_append, List.nil_append, List.cons.injEq] at e
    exact ⟨by rw [k1, k2, e.2.1], e.2.2⟩
  case inr.inl.inr.inl =>
    simp only [List.cons_append, List.nil_append, List.cons.injEq] at e
    obtain ⟨_, _, g1, g2, g3⟩ := e
    have g1 := hexDigit_inj (by omega) (by omega) g1
    have g2 := hexDigit_inj (by omega) (by omega) g2
    have : v = v' := by omega
    exact ⟨by rw [k1, k2, this], g3⟩
  case inr.inr.inl.inr.inr.inl =>
    simp only [List.cons_append, List.cons.injEq] at e
    obtain ⟨g1, g2⟩ := hexDigits_inj 4 e.2.2
    have : v = v' := by omega
    exact ⟨by rw [k1, k2, this], g2⟩
  case inr.inr.inr.inl.inr.inr.inr.inl =>
    simp only [List.cons_append, List.cons.injEq] at e
    obtain ⟨g1, g2⟩ := hexDigits_inj 8 e.2.2
    have : v = v' := by omega
    exact ⟨by rw [k1, k2, this], g2⟩
  case inr.inr.inr.inr.inr.inr.inr.inr =>
    obtain ⟨g1, g2⟩ := enc_inj hr hr' e
    exact ⟨by rw [k1, k2, g1], g2⟩
  case inl.inr.inr.inr.inr =>
    exfalso
    obtain ⟨x, l, e3, x1, x2⟩ := enc_head hr' b1 b2
    rw [e3] at e
    simp only [List.cons_append, List.nil_append, List.cons.injEq] at e
    omega
  case inr.inl.inr.inr.inr.inr =>
    exfalso
    obtain ⟨x, l, e3, x1, x2⟩ := enc_head hr' b1 b2
    rw [e3] at e
    simp only [List.cons_append, List.nil_append, List.cons.injEq] at e
    omega
  case inr.inr.inl.inr.inr.inr.inr =>
    exfalso
    obtain ⟨x, l, e3, x1, x2⟩ := enc_head hr' b1 b2
    rw [e3] at e
    simp only [List.cons_append, List.nil_append, List.cons.injEq] at e
    omega
  case inr.inr.inr.inl.inr.inr.inr.inr =>
    exfalso
    obtain ⟨x, l, e3, x1, x2⟩ := enc_head hr' b1 b2
    rw [e3] at e
    simp only [List.cons_append, List.nil_append, List.cons.injEq] at e
    omega
  case inr.inr.inr.inr.inl =>
    exfalso
    obtain ⟨x, l, e3, x1, x2⟩ := enc_head hr a1 a2
    rw [e3] at e
    simp only [List.cons_append, List.nil_append, List.cons.injEq] at e
    omega
  case inr.inr.inr.inr.inr.inl =>
    exfalso
    obtain ⟨x, l, e3, x1, x2⟩ := enc_head hr a1 a2
    rw [e3] at e
    simp only [List.cons_append, List.nil_append, List.cons.injEq] at e
    omega
  case inr.inr.inr.inr.inr.inr.inl =>
    exfalso
    obtain ⟨x, l, e3, x1, x2⟩ := enc_head hr a1 a2
    rw [e3] at e
    simp only [List.cons_append, List.nil_append, List.cons.injEq] at e
    omega
  case inr.inr.inr.inr.inr.inr.inr.inl =>
    exfalso
    obtain ⟨x, l, e3, x1, x2⟩ := enc_head hr a1 a2
    rw [e3] at e
    simp only [List.cons_append, List.nil_append, List.cons.injEq] at e
    omega
  all_goals
    exfalso
    simp only [List.cons_append, List.nil_append, List.cons.injEq] at e
    omega
theorem qenc_head (T : Lib.PrintTabs) {k : QKey} (h : k.Ok) {t t' : List Int} : ¬ qenc T k ++ t = 34 :: t' := fun e => by
  rcases qenc_forms T h with ⟨c, e1, k1, n1, n2, n3⟩ | ⟨v, hv, e1, k1⟩ | ⟨v, hv, e1, k1⟩ | ⟨v, hv, e1, k1⟩ | ⟨r, hr, a1, a2, e1, k1⟩ <;> rw [e1] at e
  case inr.inr.inr.inr =>
    obtain ⟨x, l, e3, x1, x2⟩ := enc_head hr a1 a2
    rw [e3] at e
    simp only [List.cons_append, List.nil_append, List.cons.injEq] at e
    omega
  all_goals
    simp only [List.cons_append, List.nil_append, List.cons.injEq] at e
    omega
def qkey (s : ByteArray) : QKey := if (Utf8.decode s 0).2 = 1 ∧ (Utf8.decode s 0).1 = 65533 then .bad (s.get! 0).toNat else .rune ((Utf8.decode s 0).1 : Int)
theorem qkey_step (T : Lib.PrintTabs) (s : ByteArray) : Lib.quoteStep T s = qenc T (qkey s) := by
  unfold Lib.quoteStep qkey
  split <;> rfl
def lbytes (s : ByteArray) : List Nat := s.data.toList.map UInt8.toNat
theorem lbytes_len (s : ByteArray) : (lbytes s).length = s.size := by simp [lbytes]
theorem get_lbytes (s : ByteArray) (i : Nat) : (s.get! i).toNat = (lbytes s).getD i 0 := by
  unfold lbytes
  by_cases h : i < s.size
  · have e : s.get! i = s[i] := by
      cases s with
      | mk d => exact getElem!_pos d i h
    rw [e, List.getD_eq_getElem?_getD, List.getElem?_map]
    have h2 : i < s.data.toList.length := by simpa using h
    rw [List.getElem?_eq_getElem h2]
    rfl
  · have e : s.get! i = 0 := by
      cases s with
      | mk d => exact getElem!_neg d i h
    rw [e, List.getD_eq_getElem?_getD, List.getElem?_eq_none (by simpa using h)]
    rfl
def kbytes : QKey → List Int
  | .bad b => [(b : Int)]
  | .rune r => Lib.encodeRuneZ r
theorem decode_bytes (b0 : Nat) (l : List Nat) (hb : ∀ x ∈ b0 :: l, x < 256) :
    let d := Lib.decodeN (l.length + 1) b0 (l.getD 0 0) (l.getD 1 0) (l.getD 2 0)
    ((d.2 = 1 ∧ d.1 = 65533) ∧ 128 ≤ b0) ∨ (¬ (d.2 = 1 ∧ d.1 = 65533) ∧ d.2 ≤ l.length + 1 ∧ Lib.encodeRuneZ (d.1 : Int) = ((b0 :: l).take d.2).map (fun x : Nat => (x : Int))) := by
  intro d
  have h0 : b0 < 256 := hb b0 (by simp)
  show ((Lib.decodeN _ _ _ _ _).2 = 1 ∧ (Lib.decodeN _ _ _ _ _).1 = 65533) ∧ _ ∨ ¬ ((Lib.decodeN _ _ _ _ _).2 = 1 ∧ (Lib.decodeN _ _ _ _ _).1 = 65533) ∧ (Lib.decodeN _ _ _ _ _).2 ≤ _ ∧ Lib.encodeRuneZ ((Lib.decodeN _ _ _ _ _).1 : Int) = ((b0 :: l).take (Lib.decodeN _ _ _ _ _).2).map _
  unfold Lib.decodeN
  by_cases c1 : b0 < 128
  · rw [if_pos c1]
    refine .inr ⟨fun h => by have := h.2; simp only at this; omega, by simp, ?_⟩
    rw [Lib.encodeRuneZ_one (by omega) (by omega)]
    rfl
  rw [if_neg c1]
  have bad : ((((65533, 1) : Nat × Nat).2 = 1 ∧ ((65533, 1) : Nat × Nat).1 = 65533) ∧ 128 ≤ b0) := ⟨⟨rfl, rfl⟩, by omega⟩
  match l, hb with
  | [], _ =>
    rw [if_neg (fun h => by have := h.2.1; simp at this), if_neg (fun h => by have := h.2.1.1; simp at this), if_neg (fun h => by have := h.2.1.1; simp at this)]
    exact .inl bad
  | b1 :: l1, hb =>
    have h1 : b1 < 256 := hb b1 (by simp)
    have g0 : (b1 :: l1).getD 0 0 = b1 := rfl
    rw [g0]
    by_cases c2 : b0 / 32 = 6 ∧ (1 < (b1 :: l1).length + 1 ∧ b1 / 64 = 2)
    · rw [if_pos c2]
      obtain ⟨p1, _, p2⟩ := c2
      by_cases c3 : b0 % 32 * 64 + b1 % 64 ≥ 128
      · rw [if_pos c3]
        refine .inr ⟨fun h => by have := h.1; simp only at this; omega, by simp, ?_⟩
        simp only
        have e1 : Lib.encodeRuneZ ((b0 % 32 * 64 + b1 % 64 : Nat) : Int) = [192 + ((b0 % 32 * 64 + b1 % 64 : Nat) : Int) / 64, 128 + ((b0 % 32 * 64 + b1 % 64 : Nat) : Int) % 64] := Lib.encodeRuneZ_two (by omega) (by omega)
        rw [e1]
        simp only [List.take_succ_cons, List.take_zero, List.map_cons, List.map_nil, List.cons.injEq, and_true]
        omega
      · rw [if_neg c3]
        exact .inl bad
    rw [if_neg c2]
    match l1, hb with
    | [], _ =>
      rw [if_neg (fun h => by have := h.2.2.1; simp at this), if_neg (fun h => by have := h.2.2.1.1; simp at this)]
      exact .inl bad
    | b2 :: l2, hb =>
      have h2 : b2 < 256 := hb b2 (by simp)
      have g1 : (b1 :: b2 :: l2).getD 1 0 = b2 := rfl
      rw [g1]
      by_cases c4 : b0 / 16 = 14 ∧ (1 < (b1 :: b2 :: l2).length + 1 ∧ b1 / 64 = 2) ∧ (2 < (b1 :: b2 :: l2).length + 1 ∧ b2 / 64 = 2)
      · rw [if_pos c4]
        obtain ⟨p1, ⟨_, p2⟩, _, p3⟩ := c4
        split
        · rename_i c5
          refine .inr ⟨fun h => by have := h.1; simp only at this; omega, by simp, ?_⟩
          simp only
          have hr : RuneOk ((b0 % 16 * 4096 + b1 % 64 * 64 + b2 % 64 : Nat) : Int) := by unfold RuneOk; omega
          rcases enc_forms hr with ⟨e1, a, b⟩ | ⟨e1, a, b⟩ | ⟨e1, a, b⟩ | ⟨e1, a, b⟩
          · omega
          · omega
          · rw [e1]
            simp only [List.take_succ_cons, List.take_zero, List.map_cons, List.map_nil, List.cons.injEq, and_true]
            omega
          · omega
        · exact .inl bad
      rw [if_neg c4]
      match l2, hb with
      | [], _ =>
        rw [if_neg (fun h => by have := h.2.2.2.1; simp at this)]
        exact .inl bad
      | b3 :: l3, hb =>
        have h3 : b3 < 256 := hb b3 (by simp)
        have g2 : (b1 :: b2 :: b3 :: l3).getD 2 0 = b3 := rfl
        rw [g2]
        by_cases c6 : b0 / 8 = 30 ∧ (1 < (b1 :: b2 :: b3 :: l3).length + 1 ∧ b1 / 64 = 2) ∧ (2 < (b1 :: b2 :: b3 :: l3).length + 1 ∧ b2 / 64 = 2) ∧ (3 < (b1 :: b2 :: b3 :: l3).length + 1 ∧ b3 / 64 = 2)
        · rw [if_pos c6]
          obtain ⟨p1, ⟨_, p2⟩, ⟨_, p3⟩, _, p4⟩ := c6
          split
          · rename_i c7
            refine .inr ⟨fun h => by have := h.1; simp only at this; omega, by simp, ?_⟩
            simp only
            have hr : RuneOk ((b0 % 8 * 262144 + b1 % 64 * 4096 + b2 % 64 * 64 + b3 % 64 : Nat) : Int) := by unfold RuneOk; omega
            rcases enc_forms hr with ⟨e1, a, b⟩ | ⟨e1, a, b⟩ | ⟨e1, a, b⟩ | ⟨e1, a, b⟩
            · omega
            · omega
            · omega
            · rw [e1]
              simp only [List.take_succ_cons, List.take_zero, List.map_cons, List.map_nil, List.cons.injEq, and_true]
              omega
          · exact .inl bad
        rw [if_neg c6]
        exact .inl bad
theorem step_bytes (s : ByteArray) (h : 0 < s.size) : (qkey s).Ok ∧ (kbytes (qkey s)).length = (Utf8.decode s 0).2 ∧ kbytes (qkey s) = ((lbytes s).take (Utf8.decode s 0).2).map (fun x : Nat => (x : Int)) := by
  have hd := Lib.decode_at s 0
  rw [get_lbytes, get_lbytes, get_lbytes, get_lbytes] at hd
  have hl := lbytes_len s
  have hb : ∀ x ∈ lbytes s, x < 256 := fun x hx => by
    obtain ⟨b, _, rfl⟩ := List.mem_map.1 hx
    exact UInt8.toNat_lt b
  have hg0 : (s.get! 0).toNat = (lbytes s).getD 0 0 := get_lbytes s 0
  have hok := Lib.rune_valid s
  unfold qkey
  rw [hg0]
  generalize lbytes s = lb at hd hl hb
  match lb, hl, hb with
  | [], hl, _ => simp at hl; omega
  | b0 :: l, hl, hb =>
    have e : Utf8.decode s 0 = Lib.decodeN (l.length + 1) b0 (l.getD 0 0) (l.getD 1 0) (l.getD 2 0) := by
      rw [hd, ← hl]; rfl
    rw [e] at hok ⊢
    have e0 : (b0 :: l).getD 0 0 = b0 := rfl
    rw [e0]
    rcases decode_bytes b0 l hb with ⟨h1, h2⟩ | ⟨h1, h2, h3⟩
    · rw [if_pos h1]
      refine ⟨⟨h2, hb b0 (by simp)⟩, ?_, ?_⟩
      · rw [h1.1]; rfl
      · rw [h1.1]; rfl
    · rw [if_neg h1]
      refine ⟨?_, ?_, h3⟩
      · show RuneOk _
        simp only [Lib.validRune, decide_eq_true_eq] at hok
        unfold RuneOk
        omega
      · show (Lib.encodeRuneZ _).length = _
        rw [h3, List.length_map, List.length_take, List.length_cons, Nat.min_eq_left h2]
theorem lbytes_rest (s : ByteArray) (k : Nat) : lbytes (s.extract k s.size) = (lbytes s).drop k := by
  unfold lbytes
  rw [← List.map_drop]
  congr 1
  have e : (s.extract k s.size).data.toList = (s.data.toList.drop k).take (s.size - k) := by simp [ByteArray.data_extract]
  rw [e, List.take_of_length_le (by rw [List.length_drop]; simp)]
theorem lbytes_inj {s t : ByteArray} (h : lbytes s = lbytes t) : s = t := by
  have h1 : s.data.toList = t.data.toList := List.map_inj_right (fun x y e => UInt8.toNat_inj.1 e) |>.1 h
  cases s; cases t
  congr 1
  exact Array.toList_inj.1 h1
theorem quoteFrom_inj (T : Lib.PrintTabs) : ∀ (n : Nat) (s s' : ByteArray) (f f' : Nat) (r r' : List Int), s.size ≤ n → s.size ≤ f → s'.size ≤ f' →
    Lib.quoteFrom T f s ++ 34 :: r = Lib.quoteFrom T f' s' ++ 34 :: r' → lbytes s = lbytes s' ∧ r = r'
  | n, s, s', f, f', r, r', hn, hf, hf', h => by
    by_cases h0 : 0 < s.size
    · rw [Lib.quoteFrom_step T f s h0 hf, qkey_step, List.append_assoc] at h
      obtain ⟨k1, k2, k3⟩ := step_bytes s h0
      by_cases h0' : 0 < s'.size
      · rw [Lib.quoteFrom_step T f' s' h0' hf', qkey_step, List.append_assoc] at h
        obtain ⟨k1', k2', k3'⟩ := step_bytes s' h0'
        obtain ⟨g1, g2⟩ := qenc_inj T k1 k1' h
        have hw := Lib.width_pos s 0
        have hw' := Lib.width_pos s' 0
        have hz := Lib.size_rest s (Utf8.decode s 0).2
        have hz' := Lib.size_rest s' (Utf8.decode s' 0).2
        match n, hn with
        | 0, hn => omega
        | n + 1, hn =>
          obtain ⟨q1, q2⟩ := quoteFrom_inj T n _ _ (f - 1) (f' - 1) r r' (by omega) (by omega) (by omega) g2
          refine ⟨?_, q2⟩
          have ew : (Utf8.decode s 0).2 = (Utf8.decode s' 0).2 := by rw [← k2, ← k2', g1]
          rw [lbytes_rest, lbytes_rest] at q1
          have e2 : (lbytes s).take (Utf8.decode s 0).2 = (lbytes s').take (Utf8.decode s' 0).2 := by
            have e3 : ((lbytes s).take (Utf8.decode s 0).2).map (fun x : Nat => (x : Int)) = ((lbytes s').take (Utf8.decode s' 0).2).map (fun x : Nat => (x : Int)) := by rw [← k3, ← k3', g1]
            exact List.map_inj_right (fun x y e => by omega) |>.1 e3
          rw [← List.take_append_drop (Utf8.decode s 0).2 (lbytes s), e2, q1, List.take_append_drop]
      · rw [Lib.quoteFrom_end T f' s' h0'] at h
        exact absurd h (qenc_head T k1)
    · rw [Lib.quoteFrom_end T f s h0] at h
      by_cases h0' : 0 < s'.size
      · rw [Lib.quoteFrom_step T f' s' h0' hf', qkey_step, List.append_assoc] at h
        exact absurd h.symm (qenc_head T (step_bytes s' h0').1)
      · rw [Lib.quoteFrom_end T f' s' h0'] at h
        have e1 := lbytes_len s
        have e2 := lbytes_len s'
        refine ⟨?_, by injection h⟩
        rw [List.eq_nil_of_length_eq_zero (by omega : (lbytes s).length = 0), List.eq_nil_of_length_eq_zero (by omega : (lbytes s').length = 0)]
theorem quote_inj (T : Lib.PrintTabs) {s s' : ByteArray} {r r' : List Int} (h : Lib.quoteZ T s ++ r = Lib.quoteZ T s' ++ r') : s = s' ∧ r = r' := by
  unfold Lib.quoteZ at h
  rw [List.cons_append, List.cons_append, List.append_assoc, List.append_assoc] at h
  injection h with _ h
  obtain ⟨h1, h2⟩ := quoteFrom_inj T s.size s s' s.size s'.size r r' (Nat.le_refl _) (Nat.le_refl _) (Nat.le_refl _) h
  exact ⟨lbytes_inj h1, h2⟩
end Go.Proofs.YtggldnbhmebcpaaDoor.L
end
