/- Part 2 of the texts that the rows of this seat rest on, joined by a program: what its functions come to. Conditions: those that each theorem states. -/
import Derived.Test.YtggldnbhmebcpaaGreatDoorQea
import Derived.Test.YtggldnbhmebcpaaGreatDoorProg
import Derived.StillTailTactics
import Derived.Deep.Slices
import Derived.ProofKit
import Derived.ChangeSame
import Derived.Maps.OwnSet
import Derived.Maps.OwnOps
import Derived.Below
import Derived.WalkSpells
import Derived.Deep.LoopGhost
import Derived.Deep.RegionHeld3
import Derived.Shelf.Strings.Builder1
import Derived.Shelf.Small.Utf8
import Derived.Shelf.Small.Wraps
import Derived.Shelf.Strings.BuilderF
import Derived.Shelf.Strings.BuilderK
import Derived.Shelf.Utf8.AppendRune
import Derived.Shelf.Strconv.Bsearch
import Derived.Shelf.Strconv.IsPrint
import Derived.Shelf.Strconv.IsPrint16
import Derived.Shelf.Strconv.IsPrint32
import Derived.Shelf.Strconv.Escaped
import Derived.Shelf.Strconv.Quoted
import Derived.Shelf.Strconv.Quote
import Derived.Shelf.Strconv.Itoa0
import Derived.Shelf.Strconv.Itoa1
import Derived.Shelf.LaysM
import Derived.Shelf.Strconv.Itoa2
import Derived.Shelf.Strconv.Itoa3
import Derived.Shelf.Strconv.Itoa4
import Derived.Shelf.Unicode.Decode
import Derived.Shelf.Bits.Mul64
import Derived.Shelf.Unicode.DecodeSlow
import Derived.Shelf.Unicode.DecodeAny
import Derived.Shelf.Slices.Equal
import Derived.Ground.Names2Prog
import Derived.Shelf.Slices.Clone
import Derived.Shelf.Slices.SearchI
import Derived.Ground.SlgnProg
import Derived.Shelf.SlicesG.Clone
import Derived.Shelf.SlicesE.Clone
import Derived.Deep.QuietTactic
import Derived.BigQuiet
set_option linter.unusedVariables false
set_option linter.unusedSimpArgs false
section
namespace Go.Proofs.YtggldnbhmebcpaaGreatDoor.L
open Go.RowKit Go.ChangeShapes Go.WideShapes Go.Proofs.YtggldnbhmebcpaaGreatDoorW.PrintWords Go.Proofs.YtggldnbhmebcpaaGreatDoorW.PrintLast Go.Proofs.YtggldnbhmebcpaaGreatDoorW.PrintMore
attribute [local go_sem] max2_int min2_int max_two min_two max_three min_three max_four min_four
theorem rd_eq {xs : List Int} {i : Nat} (h : i < xs.length) : rd xs (i : Int) = xs[i] := by
  unfold rd
  rw [List.getD_eq_getElem?_getD, Int.toNat_natCast, List.getElem?_eq_getElem h]; rfl
theorem rd_set (l : List Int) (i i' : Nat) (v : Int) (h1 : i < l.length) : rd (l.set i v) (i' : Int) = if i' = i then v else rd l (i' : Int) := by
  unfold rd
  rw [List.getD_eq_getElem?_getD, List.getD_eq_getElem?_getD, List.getElem?_set, Int.toNat_natCast]
  by_cases e : i' = i
  · subst e; rw [if_pos rfl, if_pos rfl, if_pos h1]; rfl
  · rw [if_neg e, if_neg (fun h => e h.symm)]
theorem getD_eq {α : Type} {xs : List α} {i : Nat} (d : α) (h : i < xs.length) : xs.getD i d = xs[i] := by
  rw [List.getD_eq_getElem?_getD, List.getElem?_eq_getElem h]; rfl
theorem take_succ_getD {α : Type} {xs : List α} {i : Nat} (d : α) (h : i < xs.length) : xs.take (i + 1) = xs.take i ++ [xs.getD i d] := by
  rw [List.take_succ_eq_append_getElem h, getD_eq d h]
theorem take_succ_rd {xs : List Int} {i : Nat} (h : i < xs.length) : xs.take (i + 1) = xs.take i ++ [rd xs (i : Int)] := by
  rw [List.take_succ_eq_append_getElem h, rd_eq h]
theorem ret_bool {a b : Bool} (h : a = b) : Ending.returned (.bool a) = .returned (.bool b) := by rw [h]
theorem ret_int {k : IntKind} {a b : Int} (h : a = b) : Ending.returned (.int k a) = .returned (.int k b) := by rw [h]
theorem wrap_id {x : Int} (h0 : -9223372036854775808 ≤ x) (h1 : x ≤ 9223372036854775807) : wrap64 x = x := by
  unfold wrap64
  omega
theorem wrap_i {x : Int} (h0 : -9223372036854775808 ≤ x) (h1 : x ≤ 9223372036854775807) : IntKind.i64.wrap x = x := (i64_w _).trans (wrap_id h0 h1)
theorem wf_i64 {x : Int} (h : (Lit.int .i64 x).wf = true) : -9223372036854775808 ≤ x ∧ x ≤ 9223372036854775807 := by
  have h' : IntKind.min .i64 ≤ x ∧ x ≤ IntKind.max .i64 := by simpa [Lit.wf] using h
  have e1 : IntKind.min .i64 = -9223372036854775808 := by decide
  have e2 : IntKind.max .i64 = 9223372036854775807 := by decide
  omega
theorem snoc_cases {α : Type} (l : List α) : l = [] ∨ ∃ i e, l = i ++ [e] := by
  rcases List.eq_nil_or_concat l with h | ⟨i, e, h⟩
  · exact .inl h
  · exact .inr ⟨i, e, by rw [h, List.concat_eq_append]⟩
theorem ext_lt {P : Nat → Prop} {k : Nat} (h : ∀ j, j < k → P j) (hk : P k) : ∀ j, j < k + 1 → P j := fun j hj => by
  rcases Nat.lt_or_ge j k with h' | h'
  · exact h j h'
  · obtain rfl : j = k := by omega
    exact hk
theorem at_nat {w : World} {A : Option Addr} {n : Nat} {k : IntKind} {xs : List Int} (h : (Kd.int k).C w A n xs) (i : Nat) (h1 : i < n) : ∃ ad, A = some ad ∧ w.cell? (ad.add i) = some (.int k (rd xs (i : Int))) := by
  obtain ⟨ad, e, hx⟩ := Kd.at_int h (i : Int) (by omega) (by omega)
  exact ⟨ad, e, by simpa using hx⟩
def str (xs : List ByteArray) (i : Nat) : ByteArray := xs.getD i ByteArray.empty
theorem at_str {w : World} {A : Option Addr} {n : Nat} {xs : List ByteArray} (h : Kd.string.C w A n xs) (i : Nat) (h1 : i < n) : ∃ ad, A = some ad ∧ w.cell? (ad.add i) = some (.string (str xs i)) := by
  obtain ⟨ad, c, e, _, hK, hc0⟩ := Kd.C_get h ByteArray.empty (i : Int) (by omega) (by omega)
  have hK : c = [.string (str xs i)] := by
    rw [Int.toNat_natCast] at hK
    exact hK
  subst hK
  exact ⟨ad, e, by simpa [show Kd.string.sz = 1 from rfl] using hc0 0 _ rfl⟩
section
variable {α : Type} {d : Kd α} {e base g n cap : Nat} {W : World} {ok okp : Nat → Prop} {xs : List α}
theorem R_elemN (h : d.R e W base ok (.slice (some ⟨g, 0, none⟩) n cap) xs) (z : α) (i : Nat) (h1 : i < n) :
    ∃ c, c.length = d.sz ∧ d.M W base (fun k => ok k ∧ k ≠ g) (xs.getD i z) c ∧ (∀ j u, c[j]? = some u → W.cell? ⟨g, i * d.sz + j, none⟩ = some u) ∧ ∀ j, W.frozen? ⟨g, i * d.sz + j, none⟩ = false := by
  simpa using Kd.R_elem h z (i : Int) (by omega) (by omega)
theorem R_segN (h : d.R e W base ok (.slice (some ⟨g, 0, none⟩) n cap) xs) (i : Nat) (h1 : i < n) {c seg : List Value} {j : Nat} (hcl : c.length = d.sz) (hcc : ∀ j u, c[j]? = some u → W.cell? ⟨g, i * d.sz + j, none⟩ = some u)
    (hj : j + seg.length ≤ d.sz) {x' : α} (hM : d.M W base okp x' (c.take j ++ seg ++ c.drop (j + seg.length))) (hokp : ∀ k, okp k → ok k ∧ k ≠ g) :
    d.R e (W.setCells g (i * d.sz + j) seg) base ok (.slice (some ⟨g, 0, none⟩) n cap) (xs.set i x') ∧ W.grownBy (W.setCells g (i * d.sz + j) seg) (some g) := by
  simpa using Kd.R_seg h (i : Int) (by omega) (by omega) hcl (by simpa using hcc) hj hM hokp
theorem R_empty (d : Kd α) (e : Nat) (W : World) (base : Nat) (hb : base ≤ W.heap.size) : d.R e (W.alloc (.cells #[] e)) base (fun _ => True) (.slice (some ⟨W.heap.size, 0, none⟩) 0 0) [] :=
  ⟨fun _ _ => trivial, OwnRow.lit W base (Reps.none _ _) hb (by simp)⟩
end
theorem C_nil {α : Type} (d : Kd α) (w : World) : Kd.C d w none ([] : List α).length [] := ⟨rfl, by simp, fun h => by simp at h⟩
theorem ints_cell {W : World} {base g n cap e : Nat} {k : IntKind} {ok : Nat → Prop} {xs : List Int} (h : (Kd.int k).R e W base ok (.slice (some ⟨g, 0, none⟩) n cap) xs) (i : Nat) (hi : i < n) : W.cell? ⟨g, i, none⟩ = some (.int k (rd xs (i : Int))) ∧ W.frozen? ⟨g, i, none⟩ = false := by
  obtain ⟨c, hcl, hM, hcc, hfr⟩ := R_elemN h 0 i hi
  obtain rfl : c = [.int k (xs.getD i 0)] := hM
  have h1 := hcc 0 _ rfl
  have h2 := hfr 0
  exact ⟨by simpa [show (Kd.int k).sz = 1 from rfl, rd] using h1, by simpa [show (Kd.int k).sz = 1 from rfl] using h2⟩
theorem ints_store {W : World} {base g n cap e : Nat} {k : IntKind} {ok : Nat → Prop} {xs : List Int} (h : (Kd.int k).R e W base ok (.slice (some ⟨g, 0, none⟩) n cap) xs) (i : Nat) (hi : i < n) (v : Int) :
    (Kd.int k).R e (W.setCell ⟨g, i, none⟩ (.int k v)) base ok (.slice (some ⟨g, 0, none⟩) n cap) (xs.set i v) ∧ W.grownBy (W.setCell ⟨g, i, none⟩ (.int k v)) (some g) ∧ base ≤ g := by
  obtain ⟨c, hcl, hM, hcc, hfr⟩ := R_elemN h 0 i hi
  obtain ⟨hs, hg⟩ := R_segN h i hi (seg := [.int k v]) (j := 0) hcl hcc (Nat.le_refl 1) (x' := v) (okp := fun _ => False) (by simp [hcl, show (Kd.int k).sz = 1 from rfl, List.drop_eq_nil_of_le]; rfl) (fun _ h => h.elim)
  have e' : W.setCells g (i * (Kd.int k).sz + 0) [.int k v] = W.setCell ⟨g, i, none⟩ (.int k v) := by
    rw [show (Kd.int k).sz = 1 from rfl, Nat.mul_one]; rfl
  rw [e'] at hs hg
  exact ⟨hs, hg, Kd.R_base h g (by simp [Value.ownBlock])⟩
theorem box_cell (w : World) (n : Nat) (hn : w.heap.size = n) (cs : Array Value) (t : TypeId) (i : Nat) (v : Value) (h : cs[i]? = some v) : (w.alloc (.cells cs t)).cell? ⟨n, i, none⟩ = some v := by
  subst hn
  have hh : (w.alloc (.cells cs t)).heap[w.heap.size]? = some (.cells cs t (0, 0)) := by simpa using heap_alloc_new w _
  rw [blk_cell hh, h]
theorem box_cell2 (w : World) (n : Nat) (hn : w.heap.size = n) (cs : Array Value) (t : TypeId) (o : Obj) (i : Nat) (v : Value) (h : cs[i]? = some v) : ((w.alloc (.cells cs t)).alloc o).cell? ⟨n, i, none⟩ = some v :=
  pw_cell_below (below_alloc (Below.refl _ _) o) (box_cell w n hn cs t i v h)
theorem reps_more {α : Type} {R : α → List Value → Prop} {size : Nat} (f : α → List Value) (h : ∀ p, R p (f p)) (hl : ∀ p, (f p).length = size) : ∀ (ps qs : List α) (cs : List Value), Reps R size qs cs → Reps R size (qs ++ ps) (cs ++ ps.flatMap f) := by
  intro ps
  induction ps with
  | nil => intro qs cs hr; simpa using hr
  | cons p ps ih =>
    intro qs cs hr
    have := ih (qs ++ [p]) (cs ++ f p) (Reps.snoc hr (h p) (hl p))
    simpa using this
theorem reps_flatMap {α : Type} {R : α → List Value → Prop} {size : Nat} (f : α → List Value) (h : ∀ p, R p (f p)) (hl : ∀ p, (f p).length = size) (ps : List α) : Reps R size ps (ps.flatMap f) := by
  simpa using reps_more f h hl ps [] [] (Reps.none _ _)
theorem R_lits {α : Type} (d : Kd α) (e : Nat) (f : α → List Value) (W : World) (base : Nat) (ps : List α) (h : ∀ p, d.M W base (fun _ => False) p (f p)) (hl : ∀ p, (f p).length = d.sz) (hb : base ≤ W.heap.size) (hm : ps.length ≤ 9223372036854775807) {cs : Array Value} (hcs : cs = (ps.flatMap f).toArray) :
    d.R e (W.alloc (.cells cs e)) base (fun _ => True) (.slice (some ⟨W.heap.size, 0, none⟩) ps.length ps.length) ps := by
  subst hcs
  exact ⟨fun _ _ => trivial, OwnRow.imp_ (OwnRow.lit (R := fun p c => d.M W base (fun _ => False) p c) W base (reps_flatMap f h hl ps) hb hm) (fun p c hp => d.M_mono (fun _ h => h.elim) (Kd.M_alloc hp _))⟩
theorem C_ints (W : World) (e n : Nat) (hn : W.heap.size = n) (ps : List Int) (hm : ps.length ≤ 9223372036854775807) {cs : Array Value} (hcs : cs = (ps.flatMap fun x => [.int .i64 x]).toArray) : Kd.C (Kd.int .i64) (W.alloc (.cells cs e)) (some ⟨n, 0, none⟩) ps.length ps := by
  subst hn
  exact (Kd.R_reads' (R_lits (Kd.int .i64) e (fun x => [.int .i64 x]) W W.heap.size ps (fun _ => rfl) (fun _ => rfl) (Nat.le_refl _) hm hcs)).2.2
theorem C_strs (W : World) (e n : Nat) (hn : W.heap.size = n) (ps : List ByteArray) (hm : ps.length ≤ 9223372036854775807) {cs : Array Value} (hcs : cs = (ps.flatMap fun x => [.string x]).toArray) : Kd.C Kd.string (W.alloc (.cells cs e)) (some ⟨n, 0, none⟩) ps.length ps := by
  subst hn
  exact (Kd.R_reads' (R_lits Kd.string e (fun x => [.string x]) W W.heap.size ps (fun _ => rfl) (fun _ => rfl) (Nat.le_refl _) hm hcs)).2.2
structure Node where
  kind : Int
  ints : List Int
  texts : List ByteArray
  kids : List Int
structure Scene where
  nodes : List Node
  root : Int
def nodez : Node := ⟨0, [], [], []⟩
def kNode : Kd Node := Kd.iso (Kd.pair (Kd.int .i64) (Kd.pair (Kd.slice 2 (Kd.int .i64)) (Kd.pair (Kd.slice 9 Kd.string) (Kd.slice 3 (Kd.int .i64))))) (fun x : Node => (x.kind, x.ints, x.texts, x.kids))
def nd (xs : List Node) (i : Nat) : Node := xs.getD i nodez
structure NodeC (w : World) (n : Node) (A1 : Option Addr) (c1 : Nat) (A2 : Option Addr) (c2 : Nat) (A3 : Option Addr) (c3 : Nat) : Prop where
  l1 : n.ints.length ≤ c1
  l2 : n.texts.length ≤ c2
  l3 : n.kids.length ≤ c3
  i : (Kd.int .i64).C w A1 n.ints.length n.ints
  t : Kd.string.C w A2 n.texts.length n.texts
  k : (Kd.int .i64).C w A3 n.kids.length n.kids
theorem NodeC.below {w w' : World} {n : Node} {A1 A2 A3 : Option Addr} {c1 c2 c3 : Nat} (h : NodeC w n A1 c1 A2 c2 A3 c3) (hb : Below w.heap.size w w') : NodeC w' n A1 c1 A2 c2 A3 c3 :=
  ⟨h.l1, h.l2, h.l3, Kd.C_below h.i hb, Kd.C_below h.t hb, Kd.C_below h.k hb⟩
theorem kNode_open {w : World} {x : Node} {cs : List Value} (h : kNode.K w x cs) : ∃ A1 c1 A2 c2 A3 c3, cs = [.int .i64 x.kind, .slice A1 x.ints.length c1, .slice A2 x.texts.length c2, .slice A3 x.kids.length c3] ∧ NodeC w x A1 c1 A2 c2 A3 c3 := by
  obtain ⟨_, _, rfl, rfl, ⟨_, _, rfl, ⟨A1, c1, rfl, l1, h1⟩, ⟨_, _, rfl, ⟨A2, c2, rfl, l2, h2⟩, ⟨A3, c3, rfl, l3, h3⟩⟩⟩⟩ := h
  exact ⟨A1, c1, A2, c2, A3, c3, rfl, l1, l2, l3, h1, h2, h3⟩
theorem kNode_mk {w : World} {x : Node} {A1 A2 A3 : Option Addr} {c1 c2 c3 : Nat} (h : NodeC w x A1 c1 A2 c2 A3 c3) : kNode.K w x [.int .i64 x.kind, .slice A1 x.ints.length c1, .slice A2 x.texts.length c2, .slice A3 x.kids.length c3] :=
  ⟨[_], _, rfl, rfl, ⟨[_], _, rfl, ⟨A1, c1, rfl, h.l1, h.i⟩, ⟨[_], _, rfl, ⟨A2, c2, rfl, h.l2, h.t⟩, ⟨A3, c3, rfl, h.l3, h.k⟩⟩⟩⟩
theorem at_node {w : World} {A : Option Addr} {n : Nat} {xs : List Node} (h : kNode.C w A n xs) (i : Nat) (h1 : i < n) :
    ∃ ad A1 c1 A2 c2 A3 c3, A = some ad ∧ w.cell? (ad.add (i * 4)) = some (.int .i64 (nd xs i).kind) ∧ w.cell? ⟨(ad.add (i * 4)).block, (ad.add (i * 4)).off + 1, none⟩ = some (.slice A1 (nd xs i).ints.length c1) ∧ w.cell? ⟨(ad.add (i * 4)).block, (ad.add (i * 4)).off + 2, none⟩ = some (.slice A2 (nd xs i).texts.length c2) ∧ w.cell? ⟨(ad.add (i * 4)).block, (ad.add (i * 4)).off + 3, none⟩ = some (.slice A3 (nd xs i).kids.length c3) ∧ NodeC w (nd xs i) A1 c1 A2 c2 A3 c3 := by
  obtain ⟨ad, c, e, _, hK, hc0⟩ := Kd.C_get h nodez (i : Int) (by omega) (by omega)
  have hc : ∀ j u, c[j]? = some u → w.cell? (ad.add (i * 4 + j)) = some u := fun j u h => by simpa [show kNode.sz = 4 from rfl] using hc0 j u h
  have hK' : kNode.K w (nd xs i) c := by simpa [nd] using hK
  obtain ⟨A1, c1, A2, c2, A3, c3, rfl, hN⟩ := kNode_open hK'
  refine ⟨ad, A1, c1, A2, c2, A3, c3, e, hc 0 _ rfl, ?_, ?_, ?_, hN⟩
  · rw [← add_field _ _ 1 (by omega)]; exact hc 1 _ rfl
  · rw [← add_field _ _ 2 (by omega)]; exact hc 2 _ rfl
  · rw [← add_field _ _ 3 (by omega)]; exact hc 3 _ rfl
section
open Go.Maps
def heldE (v : Value) : Option (DataW Value × List MemPlace) := some (.held v, [])
def MapF (P : Program) (k : TypeId) (w : World) (b n : Nat) (f : Lit → Option Value) : Prop :=
  ∃ D : DataW Value, w.ownsMap P k heldE b n D ∧ ∀ q, Maps.has D q = (f q).isSome ∧ ∀ v z, f q = some v → D.atKey q z = .held v
section
variable {P : Program} {k : TypeId} {w w1 : World} {b n : Nat} {f : Lit → Option Value}
theorem MapF.made (P : Program) (k : TypeId) (w : World) : MapF P k (w.alloc (.map #[] 0)) w.heap.size 0 (fun _ => none) :=
  ⟨.map [], World.ownsMap_made w P k heldE, fun q => ⟨rfl, fun v z h => by cases h⟩⟩
theorem MapF.lt (h : MapF P k w b n f) : b < w.heap.size := by
  obtain ⟨D, h, _⟩ := h
  exact h.lt
theorem MapF.kept {row : Option Nat} (h : MapF P k w b n f) (hg : w.grownBy w1 row) (hne : some b ≠ row) : MapF P k w1 b n f := by
  obtain ⟨D, h, hf⟩ := h
  exact ⟨D, h.kept hg hne, hf⟩
theorem MapF.below (h : MapF P k w b n f) (hb : Below w.heap.size w w1) : MapF P k w1 b n f := h.kept (row := none) ⟨hb.os, hb.tape, hb.output, hb.size, fun i hi _ => hb.block i hi⟩ (by simp)
theorem MapF.setCell (h : MapF P k w b n f) {a : Addr} (ha : b ≠ a.block) (u : Value) : MapF P k (w.setCell a u) b n f := by
  obtain ⟨D, h, hf⟩ := h
  exact ⟨D, h.setCell ha u, hf⟩
theorem MapF.not_cells (h : MapF P k w b n f) {cs : Array Value} {t : TypeId} {fr : Nat × Nat} : ¬ w.heap[b]? = some (.cells cs t fr) := by
  obtain ⟨D, ⟨es, clock, hb, _⟩, _⟩ := h
  rw [hb]
  intro h
  cases h
theorem MapF.ne_row {α : Type} {d : Kd α} {e base : Nat} {ok : Nat → Prop} {v : Value} {xs : List α} (h : MapF P k w b n f) (hR : d.R e w base ok v xs) : some b ≠ v.ownBlock := fun he => by
  obtain ⟨cells, hc⟩ := Kd.R_typed hR b he.symm
  exact h.not_cells hc
theorem R_past_map {α : Type} {d : Kd α} {e base : Nat} {ok : Nat → Prop} {v : Value} {xs : List α} (hR : d.R e w base ok v xs) (h : MapF P k w b n f) (hg : w.grownBy w1 (some b)) : d.R e w1 base ok v xs :=
  Kd.R_mono (Kd.R_grown (Kd.R_bound hR) hg (fun q hq he => by
    obtain ⟨_, _, _, e', _, cells, hc⟩ := hq
    injection he with he
    subst he
    exact h.not_cells hc)) (fun _ hq => hq.1)
theorem below_map {B : Nat} {w0 : World} (h : Below B w0 w) (hB : B ≤ w.heap.size) (hg : w.grownBy w1 (some b)) (hb : B ≤ b) : Below B w0 w1 := h.grown hg hB (fun q hq => by injection hq with hq; omega)
open Classical in
noncomputable def putF (f : Lit → Option Value) (q : Lit) (v : Value) : Lit → Option Value := fun x => if x = q then some v else f x
theorem putF_same (f : Lit → Option Value) (q : Lit) (v : Value) : putF f q v q = some v := by simp [putF]
theorem putF_other (f : Lit → Option Value) {q x : Lit} (v : Value) (h : x ≠ q) : putF f q v x = f x := by simp [putF, h]
end
section
variable {P : Program} (w : World) {ops : Array Oper} {rest : List Oper} {o : Oper} {a : Act} {Q : Exit → Act → World → Prop}
theorem MapF.run_lookup {b n : Nat} {f : Lit → Option Value} {k e : TypeId} (t : TypeId) (hown : MapF P k w b n f) (K : Keyed P k) (ht : P.underlying t = some (.map k e)) {z : Value} (hz : (zeroValue e).run P w = .ok z w) {key : Value} {kl : Lit} (hkey : keyOf P k key = some kl) :
    (Instr.lookup t (.map (some b)) key false).run P w = .ok ((f kl).getD z) w := by
  obtain ⟨D, hown, hf⟩ := hown
  obtain ⟨v, ps, hrun, hv⟩ := hown.lookup (z := z) (zd := .held z) (zp := []) K ht hz rfl hkey
  have e : v = (f kl).getD z := by
    have hv' : DataW.held v = D.atKey kl (.held z) := by
      have := Option.some.inj hv
      exact (Prod.mk.inj this).1
    cases hq : f kl with
    | none =>
      have h1 := (hf kl).1
      rw [hq] at h1
      rw [Maps.atKey_of_not_has h1] at hv'
      exact DataW.held.inj hv'
    | some u =>
      rw [(hf kl).2 u _ hq] at hv'
      exact DataW.held.inj hv'
  rw [← e]; exact hrun
theorem wpList_lookup_F (hg : o.guard = none) (m x : Operand) (t : TypeId) (hop : o.op = Op.lookup t m x false)
    (k e : TypeId) (K : Keyed P k) (ht : P.underlying t = some (.map k e)) {z : Value} (hz : (zeroValue e).run P w = .ok z w) (b n : Nat) (f : Lit → Option Value)
    (hm : a.eval m = .map (some b)) (hown : MapF P k w b n f) (key : Value) (kl : Lit) (hx : a.eval x = key) (hkey : keyOf P k key = some kl) (u : Value) (hu : (f kl).getD z = u)
    (hK : wpList P ops Q rest (a.put o.dst u) w) :
    wpList P ops Q (o :: rest) a w := by
  subst hu
  obtain ⟨D, hown, hf⟩ := hown
  refine wpList_plain hg fun K' hK' => ?_
  obtain ⟨v, ps, hrun, hv⟩ := hown.lookup (z := z) (zd := .held z) (zp := []) K ht hz rfl hkey
  have e : v = (f kl).getD z := by
    have hv' : DataW.held v = D.atKey kl (.held z) := by
      have := Option.some.inj hv
      exact (Prod.mk.inj this).1
    cases hq : f kl with
    | none =>
      have h1 := (hf kl).1
      rw [hq] at h1
      rw [Maps.atKey_of_not_has h1] at hv'
      exact DataW.held.inj hv'
    | some u =>
      rw [(hf kl).2 u _ hq] at hv'
      exact DataW.held.inj hv'
  subst e
  unfold Oper.wp
  simp [execOp, hop, hm, hx, hrun, Result.andThen]
  exact hK' _ _ hK
theorem wpList_lookup_F_ok (hg : o.guard = none) (m x : Operand) (t : TypeId) (hop : o.op = Op.lookup t m x true)
    (k e : TypeId) (K : Keyed P k) (ht : P.underlying t = some (.map k e)) {z : Value} (hz : (zeroValue e).run P w = .ok z w) (b n : Nat) (f : Lit → Option Value)
    (hm : a.eval m = .map (some b)) (hown : MapF P k w b n f) (key : Value) (kl : Lit) (hx : a.eval x = key) (hkey : keyOf P k key = some kl) (u : Value) (hu : (f kl).getD z = u) (ok : Bool) (hok : (f kl).isSome = ok)
    (hK : wpList P ops Q rest (a.put o.dst (.tuple #[u, .bool ok])) w) :
    wpList P ops Q (o :: rest) a w := by
  subst hu hok
  obtain ⟨D, hown, hf⟩ := hown
  refine wpList_plain hg fun K' hK' => ?_
  obtain ⟨v, ps, hrun, hv⟩ := hown.look_ok (z := z) (zd := .held z) (zp := []) K ht hz rfl hkey
  have e : v = (f kl).getD z := by
    have hv' : DataW.held v = D.atKey kl (.held z) := by
      have := Option.some.inj hv
      exact (Prod.mk.inj this).1
    cases hq : f kl with
    | none =>
      have h1 := (hf kl).1
      rw [hq] at h1
      rw [Maps.atKey_of_not_has h1] at hv'
      exact DataW.held.inj hv'
    | some u =>
      rw [(hf kl).2 u _ hq] at hv'
      exact DataW.held.inj hv'
  subst e
  rw [(hf kl).1] at hrun
  unfold Oper.wp
  simp [execOp, hop, hm, hx, hrun, Result.andThen]
  exact hK' _ _ hK
theorem wpList_update_F (hg : o.guard = none) (m x v : Operand) (t : TypeId) (hop : o.op = Op.mapUpdate t m x v)
    (k e : TypeId) (K : Keyed P k) (ht : P.underlying t = some (.map k e)) (b n : Nat) (f : Lit → Option Value)
    (hm : a.eval m = .map (some b)) (hown : MapF P k w b n f) (hn : n < maxLen) (key val : Value) (kl : Lit) (hx : a.eval x = key) (hv : a.eval v = val) (hkey : keyOf P k key = some kl)
    (hK : ∀ w', MapF P k w' b (n + 1) (putF f kl val) → w.grownBy w' (some b) → wpList P ops Q rest (a.put o.dst undef) w') :
    wpList P ops Q (o :: rest) a w := by
  obtain ⟨D, hown, hf⟩ := hown
  have hm' := hown.isMap
  have hkl : WideAt.IsKeyLit kl := K.key hkey
  refine wpList_mapUpdate_own w hg m x v t hop k e K ht heldE b n D hm hown hn key val kl hx hv hkey (.held val) [] rfl ?_
  intro w' h1 h2
  refine hK w' ⟨_, h1, fun q => ?_⟩ h2
  by_cases hq : q = kl
  · subst hq
    rw [Maps.has_put_same hm' hkl, putF_same]
    refine ⟨rfl, fun u z hu => ?_⟩
    cases hu
    exact Maps.atKey_put_same hm' hkl _ _
  · rw [Maps.has_put_other hq, putF_other f val hq]
    refine ⟨(hf q).1, fun u z hu => ?_⟩
    rw [Maps.atKey_put_other hq]
    exact (hf q).2 u z hu
end
end
end Go.Proofs.YtggldnbhmebcpaaGreatDoor.L
end
section
namespace Go.Proofs.YtggldnbhmebcpaaGreatDoor.L
open Go.RowKit Go.ChangeShapes Go.WideShapes Go.Proofs.YtggldnbhmebcpaaGreatDoorW.PrintWords Go.Proofs.YtggldnbhmebcpaaGreatDoorW.PrintLast Go.Proofs.YtggldnbhmebcpaaGreatDoorW.PrintMore
attribute [local go_sem] max2_int min2_int max_two min_two max_three min_three max_four min_four
def noPlace (N : Nat) (k : Int) : Bool := decide (k < 0) || decide ((N : Int) ≤ k)
def kidsBad (N : Nat) (l : List Int) : Bool := decide (∃ j, j < l.length ∧ noPlace N (rd l j) = true)
theorem kidsBad_at {N : Nat} {l : List Int} {j : Nat} (hj : j < l.length) (h : noPlace N (rd l j) = true) : kidsBad N l = true := decide_eq_true ⟨j, hj, h⟩
theorem kidsBad_no {N : Nat} {l : List Int} {k : Nat} (hk : l.length ≤ k) (h : ∀ j, j < k → noPlace N (rd l j) = false) : kidsBad N l = false := decide_eq_false (fun ⟨j, hj, hb⟩ => by rw [h j (by omega)] at hb; cases hb)
def refsFrom (N : Nat) : List Node → Nat → Int
  | [], _ => -1
  | n :: r, i => if kidsBad N n.kids = true then (i : Int) else refsFrom N r (i + 1)
def refsAt (l : List Node) : Int := refsFrom l.length l 0
theorem refsFrom_at {N : Nat} : ∀ (l : List Node) (i k : Nat), k < l.length → (∀ j, j < k → kidsBad N (nd l j).kids = false) → kidsBad N (nd l k).kids = true → refsFrom N l i = ((i + k : Nat) : Int)
  | [], _, _, h, _, _ => by simp at h
  | n :: r, i, 0, _, _, hb => by unfold refsFrom; rw [if_pos (show kidsBad N n.kids = true from hb)]; rfl
  | n :: r, i, k + 1, h, ha, hb => by
    unfold refsFrom
    rw [if_neg (by have := ha 0 (by omega); rw [show nd (n :: r) 0 = n from rfl] at this; rw [this]; simp)]
    rw [refsFrom_at r (i + 1) k (by simpa using h) (fun j hj => ha (j + 1) (by omega)) hb]
    congr 1
    omega
theorem refsFrom_no {N : Nat} : ∀ (l : List Node) (i : Nat), (∀ j, j < l.length → kidsBad N (nd l j).kids = false) → refsFrom N l i = -1
  | [], _, _ => rfl
  | n :: r, i, ha => by
    unfold refsFrom
    rw [if_neg (by have := ha 0 (by simp); rw [show nd (n :: r) 0 = n from rfl] at this; rw [this]; simp)]
    exact refsFrom_no r (i + 1) (fun j hj => ha (j + 1) (by simpa using hj))
set_option maxRecDepth 100000 in
set_option maxHeartbeats 1000000 in
theorem noPlace_any (k : Int) (B : Nat) (A : Option Addr) (N c : Nat) (w : World) (h : w.cell? ⟨B, 0, none⟩ = some (.slice A N c)) (hN : N ≤ 9223372036854775807) :
    Calls Tryz.prog 108 #[.int .i64 k, .pointer (some ⟨B, 0, none⟩)] w fun e w' => e = .returned (.bool (noPlace N k)) ∧ Drawn0 w w' := by
  by_cases h1 : k < 0
  · have E : Aside0 (noPlace N k = true) := ⟨by unfold noPlace; rw [decide_eq_true h1]; rfl⟩
    have d1 : decide (k < 0) = true := decide_eq_true h1
    clear h1
    go_enter Tryz.func108, Tryz.ntmps108
    go_wp2
    go_ret
    exact ⟨ret_bool E.out.symm, by repeat (first | exact Drawn0.refl _ | apply Drawn0.step)⟩
  · have d1 : decide (k < 0) = false := decide_eq_false h1
    by_cases h2 : (N : Int) ≤ k
    · have E : Aside0 (noPlace N k = true) := ⟨by unfold noPlace; rw [decide_eq_true h2]; simp⟩
      have d2 : decide ((N : Int) ≤ k) = true := decide_eq_true h2
      clear h1 h2
      go_enter Tryz.func108, Tryz.ntmps108
      go_wp2
      go_ret
      exact ⟨ret_bool E.out.symm, by repeat (first | exact Drawn0.refl _ | apply Drawn0.step)⟩
    · have E : Aside0 (noPlace N k = false) := ⟨by unfold noPlace; rw [decide_eq_false h1, decide_eq_false h2]; rfl⟩
      have d2 : decide ((N : Int) ≤ k) = false := decide_eq_false h2
      clear h1 h2
      go_enter Tryz.func108, Tryz.ntmps108
      go_wp2
      go_ret
      exact ⟨ret_bool E.out.symm, by repeat (first | exact Drawn0.refl _ | apply Drawn0.step)⟩
def CapN (B N : Nat) (w : World) : Prop := ∃ A c, w.cell? ⟨B, 0, none⟩ = some (.slice A N c) ∧ N ≤ 9223372036854775807
theorem CapN.below {B N : Nat} {w w' : World} (h : CapN B N w) (hb : Below w.heap.size w w') : CapN B N w' := by
  obtain ⟨A, c, h, hN⟩ := h
  exact ⟨A, c, pw_cell_below hb h, hN⟩
def KidIdx (N : Nat) (l : List Int) (w : World) (e : Ending) (w' : World) : Prop := ∃ i : Int, e = .returned (.int .i64 i) ∧ decide (0 ≤ i) = kidsBad N l ∧ Below w.heap.size w w'
set_option maxRecDepth 100000 in
set_option maxHeartbeats 1000000 in
theorem kidIdx_any (A : Option Addr) (c : Nat) (l : List Int) (B N : Nat) (w : World) (hl : (Kd.int .i64).C w A l.length l) (h : CapN B N w) :
    Calls Tryz.prog 105 #[.slice A l.length c, .func (.func 108) #[] #[.pointer (some ⟨B, 0, none⟩)]] w (KidIdx N l w) := by
  have HR := Aside0.mk hl
  have HC := Aside0.mk h
  have HB := Aside0.mk (Below.refl w.heap.size w)
  have b0 := hl.2.1
  clear hl h
  go_enter Tryz.func105, Tryz.ntmps105
  go_wp2
  go_loopw [5, 8] (fun _ v8 W => ∃ k : Nat, k ≤ l.length ∧ v8 = .int .i64 k ∧ Aside0 (∀ j, j < k → noPlace N (rd l j) = false) ∧ Aside0 (Below w.heap.size w W)) (fun _ v8 _ => l.length - (intOf v8).toNat)
  case atStart => exact ⟨0, by omega, rfl, ⟨fun j hj => by omega⟩, HB⟩
  case round =>
    obtain ⟨k, hk, rfl, HP, HB1⟩ := hrel
    by_cases hlt : k < l.length
    · obtain ⟨ad0, rfl, hx0⟩ := at_nat (Kd.C_below HR.out HB1.out) k (by omega)
      obtain ⟨AA, cc, h3⟩ := HC.out.below HB1.out
      have h3 := Aside0.mk h3
      go_wp2_with fail
      refine (noPlace_any (rd l k) B _ N _ _ h3.out.1 h3.out.2).mono ?_
      rintro e w' ⟨rfl, hB⟩
      have HB2 := Aside0.mk (below_step HB1.out hB.below)
      clear hB
      by_cases hi : noPlace N (rd l k) = true
      · have HI := Aside0.mk hi
        clear hi
        rw [HI.out]
        go_wp2
        go_ret
        exact ⟨k, rfl, by rw [kidsBad_at hlt HI.out]; exact decide_eq_true (by omega), HB2.out⟩
      · have HI := Aside0.mk (Bool.eq_false_iff.2 hi)
        clear hi
        rw [HI.out]
        go_wp2
        go_roundw
        case rel => exact ⟨k + 1, by omega, by go_num, ⟨ext_lt HP.out HI.out⟩, HB2⟩
        case measure => simp [intOf]; omega
    · have HE := Aside0.mk (kidsBad_no (by omega) HP.out)
      go_wp2
      go_ret
      exact ⟨-1, rfl, by rw [HE.out]; rfl, HB1.out⟩
set_option maxRecDepth 100000 in
set_option maxHeartbeats 1000000 in
theorem kidHas_any (A : Option Addr) (c : Nat) (l : List Int) (B N : Nat) (w : World) (hl : (Kd.int .i64).C w A l.length l) (h : CapN B N w) :
    Calls Tryz.prog 76 #[.slice A l.length c, .func (.func 108) #[] #[.pointer (some ⟨B, 0, none⟩)]] w fun e w' => e = .returned (.bool (kidsBad N l)) ∧ Below w.heap.size w w' := by
  have HR := Aside0.mk hl
  have HC := Aside0.mk h
  clear hl h
  go_enter Tryz.func76, Tryz.ntmps76
  go_wp2_with fail
  refine (kidIdx_any A c l B N _ HR.out HC.out).mono ?_
  rintro e w' ⟨i, rfl, hi, hB⟩
  have HI := Aside0.mk hi
  have HB := Aside0.mk hB
  clear hi hB
  go_wp2
  go_ret
  exact ⟨ret_bool HI.out, HB.out⟩
set_option maxRecDepth 100000 in
set_option maxHeartbeats 1000000 in
theorem nodeBad_any (n : Node) (A1 : Option Addr) (c1 : Nat) (A2 : Option Addr) (c2 : Nat) (A3 : Option Addr) (c3 : Nat) (B N : Nat) (w : World) (h : NodeC w n A1 c1 A2 c2 A3 c3) (hC : CapN B N w) :
    Calls Tryz.prog 107 #[.agg #[.int .i64 n.kind, .slice A1 n.ints.length c1, .slice A2 n.texts.length c2, .slice A3 n.kids.length c3], .pointer (some ⟨B, 0, none⟩)] w fun e w' => e = .returned (.bool (kidsBad N n.kids)) ∧ Below w.heap.size w w' := by
  have HN := Aside0.mk h
  have HC := Aside0.mk hC
  have HB := Aside0.mk (below_alloc (Below.refl w.heap.size w) (.cells #[.int .i64 n.kind, .slice A1 n.ints.length c1, .slice A2 n.texts.length c2, .slice A3 n.kids.length c3] 42))
  clear h hC
  go_enter Tryz.func107, Tryz.ntmps107
  go_wp2_with fail
  refine (kidHas_any A3 c3 n.kids B N _ (Kd.C_below HN.out.k HB.out) (HC.out.below HB.out)).mono ?_
  rintro e w' ⟨rfl, hB⟩
  have HB1 := Aside0.mk (below_step HB.out hB)
  clear hB
  go_wp2
  go_ret
  exact ⟨rfl, HB1.out⟩
def RefIdx (l : List Node) (N : Nat) (w : World) (e : Ending) (w' : World) : Prop := e = .returned (.int .i64 (refsFrom N l 0)) ∧ Below w.heap.size w w'
set_option maxRecDepth 100000 in
set_option maxHeartbeats 1000000 in
theorem refIdx_any (A : Option Addr) (c : Nat) (l : List Node) (B N : Nat) (w : World) (h : kNode.C w A l.length l) (hC : CapN B N w) :
    Calls Tryz.prog 106 #[.slice A l.length c, .func (.func 107) #[] #[.pointer (some ⟨B, 0, none⟩)]] w (RefIdx l N w) := by
  have HR := Aside0.mk h
  have HC := Aside0.mk hC
  have HB := Aside0.mk (Below.refl w.heap.size w)
  have b0 := h.2.1
  clear h hC
  go_enter Tryz.func106, Tryz.ntmps106
  go_wp2
  go_loopw [5, 8] (fun _ v8 W => ∃ k : Nat, k ≤ l.length ∧ v8 = .int .i64 k ∧ Aside0 (∀ j, j < k → kidsBad N (nd l j).kids = false) ∧ Aside0 (Below w.heap.size w W)) (fun _ v8 _ => l.length - (intOf v8).toNat)
  case atStart => exact ⟨0, by omega, rfl, ⟨fun j hj => by omega⟩, HB⟩
  case round =>
    obtain ⟨k, hk, rfl, HP, HB1⟩ := hrel
    by_cases hlt : k < l.length
    · obtain ⟨ad, A1, c1, A2, c2, A3, c3, rfl, x0, x1, x2, x3, hN⟩ := at_node (Kd.C_below HR.out HB1.out) k (by omega)
      have HN := Aside0.mk hN
      clear hN
      go_wp2_with fail
      refine (nodeBad_any (nd l k) A1 c1 A2 c2 A3 c3 B N _ HN.out (HC.out.below HB1.out)).mono ?_
      rintro e w' ⟨rfl, hB⟩
      have HB2 := Aside0.mk (below_step HB1.out hB)
      clear hB
      by_cases hi : kidsBad N (nd l k).kids = true
      · have HI := Aside0.mk hi
        have HE := Aside0.mk (refsFrom_at l 0 k hlt HP.out hi)
        clear hi
        rw [HI.out]
        go_wp2
        go_ret
        exact ⟨ret_int (by rw [HE.out]; simp), HB2.out⟩
      · have HI := Aside0.mk (Bool.eq_false_iff.2 hi)
        clear hi
        rw [HI.out]
        go_wp2
        go_roundw
        case rel => exact ⟨k + 1, by omega, by go_num, ⟨ext_lt HP.out HI.out⟩, HB2⟩
        case measure => simp [intOf]; omega
    · have HE := Aside0.mk (refsFrom_no (N := N) l 0 (fun j hj => HP.out j (by omega)))
      go_wp2
      go_ret
      exact ⟨ret_int HE.out.symm, HB1.out⟩
set_option maxRecDepth 100000 in
set_option maxHeartbeats 1000000 in
theorem refs_any (A : Option Addr) (c : Nat) (s : Scene) (w : World) (h : kNode.C w A s.nodes.length s.nodes) :
    Calls Tryz.prog 78 #[.agg #[.slice A s.nodes.length c, .int .i64 s.root]] w fun e w' => e = .returned (.int .i64 (refsAt s.nodes)) ∧ Below w.heap.size w w' := by
  have HR := Aside0.mk h
  have HB := Aside0.mk (below_alloc (Below.refl w.heap.size w) (.cells #[.slice A s.nodes.length c, .int .i64 s.root] 24))
  have HC := Aside0.mk (show CapN w.heap.size s.nodes.length _ from ⟨A, c, box_cell w _ rfl #[.slice A s.nodes.length c, .int .i64 s.root] 24 0 _ rfl, h.2.1⟩)
  clear h
  go_enter Tryz.func78, Tryz.ntmps78
  go_wp2_with fail
  refine (refIdx_any A c s.nodes w.heap.size s.nodes.length _ (Kd.C_below HR.out HB.out) HC.out).mono ?_
  rintro e w' ⟨rfl, hB⟩
  have HB1 := Aside0.mk (below_step HB.out hB)
  clear hB
  go_wp2
  go_ret
  exact ⟨rfl, HB1.out⟩
end Go.Proofs.YtggldnbhmebcpaaGreatDoor.L
end
section
namespace Go.Proofs.YtggldnbhmebcpaaGreatDoor.L
open Go.RowKit Go.ChangeShapes Go.WideShapes Go.Proofs.YtggldnbhmebcpaaGreatDoorW.PrintWords Go.Proofs.YtggldnbhmebcpaaGreatDoorW.PrintLast Go.Proofs.YtggldnbhmebcpaaGreatDoorW.PrintMore
attribute [local go_sem] max2_int min2_int max_two min_two max_three min_three max_four min_four
def kids (ns : List Node) (i : Int) : List Int := (nd ns i.toNat).kids
def Places (ns : List Node) : Prop := ∀ i : Nat, i < ns.length → ∀ k ∈ (nd ns i).kids, 0 ≤ k ∧ k < (ns.length : Int)
inductive Rch (ns : List Node) (l : List Int) : Int → Prop
  | base {k : Int} : k ∈ l → Rch ns l k
  | step {i k : Int} : Rch ns l i → k ∈ kids ns i → Rch ns l k
def wt (ns : List Node) (i : Nat) : Nat := (nd ns i).kids.length + 1
def left (ns : List Node) (vs : List Int) : Nat := (((List.range ns.length).filter (fun i : Nat => !vs.contains (i : Int))).map (wt ns)).sum
theorem sum_filter_split (f : Nat → Nat) (x : Nat) (p : Nat → Bool) : ∀ (l : List Nat), l.Nodup → x ∈ l → p x = true → ((l.filter (fun i => p i && !(i == x))).map f).sum + f x = ((l.filter p).map f).sum
  | [], _, h, _ => by simp at h
  | y :: r, hn, h, hp => by
    have hnr := (List.nodup_cons.1 hn)
    by_cases hy : y = x
    · subst hy
      have : (r.filter (fun i => p i && !(i == y))) = r.filter p := List.filter_congr (fun i hi => by
        have : i ≠ y := fun e => hnr.1 (e ▸ hi)
        simp [this])
      rw [List.filter_cons, List.filter_cons]
      simp [hp, this]
      omega
    · have hx : x ∈ r := by
        rcases List.mem_cons.1 h with h | h
        · exact absurd h.symm hy
        · exact h
      have ih := sum_filter_split f x p r hnr.2 hx hp
      rw [List.filter_cons, List.filter_cons]
      cases hpy : p y
      · simp [ih]
      · simp [hy]; omega
theorem left_cons {ns : List Node} {vs : List Int} {x : Nat} (hx : x < ns.length) (hv : ¬ (x : Int) ∈ vs) : left ns ((x : Int) :: vs) + wt ns x = left ns vs := by
  have h := sum_filter_split (wt ns) x (fun i : Nat => !vs.contains (i : Int)) (List.range ns.length) List.nodup_range (List.mem_range.2 hx) (by simpa using hv)
  have e : (fun i : Nat => !((x : Int) :: vs).contains (i : Int)) = (fun i : Nat => (!vs.contains (i : Int)) && !(i == x)) := by
    funext i
    by_cases hi : i = x
    · subst hi; simp
    · have : ¬ (i : Int) = (x : Int) := by omega
      simp [List.contains_cons, hi, this]
  unfold left
  rw [e]
  exact h
def rows (ns : List Node) : Nat := ((List.range ns.length).map (wt ns)).sum
theorem left_nil (ns : List Node) : left ns [] = rows ns := by
  unfold left rows
  rw [List.filter_eq_self.2 (fun a _ => by simp)]
theorem Places.of_refs {ns : List Node} (h : refsAt ns = -1) : Places ns := by
  intro i hi k hk
  have key : ∀ (N : Nat) (l : List Node) (j : Nat), refsFrom N l j = -1 → ∀ q, q < l.length → kidsBad N (nd l q).kids = false := by
    intro N l
    induction l with
    | nil => intro j _ q hq; simp at hq
    | cons n r ih =>
      intro j h q hq
      unfold refsFrom at h
      by_cases hb : kidsBad N n.kids = true
      · rw [if_pos hb] at h; omega
      · rw [if_neg hb] at h
        cases q with
        | zero => exact Bool.eq_false_iff.2 hb
        | succ q => exact ih (j + 1) h q (by simpa using hq)
  have := key ns.length ns 0 h i hi
  obtain ⟨j, hj, rfl⟩ := List.getElem_of_mem hk
  have h2 := of_decide_eq_false this
  have h3 : noPlace ns.length (rd (nd ns i).kids (j : Int)) = false := by
    cases hh : noPlace ns.length (rd (nd ns i).kids (j : Int)) with
    | false => rfl
    | true => exact absurd ⟨j, hj, hh⟩ h2
  rw [rd_eq hj] at h3
  unfold noPlace at h3
  simp at h3
  omega
end Go.Proofs.YtggldnbhmebcpaaGreatDoor.L
end
section
namespace Go.Proofs.YtggldnbhmebcpaaGreatDoor.L
open Go.RowKit Go.ChangeShapes Go.WideShapes Go.Proofs.YtggldnbhmebcpaaGreatDoorW.PrintWords Go.Proofs.YtggldnbhmebcpaaGreatDoorW.PrintLast Go.Proofs.YtggldnbhmebcpaaGreatDoorW.PrintMore
attribute [local go_sem] max2_int min2_int max_two min_two max_three min_three max_four min_four
theorem count_sum {L : List Int} (hL : L.Nodup) : ∀ l : List Int, (L.map (fun c => l.count c)).sum = (l.filter (fun x => L.contains x)).length
  | [] => by
    rw [List.filter_nil, List.length_nil]
    have : ∀ L : List Int, (L.map (fun c => ([] : List Int).count c)).sum = 0 := fun L => by
      induction L with
      | nil => rfl
      | cons a r ih => simpa using ih
    exact this L
  | x :: l => by
    have ih := count_sum hL l
    have one : ∀ L : List Int, L.Nodup → (L.map (fun c => (x :: l).count c)).sum = (L.map (fun c => l.count c)).sum + if L.contains x then 1 else 0 := fun L => by
      induction L with
      | nil => intro _; rfl
      | cons a r ihr =>
        intro hn
        obtain ⟨h1, h2⟩ := List.nodup_cons.1 hn
        have := ihr h2
        have hc : (x :: l).count a = l.count a + if x = a then 1 else 0 := by
          rw [List.count_cons]
          by_cases h : x = a
          · simp [h]
          · simp [h]
        rw [List.map_cons, List.sum_cons, List.map_cons, List.sum_cons, this, hc]
        by_cases hax : x = a
        · subst hax
          have hr : r.contains x = false := by simpa using h1
          have hr2 : (x :: r).contains x = true := by simp
          rw [hr, hr2]
          simp
          omega
        · have e2 : (a :: r).contains x = r.contains x := by
            rw [List.contains_cons, show (x == a) = false by simpa using hax, Bool.false_or]
          rw [e2, if_neg hax]
          omega
    rw [one L hL, ih, List.filter_cons]
    by_cases h : L.contains x = true
    · rw [if_pos h, if_pos h, List.length_cons]
    · rw [if_neg h, if_neg h]; rfl
theorem all_of_count {L l : List Int} (hL : L.Nodup) (h : l.length ≤ (L.map (fun c => l.count c)).sum) : ∀ x ∈ l, x ∈ L := by
  rw [count_sum hL] at h
  have h2 : (l.filter (fun x => L.contains x)).length = l.length := Nat.le_antisymm (List.length_filter_le _ _) h
  intro x hx
  have := List.length_filter_eq_length_iff.1 h2 x hx
  simpa using this
theorem count_le {L l : List Int} (hL : L.Nodup) : (L.map (fun c => l.count c)).sum ≤ l.length := by
  rw [count_sum hL]; exact List.length_filter_le _ _
structure Topo (ns : List Node) (L : List Int) : Prop where
  nd : L.Nodup
  pl : ∀ x ∈ L, 0 ≤ x ∧ x < (ns.length : Int)
  ahead : ∀ m, m < L.length → ∀ k ∈ kids ns (rd L (m : Int)), k ∈ L.take m
  all : ∀ p : Nat, p < ns.length → (∀ k ∈ kids ns (p : Int), k ∈ L) → (p : Int) ∈ L
theorem kids_nat (ns : List Node) (p : Nat) : kids ns (p : Int) = (L.nd ns p).kids := by unfold kids; rw [Int.toNat_natCast]
def rowOf (t : List (List Int)) (c : Int) : List Int := t.getD c.toNat []
def ParsOk (ns : List Node) (t : List (List Int)) : Prop := t.length = ns.length ∧ (∀ c : Nat, c < ns.length → ∀ x ∈ rowOf t c, 0 ≤ x ∧ x < (ns.length : Int)) ∧ ∀ c p : Nat, c < ns.length → p < ns.length → (rowOf t c).count (p : Int) = (kids ns p).count (c : Int)
def done (t : List (List Int)) (out : List Int) (i j : Nat) : List Int := (out.take i).flatMap (rowOf t) ++ (rowOf t (rd out (i : Int))).take j
structure OInv (ns : List Node) (t : List (List Int)) (op out : List Int) (i j : Nat) : Prop where
  nd : out.Nodup
  pl : ∀ x ∈ out, 0 ≤ x ∧ x < (ns.length : Int)
  len : op.length = ns.length
  op : ∀ p : Nat, p < ns.length → rd op (p : Int) = ((kids ns p).length : Int) - ((done t out i j).count (p : Int) : Int)
  mem : ∀ p : Nat, p < ns.length → ((p : Int) ∈ out ↔ (done t out i j).count (p : Int) = (kids ns p).length)
  ahead : ∀ m, m < out.length → ∀ k ∈ kids ns (rd out (m : Int)), k ∈ out.take m
theorem count_flatMap {ns : List Node} {t : List (List Int)} (ht : ParsOk ns t) {p : Nat} (hp : p < ns.length) : ∀ L : List Int, (∀ x ∈ L, 0 ≤ x ∧ x < (ns.length : Int)) → (L.flatMap (rowOf t)).count (p : Int) = (L.map (fun c => (kids ns p).count c)).sum
  | [], _ => rfl
  | c :: L, h => by
    rw [List.flatMap_cons, List.count_append, List.map_cons, List.sum_cons, count_flatMap ht hp L (fun x hx => h x (by simp [hx]))]
    have hc := h c (by simp)
    have := ht.2.2 c.toNat p (by omega) hp
    rw [Int.toNat_of_nonneg hc.1] at this
    rw [this]
theorem rd_mem {l : List Int} {i : Nat} (h : i < l.length) : rd l (i : Int) ∈ l := by rw [rd_eq h]; exact List.getElem_mem h
theorem OInv.next_le {ns : List Node} {t : List (List Int)} {op out : List Int} {i j p : Nat} (ht : ParsOk ns t) (h : OInv ns t op out i j) (hi : i < out.length) (hj : j < (rowOf t (rd out (i : Int))).length) (hp : rd (rowOf t (rd out (i : Int))) (j : Int) = (p : Int)) (hpn : p < ns.length) :
    (done t out i j).count (p : Int) + 1 ≤ ((out.take (i + 1)).map (fun c => (kids ns p).count c)).sum ∧ ((out.take (i + 1)).map (fun c => (kids ns p).count c)).sum ≤ (kids ns p).length := by
  have hnd : (out.take (i + 1)).Nodup := h.nd.sublist (List.take_sublist _ _)
  refine ⟨?_, count_le hnd⟩
  have hpl : ∀ x ∈ out.take (i + 1), 0 ≤ x ∧ x < (ns.length : Int) := fun x hx => h.pl x (List.mem_of_mem_take hx)
  rw [← count_flatMap ht hpn _ hpl]
  rw [take_succ_rd hi, List.flatMap_append, List.flatMap_singleton]
  unfold done
  rw [List.count_append, List.count_append, Nat.add_assoc]
  apply Nat.add_le_add_left
  have e : rowOf t (rd out (i : Int)) = (rowOf t (rd out (i : Int))).take (j + 1) ++ (rowOf t (rd out (i : Int))).drop (j + 1) := (List.take_append_drop _ _).symm
  rw [e, List.count_append, ← e, take_succ_rd hj, List.count_append, hp]
  simp
theorem done_succ {t : List (List Int)} {out : List Int} {i j : Nat} (hj : j < (rowOf t (rd out (i : Int))).length) : done t out i (j + 1) = done t out i j ++ [rd (rowOf t (rd out (i : Int))) (j : Int)] := by
  unfold done
  rw [take_succ_rd hj, List.append_assoc]
theorem done_push {t : List (List Int)} {out : List Int} {i j : Nat} (hi : i < out.length) (x : Int) : done t (out ++ [x]) i j = done t out i j := by
  unfold done
  rw [List.take_append_of_le_length (by omega)]
  have : rd (out ++ [x]) (i : Int) = rd out (i : Int) := by
    unfold rd
    rw [Int.toNat_natCast, List.getD_eq_getElem?_getD, List.getD_eq_getElem?_getD, List.getElem?_append_left hi]
  rw [this]
theorem done_row {t : List (List Int)} {out : List Int} {i : Nat} (hi : i < out.length) : done t out i (rowOf t (rd out (i : Int))).length = done t out (i + 1) 0 := by
  unfold done
  rw [List.take_length, List.take_zero, List.append_nil, take_succ_rd hi, List.flatMap_append, List.flatMap_singleton]
theorem count_snoc (l : List Int) (x y : Int) : (l ++ [x]).count y = l.count y + if x = y then 1 else 0 := by
  rw [List.count_append, List.count_singleton]
  by_cases h : x = y
  · simp [h]
  · simp [h]
theorem OInv.strike {ns : List Node} {t : List (List Int)} {op out : List Int} {i j p : Nat} (ht : ParsOk ns t) (h : OInv ns t op out i j) (hi : i < out.length) (hj : j < (rowOf t (rd out (i : Int))).length) (hp : rd (rowOf t (rd out (i : Int))) (j : Int) = (p : Int)) (hpn : p < ns.length)
    (hne : ¬ rd op (p : Int) - 1 = 0) : OInv ns t (op.set p (rd op (p : Int) - 1)) out i (j + 1) := by
  have hb := h.next_le ht hi hj hp hpn
  have hop := h.op p hpn
  refine ⟨h.nd, h.pl, by simpa using h.len, fun q hq => ?_, fun q hq => ?_, h.ahead⟩
  · rw [done_succ hj, hp, count_snoc, rd_set _ _ _ _ (by rw [h.len]; omega)]
    by_cases e : q = p
    · subst e; rw [if_pos rfl, if_pos rfl, hop]; omega
    · rw [if_neg e, if_neg (by omega), h.op q hq]; omega
  · rw [done_succ hj, hp, count_snoc, h.mem q hq]
    by_cases e : q = p
    · subst e; rw [if_pos rfl]; omega
    · rw [if_neg (by omega)]; omega
theorem OInv.free {ns : List Node} {t : List (List Int)} {op out : List Int} {i j p : Nat} (ht : ParsOk ns t) (h : OInv ns t op out i j) (hi : i < out.length) (hj : j < (rowOf t (rd out (i : Int))).length) (hp : rd (rowOf t (rd out (i : Int))) (j : Int) = (p : Int)) (hpn : p < ns.length)
    (hz : rd op (p : Int) - 1 = 0) : OInv ns t (op.set p (rd op (p : Int) - 1)) (out ++ [(p : Int)]) i (j + 1) := by
  have hb := h.next_le ht hi hj hp hpn
  have hop := h.op p hpn
  have hnot : ¬ (p : Int) ∈ out := fun hm => by have := (h.mem p hpn).1 hm; omega
  have hrd : rd (out ++ [(p : Int)]) (i : Int) = rd out (i : Int) := by
    unfold rd
    rw [Int.toNat_natCast, List.getD_eq_getElem?_getD, List.getD_eq_getElem?_getD, List.getElem?_append_left hi]
  have hd : done t (out ++ [(p : Int)]) i (j + 1) = done t out i j ++ [(p : Int)] := by rw [done_push hi, done_succ hj, hp]
  refine ⟨?_, fun x hx => ?_, by simpa using h.len, fun q hq => ?_, fun q hq => ?_, fun m hm k hk => ?_⟩
  · exact List.nodup_append.2 ⟨h.nd, by simp, fun a ha b hb e => by rw [List.mem_singleton.1 hb] at e; exact hnot (e ▸ ha)⟩
  · rcases List.mem_append.1 hx with hx | hx
    · exact h.pl x hx
    · rw [List.mem_singleton.1 hx]; omega
  · rw [hd, count_snoc, rd_set _ _ _ _ (by rw [h.len]; omega)]
    by_cases e : q = p
    · subst e; rw [if_pos rfl, if_pos rfl, hop]; omega
    · rw [if_neg e, if_neg (by omega), h.op q hq]; omega
  · rw [hd, count_snoc, List.mem_append, h.mem q hq]
    by_cases e : q = p
    · subst e; rw [if_pos rfl]
      exact ⟨fun _ => by omega, fun _ => .inr (by simp)⟩
    · rw [if_neg (by omega)]
      refine ⟨fun h' => ?_, fun h' => .inl (by omega)⟩
      rcases h' with h' | h'
      · omega
      · have := List.mem_singleton.1 h'; omega
  · rw [List.length_append, List.length_singleton] at hm
    rcases Nat.lt_or_ge m out.length with hlt | hge
    · have e : rd (out ++ [(p : Int)]) (m : Int) = rd out (m : Int) := by
        unfold rd
        rw [Int.toNat_natCast, List.getD_eq_getElem?_getD, List.getD_eq_getElem?_getD, List.getElem?_append_left hlt]
      rw [e] at hk
      rw [List.take_append_of_le_length (by omega)]
      exact h.ahead m hlt k hk
    · obtain rfl : m = out.length := by omega
      have e : rd (out ++ [(p : Int)]) (out.length : Int) = (p : Int) := by simp [rd]
      rw [e] at hk
      rw [List.take_left']
      · exact List.mem_of_mem_take (all_of_count (h.nd.sublist (List.take_sublist (i + 1) _)) (by omega) k hk)
      · rfl
theorem OInv.row {ns : List Node} {t : List (List Int)} {op out : List Int} {i : Nat} (h : OInv ns t op out i (rowOf t (rd out (i : Int))).length) (hi : i < out.length) : OInv ns t op out (i + 1) 0 :=
  ⟨h.nd, h.pl, h.len, fun p hp => by rw [← done_row hi]; exact h.op p hp, fun p hp => by rw [← done_row hi]; exact h.mem p hp, h.ahead⟩
theorem OInv.topo {ns : List Node} {t : List (List Int)} {op out : List Int} {i : Nat} (ht : ParsOk ns t) (h : OInv ns t op out i 0) (hi : out.length ≤ i) : Topo ns out := by
  refine ⟨h.nd, h.pl, h.ahead, fun p hp hk => (h.mem p hp).2 ?_⟩
  unfold done
  rw [List.take_of_length_le hi, List.take_zero, List.append_nil, count_flatMap ht hp _ h.pl, count_sum h.nd]
  apply List.length_filter_eq_length_iff.2
  intro x hx
  simpa using hk x hx
end Go.Proofs.YtggldnbhmebcpaaGreatDoor.L
end
section
namespace Go.Proofs.YtggldnbhmebcpaaGreatDoor.L
open Go.RowKit Go.ChangeShapes Go.WideShapes Go.Proofs.YtggldnbhmebcpaaGreatDoorW.PrintWords Go.Proofs.YtggldnbhmebcpaaGreatDoorW.PrintLast Go.Proofs.YtggldnbhmebcpaaGreatDoorW.PrintMore
attribute [local go_sem] max2_int min2_int max_two min_two max_three min_three max_four min_four
def Cyc (ns : List Node) (i : Int) : Prop := Rch ns (kids ns i) i
theorem Topo.reach {ns : List Node} {L : List Int} (h : Topo ns L) {m : Nat} (hm : m < L.length) {x : Int} (hr : Rch ns (kids ns (rd L (m : Int))) x) : x ∈ L.take m := by
  induction hr with
  | base hk => exact h.ahead m hm _ hk
  | step _ hk ih =>
    obtain ⟨j, hj, rfl⟩ := List.getElem_of_mem ih
    have hj' : j < m ∧ j < L.length := by rw [List.length_take] at hj; omega
    have e : (L.take m)[j] = rd L (j : Int) := by rw [List.getElem_take, rd_eq hj'.2]
    rw [e] at hk
    have := h.ahead j hj'.2 _ hk
    have e2 : L.take j = (L.take m).take j := by rw [List.take_take, Nat.min_eq_left (by omega)]
    rw [e2] at this
    exact List.mem_of_mem_take this
theorem Topo.acyclic {ns : List Node} {L : List Int} (h : Topo ns L) (hl : ∀ p : Nat, p < ns.length → (p : Int) ∈ L) (p : Nat) (hp : p < ns.length) : ¬ Cyc ns p := by
  intro hc
  obtain ⟨m, hm, e⟩ := List.getElem_of_mem (hl p hp)
  have e' : rd L (m : Int) = (p : Int) := by rw [rd_eq hm, e]
  have := h.reach hm (by rw [e']; exact hc)
  obtain ⟨j, hj, e2⟩ := List.getElem_of_mem this
  rw [List.length_take] at hj
  rw [List.getElem_take] at e2
  exact (List.pairwise_iff_getElem.1 h.nd) j m (by omega) hm (by omega) (e2.trans e.symm)
open Classical in
noncomputable def reachN (ns : List Node) (p : Int) : Nat := ((List.range ns.length).filter (fun x : Nat => decide (Rch ns (kids ns p) (x : Int)))).length
theorem filter_lt {p q : Nat → Bool} (x : Nat) : ∀ l : List Nat, (∀ y, p y = true → q y = true) → x ∈ l → p x = false → q x = true → (l.filter p).length < (l.filter q).length
  | [], _, h, _, _ => by simp at h
  | y :: r, hpq, h, hp, hq => by
    have hle : ∀ l : List Nat, (l.filter p).length ≤ (l.filter q).length := fun l => by
      induction l with
      | nil => exact Nat.le_refl _
      | cons a r ih =>
        rw [List.filter_cons, List.filter_cons]
        cases hpa : p a
        · cases q a <;> simp <;> omega
        · rw [hpq a hpa]; simp; exact ih
    by_cases e : y = x
    · subst e
      rw [List.filter_cons, List.filter_cons, hp, hq]
      simp
      have := hle r
      omega
    · have hx : x ∈ r := by
        rcases List.mem_cons.1 h with h | h
        · exact absurd h.symm e
        · exact h
      have ih := filter_lt x r hpq hx hp hq
      rw [List.filter_cons, List.filter_cons]
      cases hpa : p y
      · cases q y <;> simp <;> omega
      · rw [hpq y hpa]; simp; exact ih
theorem Rch.trans {ns : List Node} {l : List Int} {k x : Int} (hk : Rch ns l k) (h : Rch ns (kids ns k) x) : Rch ns l x := by
  induction h with
  | base h => exact .step hk h
  | step _ h ih => exact .step ih h
open Classical in
theorem Topo.cyclic {ns : List Node} {L : List Int} (hP : Places ns) (h : Topo ns L) (hc : ∀ p : Nat, p < ns.length → ¬ Cyc ns p) (p : Nat) (hp : p < ns.length) : (p : Int) ∈ L := by
  have key : ∀ N (p : Nat), reachN ns p < N → p < ns.length → ¬ (p : Int) ∈ L → False := fun N => by
    induction N with
    | zero => intro p h; omega
    | succ N ih =>
      intro p hN hp hnot
      have : ∃ k ∈ kids ns (p : Int), ¬ k ∈ L := by
        apply Classical.byContradiction
        intro hno
        exact hnot (h.all p hp (fun k hk => Classical.byContradiction fun hkl => hno ⟨k, hk, hkl⟩))
      obtain ⟨k, hk, hkl⟩ := this
      have hpl := hP p hp k (by rw [← kids_nat]; exact hk)
      obtain ⟨q, rfl⟩ : ∃ q : Nat, k = (q : Int) := ⟨k.toNat, by omega⟩
      refine ih q ?_ (by omega) hkl
      have : reachN ns q < reachN ns p := by
        unfold reachN
        refine filter_lt q _ (fun y hy => ?_) (List.mem_range.2 (by omega)) ?_ ?_
        · exact decide_eq_true (Rch.trans (.base hk) (of_decide_eq_true hy))
        · exact decide_eq_false (hc q (by omega))
        · exact decide_eq_true (.base hk)
      omega
  exact Classical.byContradiction fun hnot => key _ p (Nat.lt_succ_self _) hp hnot
open Classical in
noncomputable def firstP (p : Nat → Prop) : Nat → Nat → Int
  | 0, _ => -1
  | f + 1, i => if p i then (i : Int) else firstP p f (i + 1)
theorem firstP_at {p : Nat → Prop} : ∀ (f i k : Nat), k < f → (∀ j, j < k → ¬ p (i + j)) → p (i + k) → firstP p f i = ((i + k : Nat) : Int)
  | 0, _, _, h, _, _ => by omega
  | f + 1, i, 0, _, _, hp => by unfold firstP; rw [if_pos (by simpa using hp)]; rfl
  | f + 1, i, k + 1, h, hn, hp => by
    unfold firstP
    rw [if_neg (by simpa using hn 0 (by omega)), firstP_at f (i + 1) k (by omega) (fun j hj => by have := hn (j + 1) (by omega); rwa [show i + (j + 1) = i + 1 + j by omega] at this) (by rwa [show i + (k + 1) = i + 1 + k by omega] at hp)]
    congr 1
    omega
theorem firstP_no {p : Nat → Prop} : ∀ (f i : Nat), (∀ j, j < f → ¬ p (i + j)) → firstP p f i = -1
  | 0, _, _ => rfl
  | f + 1, i, hn => by
    unfold firstP
    rw [if_neg (by simpa using hn 0 (by omega))]
    exact firstP_no f (i + 1) (fun j hj => by have := hn (j + 1) (by omega); rwa [show i + (j + 1) = i + 1 + j by omega] at this)
noncomputable def cycAt (ns : List Node) : Int := firstP (fun i => Cyc ns (i : Int)) ns.length 0
noncomputable def looseAt (s : Scene) : Int := firstP (fun i => ¬ Rch s.nodes [s.root] (i : Int)) s.nodes.length 0
noncomputable def gcheck (s : Scene) : Int × Int :=
  if s.root < 0 ∨ (s.nodes.length : Int) ≤ s.root then (13, -1) else if 0 ≤ refsAt s.nodes then (13, refsAt s.nodes)
  else if 0 ≤ cycAt s.nodes then (14, cycAt s.nodes) else if 0 ≤ looseAt s then (15, looseAt s) else (0, 0)
structure Right (s : Scene) : Prop where
  r0 : 0 ≤ s.root
  r1 : s.root < s.nodes.length
  pl : Places s.nodes
  cyc : ∀ p : Nat, p < s.nodes.length → ¬ Cyc s.nodes p
  all : ∀ p : Nat, p < s.nodes.length → Rch s.nodes [s.root] (p : Int)
theorem refsAt_lt (l : List Node) : refsAt l = -1 ∨ 0 ≤ refsAt l := by
  unfold refsAt
  have : ∀ (N : Nat) (l : List Node) (i : Nat), refsFrom N l i = -1 ∨ 0 ≤ refsFrom N l i := fun N l => by
    induction l with
    | nil => intro i; exact .inl rfl
    | cons n r ih =>
      intro i
      unfold refsFrom
      split
      · exact .inr (by omega)
      · exact ih _
  exact this _ _ _
theorem firstP_neg {p : Nat → Prop} : ∀ (f i : Nat), firstP p f i < 0 → ∀ j, j < f → ¬ p (i + j)
  | 0, _, _, j, hj => by omega
  | f + 1, i, h, j, hj => by
    unfold firstP at h
    by_cases hp : p i
    · rw [if_pos hp] at h; omega
    · rw [if_neg hp] at h
      cases j with
      | zero => simpa using hp
      | succ j =>
        have := firstP_neg f (i + 1) h j (by omega)
        rwa [show i + (j + 1) = i + 1 + j by omega]
theorem Places.refs {ns : List Node} (h : Places ns) : refsAt ns = -1 := by
  unfold refsAt
  refine refsFrom_no ns 0 (fun j hj => ?_)
  refine decide_eq_false (fun ⟨q, hq, hb⟩ => ?_)
  have := h j hj _ (rd_mem hq)
  unfold noPlace at hb
  simp at hb
  omega
theorem gcheck_right {s : Scene} : (gcheck s).1 = 0 ↔ Right s := by
  unfold gcheck
  constructor
  · intro h
    by_cases h1 : s.root < 0 ∨ (s.nodes.length : Int) ≤ s.root
    · rw [if_pos h1] at h; simp at h
    · rw [if_neg h1] at h
      by_cases h2 : 0 ≤ refsAt s.nodes
      · rw [if_pos h2] at h; simp at h
      · rw [if_neg h2] at h
        by_cases h3 : 0 ≤ cycAt s.nodes
        · rw [if_pos h3] at h; simp at h
        · rw [if_neg h3] at h
          by_cases h4 : 0 ≤ looseAt s
          · rw [if_pos h4] at h; simp at h
          · refine ⟨by omega, by omega, Places.of_refs ((refsAt_lt _).resolve_right h2), fun p hp => ?_, fun p hp => ?_⟩
            · have := firstP_neg _ _ (show firstP (fun i => Cyc s.nodes (i : Int)) s.nodes.length 0 < 0 from by unfold cycAt at h3; omega) p hp
              simpa using this
            · have := firstP_neg _ _ (show firstP (fun i => ¬ Rch s.nodes [s.root] (i : Int)) s.nodes.length 0 < 0 from by unfold looseAt at h4; omega) p hp
              have := Classical.not_not.1 this
              simpa using this
  · intro h
    have h0 := h.r0
    have h1 := h.r1
    rw [if_neg (by omega), if_neg (by rw [h.pl.refs]; omega)]
    rw [if_neg (by unfold cycAt; rw [firstP_no _ _ (fun j hj => by simpa using h.cyc j hj)]; omega)]
    rw [if_neg (by unfold looseAt; rw [firstP_no _ _ (fun j hj => by simpa using h.all j hj)]; omega)]
theorem gcheck_zero {s : Scene} (h : Right s) : gcheck s = (0, 0) := by
  have h0 := h.r0
  have h1 := h.r1
  unfold gcheck
  rw [if_neg (by omega), if_neg (by rw [h.pl.refs]; omega)]
  rw [if_neg (by unfold cycAt; rw [firstP_no _ _ (fun j hj => by simpa using h.cyc j hj)]; omega)]
  rw [if_neg (by unfold looseAt; rw [firstP_no _ _ (fun j hj => by simpa using h.all j hj)]; omega)]
end Go.Proofs.YtggldnbhmebcpaaGreatDoor.L
end
section
namespace Go.Proofs.YtggldnbhmebcpaaGreatDoor.L
open Go.RowKit Go.ChangeShapes Go.WideShapes Go.Proofs.YtggldnbhmebcpaaGreatDoorW.PrintWords Go.Proofs.YtggldnbhmebcpaaGreatDoorW.PrintLast Go.Proofs.YtggldnbhmebcpaaGreatDoorW.PrintMore
attribute [local go_sem] max2_int min2_int max_two min_two max_three min_three max_four min_four
def meet (ns : List Node) : Nat → Int → List Int → List Int
  | 0, _, met => met
  | f + 1, a, met => if a ∈ met then met else (kids ns a).foldl (fun m k => meet ns f k m) met ++ [a]
structure Dag (ns : List Node) : Prop where
  pl : Places ns
  cyc : ∀ p : Nat, p < ns.length → ¬ Cyc ns p
theorem Right.dag {s : Scene} (h : Right s) : Dag s.nodes := ⟨h.pl, h.cyc⟩
def Pl (ns : List Node) (x : Int) : Prop := 0 ≤ x ∧ x < (ns.length : Int)
theorem Dag.kid {ns : List Node} (h : Dag ns) {p k : Int} (hp : Pl ns p) (hk : k ∈ kids ns p) : Pl ns k := h.pl p.toNat (by have := hp.1; have := hp.2; omega) k hk
open Classical in
theorem Dag.lower {ns : List Node} (h : Dag ns) {p k : Int} (hp : Pl ns p) (hk : k ∈ kids ns p) : reachN ns k < reachN ns p := by
  have hkp := h.kid hp hk
  obtain ⟨q, rfl⟩ : ∃ q : Nat, k = (q : Int) := ⟨k.toNat, by have := hkp.1; omega⟩
  unfold reachN
  refine filter_lt q _ (fun y hy => ?_) (List.mem_range.2 (by have := hkp.2; omega)) ?_ ?_
  · exact decide_eq_true (Rch.trans (.base hk) (of_decide_eq_true hy))
  · exact decide_eq_false (h.cyc q (by have := hkp.2; omega))
  · exact decide_eq_true (.base hk)
open Classical in
theorem reachN_le (ns : List Node) (p : Int) : reachN ns p ≤ ns.length := by
  unfold reachN
  exact Nat.le_trans (List.length_filter_le _ _) (by simp)
theorem foldl_congr {α β : Type} {f g : β → α → β} : ∀ (l : List α) (b : β), (∀ x ∈ l, ∀ b, f b x = g b x) → l.foldl f b = l.foldl g b
  | [], _, _ => rfl
  | x :: l, b, h => by rw [List.foldl_cons, List.foldl_cons, h x (by simp)]; exact foldl_congr l _ (fun y hy => h y (by simp [hy]))
theorem meet_fuel {ns : List Node} (h : Dag ns) : ∀ (f g : Nat) (a : Int) (met : List Int), Pl ns a → reachN ns a < f → reachN ns a < g → meet ns f a met = meet ns g a met
  | 0, _, _, _, _, hf, _ => by omega
  | f + 1, 0, _, _, _, _, hg => by omega
  | f + 1, g + 1, a, met, ha, hf, hg => by
    unfold meet
    split
    · rfl
    · congr 1
      exact foldl_congr _ _ (fun k hk b => meet_fuel h f g k b (h.kid ha hk) (by have := h.lower ha hk; omega) (by have := h.lower ha hk; omega))
def M (ns : List Node) (a : Int) (met : List Int) : List Int := meet ns (ns.length + 1) a met
def ML (ns : List Node) (l : List Int) (met : List Int) : List Int := l.foldl (fun m k => M ns k m) met
theorem M_eq {ns : List Node} (h : Dag ns) {a : Int} (ha : Pl ns a) (met : List Int) : M ns a met = if a ∈ met then met else ML ns (kids ns a) met ++ [a] := by
  unfold M
  conv => lhs; unfold meet
  split
  · rfl
  · congr 1
    refine foldl_congr _ _ (fun k hk b => meet_fuel h _ _ k b (h.kid ha hk) ?_ ?_)
    · have := h.lower ha hk; have := reachN_le ns a; omega
    · have := reachN_le ns k; omega
theorem M_in {ns : List Node} (h : Dag ns) {a : Int} (ha : Pl ns a) {met : List Int} (hm : a ∈ met) : M ns a met = met := by rw [M_eq h ha, if_pos hm]
theorem M_out {ns : List Node} (h : Dag ns) {a : Int} (ha : Pl ns a) {met : List Int} (hm : ¬ a ∈ met) : M ns a met = ML ns (kids ns a) met ++ [a] := by rw [M_eq h ha, if_neg hm]
theorem ML_cons (ns : List Node) (k : Int) (l met : List Int) : ML ns (k :: l) met = ML ns l (M ns k met) := rfl
theorem ML_nil (ns : List Node) (met : List Int) : ML ns [] met = met := rfl
structure Shut (ns : List Node) (m : List Int) : Prop where
  nd : m.Nodup
  pl : ∀ x ∈ m, Pl ns x
  kids : ∀ x ∈ m, ∀ k ∈ kids ns x, k ∈ m
theorem Shut.nil (ns : List Node) : Shut ns [] := ⟨List.nodup_nil, fun x hx => by simp at hx, fun x hx => by simp at hx⟩
structure Met (ns : List Node) (a : Int) (met out : List Int) : Prop where
  shut : Shut ns out
  ext : ∃ r, out = met ++ r ∧ ∀ x ∈ r, Rch ns [a] x
  here : a ∈ out
theorem Rch.sub {ns : List Node} {l l' : List Int} (h : ∀ k ∈ l, Rch ns l' k) {x : Int} (hr : Rch ns l x) : Rch ns l' x := by
  induction hr with
  | base hk => exact h _ hk
  | step _ hk ih => exact .step ih hk
theorem Rch.under {ns : List Node} {a : Int} {x : Int} (h : Rch ns (_root_.Go.Proofs.YtggldnbhmebcpaaGreatDoor.L.kids ns a) x) : Rch ns [a] x := h.sub (fun _ hk => .step (.base (by simp)) hk)
theorem M_met {ns : List Node} (h : Dag ns) : ∀ (N : Nat) (a : Int) (met : List Int), reachN ns a < N → Pl ns a → Shut ns met → (∀ x ∈ met, ¬ Rch ns (kids ns x) a ∨ a ∈ met) → Met ns a met (M ns a met)
  | 0, _, _, hN, _, _, _ => by omega
  | N + 1, a, met, hN, ha, hs, hx => by
    by_cases hm : a ∈ met
    · rw [M_in h ha hm]
      exact ⟨hs, ⟨[], by simp, fun x hx => by simp at hx⟩, hm⟩
    · rw [M_out h ha hm]
      -- the kids, one behind the other
      have key : ∀ (l met : List Int), (∀ k ∈ l, k ∈ kids ns a) → Shut ns met → ¬ a ∈ met → (Shut ns (ML ns l met) ∧ (∃ r, ML ns l met = met ++ r ∧ ∀ x ∈ r, Rch ns (kids ns a) x) ∧ ∀ k ∈ l, k ∈ ML ns l met) := by
        intro l
        induction l with
        | nil => intro met _ hs _; exact ⟨hs, ⟨[], by simp [ML_nil], fun x hx => by simp at hx⟩, fun k hk => by simp at hk⟩
        | cons k l ih =>
          intro met hl hs hna
          have hk := hl k (by simp)
          have m1 := M_met h N k met (by have := h.lower ha hk; omega) (h.kid ha hk) hs (fun x hx => by
            by_cases hr : Rch ns (kids ns x) k
            · right
              clear hna
              have : ∀ y, Rch ns (kids ns x) y → y ∈ met := fun y hy => by
                induction hy with
                | base hb => exact hs.kids x hx _ hb
                | step _ hb ih => exact hs.kids _ ih _ hb
              exact this k hr
            · exact .inl hr)
          obtain ⟨r1, e1, hr1⟩ := m1.ext
          have hka : ∀ x, Rch ns [k] x → Rch ns (kids ns a) x := fun x hx => hx.sub (fun y hy => by rw [List.mem_singleton.1 hy]; exact .base hk)
          have hna1 : ¬ a ∈ M ns k met := fun hin => by
            rw [e1] at hin
            rcases List.mem_append.1 hin with hin | hin
            · exact hna hin
            · obtain ⟨q, rfl⟩ : ∃ q : Nat, a = (q : Int) := ⟨a.toNat, by have := ha.1; omega⟩
              exact h.cyc q (by have := ha.2; omega) (hka _ (hr1 _ hin))
          obtain ⟨s2, ⟨r2, e2, hr2⟩, k2⟩ := ih (M ns k met) (fun y hy => hl y (by simp [hy])) m1.shut hna1
          rw [ML_cons]
          refine ⟨s2, ⟨r1 ++ r2, by rw [e2, e1, List.append_assoc], fun x hx => ?_⟩, fun y hy => ?_⟩
          · rcases List.mem_append.1 hx with hx | hx
            · exact hka x (hr1 x hx)
            · exact hr2 x hx
          · rcases List.mem_cons.1 hy with rfl | hy
            · rw [e2]; exact List.mem_append_left _ m1.here
            · exact k2 y hy
      obtain ⟨s2, ⟨r, e, hr⟩, k2⟩ := key (kids ns a) met (fun _ hk => hk) hs hm
      have hna : ¬ a ∈ ML ns (kids ns a) met := fun hin => by
        rw [e] at hin
        rcases List.mem_append.1 hin with hin | hin
        · exact hm hin
        · obtain ⟨q, rfl⟩ : ∃ q : Nat, a = (q : Int) := ⟨a.toNat, by have := ha.1; omega⟩
          exact h.cyc q (by have := ha.2; omega) (hr _ hin)
      refine ⟨⟨List.nodup_append.2 ⟨s2.nd, by simp, fun x hx y hy e => by rw [List.mem_singleton.1 hy] at e; exact hna (e ▸ hx)⟩, fun x hx => ?_, fun x hx k hk => ?_⟩, ⟨r ++ [a], by rw [e, List.append_assoc], fun x hx => ?_⟩, by simp⟩
      · rcases List.mem_append.1 hx with hx | hx
        · exact s2.pl x hx
        · rw [List.mem_singleton.1 hx]; exact ha
      · rcases List.mem_append.1 hx with hx | hx
        · exact List.mem_append_left _ (s2.kids x hx k hk)
        · rw [List.mem_singleton.1 hx] at hk; exact List.mem_append_left _ (k2 k hk)
      · rcases List.mem_append.1 hx with hx | hx
        · exact (hr x hx).under
        · exact .base hx
def ord (s : Scene) : List Int := M s.nodes s.root []
theorem ord_met {s : Scene} (h : Right s) : Met s.nodes s.root [] (ord s) := M_met h.dag _ _ _ (Nat.lt_succ_self _) ⟨h.r0, h.r1⟩ (Shut.nil _) (fun x hx => by simp at hx)
theorem ord_nodup {s : Scene} (h : Right s) : (ord s).Nodup := (ord_met h).shut.nd
theorem ord_pl {s : Scene} (h : Right s) : ∀ x ∈ ord s, Pl s.nodes x := (ord_met h).shut.pl
theorem ord_all {s : Scene} (h : Right s) (p : Nat) (hp : p < s.nodes.length) : (p : Int) ∈ ord s := by
  have hm := ord_met h
  have : ∀ y, Rch s.nodes [s.root] y → y ∈ ord s := fun y hy => by
    induction hy with
    | base hb => rw [List.mem_singleton.1 hb]; exact hm.here
    | step _ hb ih => exact hm.shut.kids _ ih _ hb
  exact this _ (h.all p hp)
end Go.Proofs.YtggldnbhmebcpaaGreatDoor.L
end
section
namespace Go.Proofs.YtggldnbhmebcpaaGreatDoor.L
open Go.RowKit Go.ChangeShapes Go.WideShapes Go.Proofs.YtggldnbhmebcpaaGreatDoorW.PrintWords Go.Proofs.YtggldnbhmebcpaaGreatDoorW.PrintLast Go.Proofs.YtggldnbhmebcpaaGreatDoorW.PrintMore
attribute [local go_sem] max2_int min2_int max_two min_two max_three min_three max_four min_four
def cont (ns : List Node) : List (Int × Nat) → List Int → List Int
  | [], out => out
  | x :: r, out => cont ns r (ML ns ((kids ns x.1).drop x.2) out ++ [x.1])
def stk (ns : List Node) (st : List (Int × Nat)) : Nat := (st.map (fun x => (kids ns x.1).length - x.2 + 1)).sum
theorem stk_snoc (ns : List Node) (st : List (Int × Nat)) (x : Int × Nat) : stk ns (st ++ [x]) = stk ns st + ((kids ns x.1).length - x.2 + 1) := by unfold stk; rw [List.map_append, List.sum_append]; simp
theorem stk_len (ns : List Node) (st : List (Int × Nat)) : st.length ≤ stk ns st := by
  induction st with
  | nil => exact Nat.zero_le _
  | cons x r ih =>
    have : stk ns (x :: r) = ((kids ns x.1).length - x.2 + 1) + stk ns r := by unfold stk; rw [List.map_cons, List.sum_cons]
    rw [this, List.length_cons]; omega
structure CInv (ns : List Node) (o : List Int) (m : Nat) (out : List Int) (st : List (Int × Nat)) (vs : List Int) (cnt : Nat) : Prop where
  eq : cont ns st.reverse out = o
  pl : ∀ x ∈ st, Pl ns x.1 ∧ x.2 ≤ (kids ns x.1).length
  iff : ∀ k, k ∈ vs ↔ k ∈ out ∨ ∃ j, (k, j) ∈ st
  ch : st.Pairwise (fun x y => Rch ns (kids ns x.1) y.1)
  mo : left ns vs + stk ns st + out.length ≤ m
  c : left ns vs + stk ns st + cnt ≤ m + 1
theorem CInv.start {s : Scene} (h : Dag s.nodes) (hr : Pl s.nodes s.root) : CInv s.nodes (ord s) (rows s.nodes) [] [(s.root, 0)] [s.root] 1 := by
  obtain ⟨q, e⟩ : ∃ q : Nat, s.root = (q : Int) := ⟨s.root.toNat, by have := hr.1; omega⟩
  have h1 := left_cons (ns := s.nodes) (vs := []) (x := q) (by have := hr.2; omega) (by simp)
  rw [left_nil, ← e, wt] at h1
  have h2 : stk s.nodes [(s.root, 0)] = (nd s.nodes q).kids.length + 1 := by
    unfold stk
    rw [List.map_cons, List.map_nil, List.sum_cons, List.sum_nil]
    have : kids s.nodes s.root = (nd s.nodes q).kids := by unfold kids; rw [e, Int.toNat_natCast]
    rw [this]; rfl
  refine ⟨?_, fun x hx => ?_, fun k => ?_, ?_, ?_, ?_⟩
  · show cont s.nodes [(s.root, 0)] [] = _
    unfold ord
    rw [M_out h hr (by simp)]
    rfl
  · rw [List.mem_singleton.1 hx]; exact ⟨hr, Nat.zero_le _⟩
  · constructor
    · intro hk; rw [List.mem_singleton.1 hk]; exact .inr ⟨0, by simp⟩
    · rintro (hk | ⟨j, hj⟩)
      · simp at hk
      · have := List.mem_singleton.1 hj
        injection this with h1 _
        rw [h1]; simp
  · exact List.pairwise_singleton _ _
  · rw [h2]; simp; omega
  · rw [h2]; omega
theorem CInv.pop {ns : List Node} {o out vs : List Int} {st : List (Int × Nat)} {a : Int} {j m cnt : Nat} (h : CInv ns o m out (st ++ [(a, j)]) vs cnt) (hj : j = (kids ns a).length) : CInv ns o m (out ++ [a]) st vs cnt := by
  subst hj
  have hs := stk_snoc ns st (a, (kids ns a).length)
  refine ⟨?_, fun x hx => h.pl x (by simp [hx]), fun k => ?_, (List.pairwise_append.1 h.ch).1, ?_, ?_⟩
  · have := h.eq
    rw [List.reverse_append] at this
    simp only [List.reverse_cons, List.reverse_nil, List.nil_append, List.cons_append] at this
    unfold cont at this
    simp only [List.drop_length, ML_nil] at this
    exact this
  · rw [h.iff k]
    constructor
    · rintro (hk | ⟨j, hj⟩)
      · exact .inl (by simp [hk])
      · rcases List.mem_append.1 hj with hj | hj
        · exact .inr ⟨j, hj⟩
        · have := List.mem_singleton.1 hj
          injection this with h1 _
          exact .inl (by rw [h1]; simp)
    · rintro (hk | ⟨j, hj⟩)
      · rcases List.mem_append.1 hk with hk | hk
        · exact .inl hk
        · rw [List.mem_singleton.1 hk]; exact .inr ⟨_, List.mem_append_right _ (List.mem_singleton.2 rfl)⟩
      · exact .inr ⟨j, by simp [hj]⟩
  · have := h.mo; rw [hs] at this; rw [List.length_append, List.length_singleton]; omega
  · have := h.c; rw [hs] at this; omega
theorem CInv.kid {ns : List Node} {o out vs : List Int} {st : List (Int × Nat)} {a : Int} {j m cnt : Nat} (hd : Dag ns) (h : CInv ns o m out (st ++ [(a, j)]) vs cnt) (hj : j < (kids ns a).length) : Pl ns (rd (kids ns a) (j : Int)) ∧ rd (kids ns a) (j : Int) ∈ kids ns a := by
  have h1 : rd (kids ns a) (j : Int) ∈ kids ns a := rd_mem hj
  exact ⟨hd.kid (h.pl _ (List.mem_append_right _ (List.mem_singleton.2 rfl))).1 h1, h1⟩
theorem drop_rd {l : List Int} {j : Nat} (hj : j < l.length) : l.drop j = rd l (j : Int) :: l.drop (j + 1) := by rw [List.drop_eq_getElem_cons hj, rd_eq hj]
theorem CInv.pass {ns : List Node} {o out vs : List Int} {st : List (Int × Nat)} {a : Int} {j m cnt : Nat} (hd : Dag ns) (h : CInv ns o m out (st ++ [(a, j)]) vs cnt) (hj : j < (kids ns a).length) (hk : rd (kids ns a) (j : Int) ∈ vs) :
    CInv ns o m out (st ++ [(a, j + 1)]) vs cnt ∧ left ns vs + stk ns (st ++ [(a, j + 1)]) < left ns vs + stk ns (st ++ [(a, j)]) := by
  obtain ⟨hp, hm⟩ := h.kid hd hj
  have s1 := stk_snoc ns st (a, j)
  have s2 := stk_snoc ns st (a, j + 1)
  simp only at s1 s2
  refine ⟨⟨?_, fun x hx => ?_, fun k => ?_, ?_, ?_, ?_⟩, by omega⟩
  · have := h.eq
    rw [List.reverse_append] at this ⊢
    simp only [List.reverse_cons, List.reverse_nil, List.nil_append, List.cons_append] at this ⊢
    unfold cont at this ⊢
    simp only at this ⊢
    rw [drop_rd hj, ML_cons, M_in hd hp] at this
    · exact this
    · rcases (h.iff _).1 hk with hk | ⟨i, hi⟩
      · exact hk
      · exfalso
        have hcyc : Rch ns (kids ns (rd (kids ns a) (j : Int))) (rd (kids ns a) (j : Int)) := by
          rcases List.mem_append.1 hi with hi | hi
          · exact .step ((List.pairwise_append.1 h.ch).2.2 _ hi (a, j) (by simp)) hm
          · have := List.mem_singleton.1 hi
            injection this with h1 _
            have hm' := hm
            rw [h1] at hm' ⊢
            exact .base hm'
        obtain ⟨q, e⟩ : ∃ q : Nat, rd (kids ns a) (j : Int) = (q : Int) := ⟨(rd (kids ns a) (j : Int)).toNat, by have := hp.1; omega⟩
        rw [e] at hcyc
        exact hd.cyc q (by have := hp.2; omega) hcyc
  · rcases List.mem_append.1 hx with hx | hx
    · exact h.pl x (by simp [hx])
    · rw [List.mem_singleton.1 hx]
      exact ⟨(h.pl (a, j) (by simp)).1, hj⟩
  · rw [h.iff k]
    constructor
    · rintro (hk | ⟨i, hi⟩)
      · exact .inl hk
      · rcases List.mem_append.1 hi with hi | hi
        · exact .inr ⟨i, by simp [hi]⟩
        · have := List.mem_singleton.1 hi
          injection this with h1 _
          exact .inr ⟨j + 1, by rw [h1]; simp⟩
    · rintro (hk | ⟨i, hi⟩)
      · exact .inl hk
      · rcases List.mem_append.1 hi with hi | hi
        · exact .inr ⟨i, by simp [hi]⟩
        · have := List.mem_singleton.1 hi
          injection this with h1 _
          exact .inr ⟨j, by rw [h1]; simp⟩
  · have hc := List.pairwise_append.1 h.ch
    refine List.pairwise_append.2 ⟨hc.1, List.pairwise_singleton _ _, fun x hx y hy => ?_⟩
    rw [List.mem_singleton.1 hy]
    exact hc.2.2 x hx (a, j) (by simp)
  · have := h.mo; omega
  · have := h.c; omega
theorem CInv.push {ns : List Node} {o out vs : List Int} {st : List (Int × Nat)} {a : Int} {j m cnt : Nat} (hd : Dag ns) (h : CInv ns o m out (st ++ [(a, j)]) vs cnt) (hj : j < (kids ns a).length) (hk : ¬ rd (kids ns a) (j : Int) ∈ vs) :
    CInv ns o m out (st ++ [(a, j + 1)] ++ [(rd (kids ns a) (j : Int), 0)]) (rd (kids ns a) (j : Int) :: vs) (cnt + 1) ∧ left ns (rd (kids ns a) (j : Int) :: vs) + stk ns (st ++ [(a, j + 1)] ++ [(rd (kids ns a) (j : Int), 0)]) < left ns vs + stk ns (st ++ [(a, j)]) := by
  obtain ⟨hp, hm⟩ := h.kid hd hj
  have s1 := stk_snoc ns st (a, j)
  have s2 := stk_snoc ns st (a, j + 1)
  have s3 := stk_snoc ns (st ++ [(a, j + 1)]) (rd (kids ns a) (j : Int), 0)
  have hl : left ns (rd (kids ns a) (j : Int) :: vs) + ((kids ns (rd (kids ns a) (j : Int))).length + 1) = left ns vs := by
    obtain ⟨q, e⟩ : ∃ q : Nat, rd (kids ns a) (j : Int) = (q : Int) := ⟨(rd (kids ns a) (j : Int)).toNat, by have := hp.1; omega⟩
    rw [e] at hk hp ⊢
    have h1 := left_cons (ns := ns) (vs := vs) (x := q) (by have := hp.2; omega) hk
    rw [wt] at h1
    have : kids ns (q : Int) = (nd ns q).kids := by unfold kids; rw [Int.toNat_natCast]
    rw [this]; exact h1
  simp only at s1 s2 s3
  have hnout : ¬ rd (kids ns a) (j : Int) ∈ out := fun hin => hk ((h.iff _).2 (.inl hin))
  refine ⟨⟨?_, fun x hx => ?_, fun k => ?_, ?_, ?_, ?_⟩, by omega⟩
  · have := h.eq
    rw [List.reverse_append] at this
    rw [List.reverse_append, List.reverse_append]
    simp only [List.reverse_cons, List.reverse_nil, List.nil_append, List.cons_append] at this ⊢
    unfold cont at this
    simp only at this
    rw [drop_rd hj, ML_cons, M_out hd hp hnout] at this
    unfold cont
    unfold cont
    simp only [List.drop_zero]
    exact this
  · rcases List.mem_append.1 hx with hx | hx
    · rcases List.mem_append.1 hx with hx | hx
      · exact h.pl x (by simp [hx])
      · rw [List.mem_singleton.1 hx]
        exact ⟨(h.pl (a, j) (by simp)).1, hj⟩
    · rw [List.mem_singleton.1 hx]
      exact ⟨hp, Nat.zero_le _⟩
  · rw [List.mem_cons, h.iff k]
    constructor
    · rintro (rfl | hk | ⟨i, hi⟩)
      · exact .inr ⟨0, by simp⟩
      · exact .inl hk
      · rcases List.mem_append.1 hi with hi | hi
        · exact .inr ⟨i, by simp [hi]⟩
        · have := List.mem_singleton.1 hi
          injection this with h1 _
          exact .inr ⟨j + 1, by rw [h1]; simp⟩
    · rintro (hk | ⟨i, hi⟩)
      · exact .inr (.inl hk)
      · rcases List.mem_append.1 hi with hi | hi
        · rcases List.mem_append.1 hi with hi | hi
          · exact .inr (.inr ⟨i, by simp [hi]⟩)
          · have := List.mem_singleton.1 hi
            injection this with h1 _
            exact .inr (.inr ⟨j, by rw [h1]; simp⟩)
        · have := List.mem_singleton.1 hi
          injection this with h1 _
          exact .inl h1
  · have hc := List.pairwise_append.1 h.ch
    refine List.pairwise_append.2 ⟨List.pairwise_append.2 ⟨hc.1, List.pairwise_singleton _ _, fun x hx y hy => ?_⟩, List.pairwise_singleton _ _, fun x hx y hy => ?_⟩
    · rw [List.mem_singleton.1 hy]
      exact hc.2.2 x hx (a, j) (by simp)
    · rw [List.mem_singleton.1 hy]
      rcases List.mem_append.1 hx with hx | hx
      · exact .step (hc.2.2 x hx (a, j) (by simp)) hm
      · rw [List.mem_singleton.1 hx]; exact .base hm
  · have := h.mo; omega
  · have := h.c; omega
end Go.Proofs.YtggldnbhmebcpaaGreatDoor.L
end
section
namespace Go.Proofs.YtggldnbhmebcpaaGreatDoor.L
open Go.RowKit Go.ChangeShapes Go.WideShapes Go.Proofs.YtggldnbhmebcpaaGreatDoorW.PrintWords Go.Proofs.YtggldnbhmebcpaaGreatDoorW.PrintLast Go.Proofs.YtggldnbhmebcpaaGreatDoorW.PrintMore
attribute [local go_sem] max2_int min2_int max_two min_two max_three min_three max_four min_four
def RowPost {α : Type} (d : Kd α) (t : Nat) (l : List α) (w : World) (e : Ending) (w' : World) : Prop := ∃ A c, e = .returned (.slice A l.length c) ∧ d.R t w' w.heap.size (fun _ => True) (.slice A l.length c) l ∧ Below w.heap.size w w'
theorem RowPost.mk {α : Type} {d : Kd α} {t : Nat} {l : List α} {w w' : World} {v : Value} (h : d.R t w' w.heap.size (fun _ => True) v l) (hb : Below w.heap.size w w') : RowPost d t l w (.returned v) w' := by
  obtain ⟨A, c, rfl⟩ := Kd.R_slice h
  exact ⟨A, c, rfl, h, hb⟩
theorem info_i64 : (Tryz.prog.info? 2).map (fun i => (i.zero, i.size, i.bytes)) = some (some (.int .i64 0), 1, 8) := by kernel_rfl
theorem info_int : (Tryz.prog.info? 3).map (fun i => (i.zero, i.size, i.bytes)) = some (some (.int .i64 0), 1, 8) := by kernel_rfl
theorem info_str : (Tryz.prog.info? 9).map (fun i => (i.zero, i.size, i.bytes)) = some (some (.string ByteArray.empty), 1, 16) := by kernel_rfl
set_option maxHeartbeats 1000000 in
theorem clone_i64 (A : Option Addr) (c : Nat) (l : List Int) (w : World) (h : (Kd.int .i64).C w A l.length l) (hl : l.length ≤ 8000000000000) :
    Calls Tryz.prog 59 #[.slice A l.length c] w (RowPost (Kd.int .i64) 2 l w) := by
  have HR := Aside0.mk h
  have HB := Aside0.mk (Below.refl w.heap.size w)
  clear h
  have hn := fun (w : World) (a : Option Addr) (n c : Nat) => Lib.run_eql_slice_nil (P := Tryz.prog) w 38 2 a n c 0 0 Tryz.underlying38
  cases A with
  | none =>
    have HE : Aside0 (l = []) := ⟨by
      rcases Nat.eq_zero_or_pos l.length with h0 | h0
      · exact List.eq_nil_of_length_eq_zero h0
      · obtain ⟨ad, h, _⟩ := HR.out.2.2 h0; cases h⟩
    go_enter Tryz.func59, Tryz.ntmps59
    go_wp2
    go_ret
    exact RowPost.mk (by rw [HE.out]; exact Kd.R_nil _ _ _ _ _) HB.out
  | some ad =>
    go_enter Tryz.func59, Tryz.ntmps59
    go_wp2_with (at_builtin; refine Kd.R_append_rows (Kd.int .i64) (Rr := fun x cs => cs = [.int .i64 x]) (w0 := w) w.heap.size rfl (.tmp 5) (.tmp 6) 38 2 (.int .i64 0) 8 rfl Tryz.underlying38 info_i64 rfl (by decide) (by omega) (.slice (some ⟨w.heap.size, 0, none⟩) 0 0) [] l _ _ _ (fun _ => True) (fun _ => False) rfl rfl (R_empty _ _ _ _ (Nat.le_refl _)) (Kd.C_alloc HR.out _) (fun _ _ h => h) (fun _ h => h.elim) (fun _ _ => trivial) (below_alloc HB.out _) (below_alloc HB.out _).size (by simp; omega) ?_; intro v2 w2 hR2 hB2 _ _; have HR2 := Aside0.mk hR2; have HB2 := Aside0.mk hB2; clear hR2 hB2)
    go_ret
    exact RowPost.mk (by have := HR2.out; rwa [List.nil_append] at this) HB2.out
set_option maxHeartbeats 1000000 in
theorem clone_int (A : Option Addr) (c : Nat) (l : List Int) (w : World) (h : (Kd.int .i64).C w A l.length l) (hl : l.length ≤ 8000000000000) :
    Calls Tryz.prog 61 #[.slice A l.length c] w (RowPost (Kd.int .i64) 3 l w) := by
  have HR := Aside0.mk h
  have HB := Aside0.mk (Below.refl w.heap.size w)
  clear h
  have hn := fun (w : World) (a : Option Addr) (n c : Nat) => Lib.run_eql_slice_nil (P := Tryz.prog) w 40 3 a n c 0 0 Tryz.underlying40
  cases A with
  | none =>
    have HE : Aside0 (l = []) := ⟨by
      rcases Nat.eq_zero_or_pos l.length with h0 | h0
      · exact List.eq_nil_of_length_eq_zero h0
      · obtain ⟨ad, h, _⟩ := HR.out.2.2 h0; cases h⟩
    go_enter Tryz.func61, Tryz.ntmps61
    go_wp2
    go_ret
    exact RowPost.mk (by rw [HE.out]; exact Kd.R_nil _ _ _ _ _) HB.out
  | some ad =>
    go_enter Tryz.func61, Tryz.ntmps61
    go_wp2_with (at_builtin; refine Kd.R_append_rows (Kd.int .i64) (Rr := fun x cs => cs = [.int .i64 x]) (w0 := w) w.heap.size rfl (.tmp 5) (.tmp 6) 40 3 (.int .i64 0) 8 rfl Tryz.underlying40 info_int rfl (by decide) (by omega) (.slice (some ⟨w.heap.size, 0, none⟩) 0 0) [] l _ _ _ (fun _ => True) (fun _ => False) rfl rfl (R_empty _ _ _ _ (Nat.le_refl _)) (Kd.C_alloc HR.out _) (fun _ _ h => h) (fun _ h => h.elim) (fun _ _ => trivial) (below_alloc HB.out _) (below_alloc HB.out _).size (by simp; omega) ?_; intro v2 w2 hR2 hB2 _ _; have HR2 := Aside0.mk hR2; have HB2 := Aside0.mk hB2; clear hR2 hB2)
    go_ret
    exact RowPost.mk (by have := HR2.out; rwa [List.nil_append] at this) HB2.out
set_option maxHeartbeats 1000000 in
theorem clone_str (A : Option Addr) (c : Nat) (l : List ByteArray) (w : World) (h : Kd.string.C w A l.length l) (hl : l.length ≤ 8000000000000) :
    Calls Tryz.prog 60 #[.slice A l.length c] w (RowPost Kd.string 9 l w) := by
  have HR := Aside0.mk h
  have HB := Aside0.mk (Below.refl w.heap.size w)
  clear h
  have hn := fun (w : World) (a : Option Addr) (n c : Nat) => Lib.run_eql_slice_nil (P := Tryz.prog) w 39 9 a n c 0 0 Tryz.underlying39
  cases A with
  | none =>
    have HE : Aside0 (l = []) := ⟨by
      rcases Nat.eq_zero_or_pos l.length with h0 | h0
      · exact List.eq_nil_of_length_eq_zero h0
      · obtain ⟨ad, h, _⟩ := HR.out.2.2 h0; cases h⟩
    go_enter Tryz.func60, Tryz.ntmps60
    go_wp2
    go_ret
    exact RowPost.mk (by rw [HE.out]; exact Kd.R_nil _ _ _ _ _) HB.out
  | some ad =>
    go_enter Tryz.func60, Tryz.ntmps60
    go_wp2_with (at_builtin; refine Kd.R_append_rows Kd.string (Rr := fun x cs => cs = [.string x]) (w0 := w) w.heap.size rfl (.tmp 5) (.tmp 6) 39 9 (.string ByteArray.empty) 16 rfl Tryz.underlying39 info_str rfl (by decide) (by omega) (.slice (some ⟨w.heap.size, 0, none⟩) 0 0) [] l _ _ _ (fun _ => True) (fun _ => False) rfl rfl (R_empty _ _ _ _ (Nat.le_refl _)) (Kd.C_alloc HR.out _) (fun _ _ h => h) (fun _ h => h.elim) (fun _ _ => trivial) (below_alloc HB.out _) (below_alloc HB.out _).size (by simp; omega) ?_; intro v2 w2 hR2 hB2 _ _; have HR2 := Aside0.mk hR2; have HB2 := Aside0.mk hB2; clear hR2 hB2)
    go_ret
    exact RowPost.mk (by have := HR2.out; rwa [List.nil_append] at this) HB2.out
end Go.Proofs.YtggldnbhmebcpaaGreatDoor.L
end
section
namespace Go.Proofs.YtggldnbhmebcpaaGreatDoor.L
open Go.RowKit Go.ChangeShapes Go.WideShapes Go.Proofs.YtggldnbhmebcpaaGreatDoorW.PrintWords Go.Proofs.YtggldnbhmebcpaaGreatDoorW.PrintLast Go.Proofs.YtggldnbhmebcpaaGreatDoorW.PrintMore
attribute [local go_sem] max2_int min2_int max_two min_two max_three min_three max_four min_four
theorem keyI : Maps.Keyed Tryz.prog 3 := Maps.int_keyed Tryz.underlying3
theorem keyI_of {x : Int} (h0 : -9223372036854775808 ≤ x) (h1 : x ≤ 9223372036854775807) : keyOf Tryz.prog 3 (.int .i64 x) = some (.int .i64 x) := Maps.keyOf_int_mk Tryz.underlying3 (WalkArith.wf_i64 ⟨h0, h1⟩)
open Classical in
noncomputable def visF (vs : List Int) : Lit → Option Value := fun q => if ∃ k ∈ vs, q = .int .i64 k then some (.bool true) else none
theorem visF_nil : visF [] = fun _ => none := by
  funext q
  unfold visF
  rw [if_neg (fun ⟨k, hk, _⟩ => by simp at hk)]
theorem visF_put (vs : List Int) (x : Int) : putF (visF vs) (.int .i64 x) (.bool true) = visF (x :: vs) := by
  funext q
  unfold putF visF
  by_cases hq : q = .int .i64 x
  · rw [if_pos hq, if_pos ⟨x, by simp, hq⟩]
  · rw [if_neg hq]
    by_cases h : ∃ k ∈ vs, q = .int .i64 k
    · obtain ⟨k, hk, e⟩ := h
      rw [if_pos ⟨k, hk, e⟩, if_pos ⟨k, by simp [hk], e⟩]
    · rw [if_neg h, if_neg (fun ⟨k, hk, e⟩ => by
        rcases List.mem_cons.1 hk with rfl | hk
        · exact hq e
        · exact h ⟨k, hk, e⟩)]
theorem visF_in {vs : List Int} {x : Int} (h : x ∈ vs) : (visF vs (.int .i64 x)).getD (.bool false) = .bool true := by unfold visF; rw [if_pos ⟨x, h, rfl⟩]; rfl
theorem visF_out {vs : List Int} {x : Int} (h : ¬ x ∈ vs) : (visF vs (.int .i64 x)).getD (.bool false) = .bool false := by
  unfold visF
  rw [if_neg (fun ⟨k, hk, e⟩ => h (by injection e with _ e; rw [e]; exact hk))]; rfl
def ReachPost (ns : List Node) (l : List Int) (B : Nat) (w0 : World) (e : Ending) (w' : World) : Prop :=
  ∃ b vs n, e = .returned (.map (some b)) ∧ MapF Tryz.prog 3 w' b n (visF vs) ∧ B ≤ b ∧ (∀ k, k ∈ vs ↔ Rch ns l k) ∧ Below B w0 w'
structure ReachInv (ns : List Node) (l fl vs : List Int) (cnt M : Nat) : Prop where
  f : ∀ k ∈ fl, Rch ns l k ∧ 0 ≤ k ∧ k < (ns.length : Int)
  v : ∀ k ∈ vs, Rch ns l k
  l : ∀ k ∈ l, k ∈ fl ∨ k ∈ vs
  k : ∀ i ∈ vs, ∀ k ∈ kids ns i, k ∈ fl ∨ k ∈ vs
  m : left ns vs + fl.length + cnt ≤ M
theorem ReachInv.start {ns : List Node} {l : List Int} (hl : ∀ k ∈ l, 0 ≤ k ∧ k < (ns.length : Int)) : ReachInv ns l l [] 0 (rows ns + l.length) :=
  ⟨fun k hk => ⟨.base hk, hl k hk⟩, fun k hk => by simp at hk, fun k hk => .inl hk, fun i hi => by simp at hi, by rw [left_nil]; omega⟩
theorem ReachInv.pop {ns : List Node} {l fl vs : List Int} {x : Int} {cnt M : Nat} (h : ReachInv ns l (fl ++ [x]) vs cnt M) (hx : x ∈ vs) : ReachInv ns l fl vs cnt M where
  f := fun k hk => h.f k (by simp [hk])
  v := h.v
  l := fun k hk => by
    rcases h.l k hk with h' | h'
    · rcases List.mem_append.1 h' with h' | h'
      · exact .inl h'
      · exact .inr (by rw [List.mem_singleton.1 h']; exact hx)
    · exact .inr h'
  k := fun i hi k hk => by
    rcases h.k i hi k hk with h' | h'
    · rcases List.mem_append.1 h' with h' | h'
      · exact .inl h'
      · exact .inr (by rw [List.mem_singleton.1 h']; exact hx)
    · exact .inr h'
  m := by have := h.m; simp at this; omega
theorem ReachInv.visit {ns : List Node} {l fl vs : List Int} {x : Nat} {cnt M : Nat} (hp : Places ns) (h : ReachInv ns l (fl ++ [(x : Int)]) vs cnt M) (hx : ¬ (x : Int) ∈ vs) : ReachInv ns l (fl ++ kids ns x) ((x : Int) :: vs) (cnt + 1) M := by
  have h0 := h.f x (by simp)
  have hxl : x < ns.length := by omega
  have e : kids ns x = (nd ns x).kids := by unfold kids; rw [Int.toNat_natCast]
  refine ⟨fun k hk => ?_, fun k hk => ?_, fun k hk => ?_, fun i hi k hk => ?_, ?_⟩
  · rcases List.mem_append.1 hk with hk | hk
    · exact h.f k (by simp [hk])
    · exact ⟨.step h0.1 hk, hp x hxl k (by rw [← e]; exact hk)⟩
  · rcases List.mem_cons.1 hk with rfl | hk
    · exact h0.1
    · exact h.v k hk
  · rcases h.l k hk with h' | h'
    · rcases List.mem_append.1 h' with h' | h'
      · exact .inl (by simp [h'])
      · exact .inr (by rw [List.mem_singleton.1 h']; simp)
    · exact .inr (by simp [h'])
  · rcases List.mem_cons.1 hi with rfl | hi
    · exact .inl (by simp [hk])
    · rcases h.k i hi k hk with h' | h'
      · rcases List.mem_append.1 h' with h' | h'
        · exact .inl (by simp [h'])
        · exact .inr (by rw [List.mem_singleton.1 h']; simp)
      · exact .inr (by simp [h'])
  · have h1 := left_cons hxl hx
    have h2 := h.m
    rw [wt] at h1
    rw [e]
    simp at h2 ⊢
    omega
theorem ReachInv.done {ns : List Node} {l vs : List Int} {cnt M : Nat} (h : ReachInv ns l [] vs cnt M) (k : Int) : k ∈ vs ↔ Rch ns l k := by
  refine ⟨h.v k, fun hr => ?_⟩
  induction hr with
  | base hk => exact (h.l _ hk).resolve_left (by simp)
  | step _ hk ih => exact (h.k _ ih _ hk).resolve_left (by simp)
theorem zeroB (w : World) : (zeroValue 4).run Tryz.prog w = .ok (.bool false) w := by kernel_rfl
structure ReachRel (ns : List Node) (l : List Int) (A : Option Addr) (c : Nat) (root : Int) (w0 : World) (bx : Nat) (v : Value) (fl vs : List Int) (b cnt M : Nat) (W : World) : Prop where
  inv : ReachInv ns l fl vs cnt M
  row : (Kd.int .i64).R 3 W w0.heap.size (fun _ => True) v fl
  map : MapF Tryz.prog 3 W b cnt (visF vs)
  mb : w0.heap.size ≤ b
  box : W.heap[bx]? = some (.cells #[.slice A ns.length c, .int .i64 root] 24 (0, 0))
  below : Below w0.heap.size w0 W
set_option maxRecDepth 100000 in
set_option maxHeartbeats 4000000 in
theorem reach_any (A : Option Addr) (c : Nat) (s : Scene) (l : List Int) (v : Value) (w0 w : World) (h : kNode.C w0 A s.nodes.length s.nodes) (hp : Places s.nodes) (hl : ∀ k ∈ l, 0 ≤ k ∧ k < (s.nodes.length : Int))
    (hR : (Kd.int .i64).R 3 w w0.heap.size (fun _ => True) v l) (hB : Below w0.heap.size w0 w) (hM : rows s.nodes + l.length ≤ 1000000) :
    Calls Tryz.prog 80 #[.agg #[.slice A s.nodes.length c, .int .i64 s.root], v] w (ReachPost s.nodes l w0.heap.size w0) := by
  have HR := Aside0.mk h
  have HP := Aside0.mk hp
  have HM := Aside0.mk hM
  have b0 := h.2.1
  have HI := Aside0.mk (show ReachRel s.nodes l A c s.root w0 w.heap.size v l [] (w.heap.size + 1) 0 (rows s.nodes + l.length) ((w.alloc (.cells #[.slice A s.nodes.length c, .int .i64 s.root] 24)).alloc (.map #[] 0)) from
    ⟨ReachInv.start hl, Kd.R_alloc (Kd.R_alloc hR _) _, by rw [visF_nil]; simpa using MapF.made Tryz.prog 3 (w.alloc (.cells #[.slice A s.nodes.length c, .int .i64 s.root] 24)), Nat.le_succ_of_le hB.size, by
      have : (w.alloc (.cells #[.slice A s.nodes.length c, .int .i64 s.root] 24)).heap[w.heap.size]? = some (.cells #[.slice A s.nodes.length c, .int .i64 s.root] 24 (0, 0)) := by simpa using heap_alloc_new w _
      exact (Below.block (below_alloc (Below.refl _ _) _) _ (by simp)).trans this, below_alloc (below_alloc hB _) _⟩)
  have hmm := @run_makeMap Tryz.prog
  clear h hp hl hB hM
  go_enter Tryz.func80, Tryz.ntmps80
  go_wp2
  go_loopg [1] (left s.nodes [] + l.length) (fun g v1 W => ∃ fl vs cnt, g = left s.nodes vs + fl.length ∧ Aside0 (ReachRel s.nodes l A c s.root w0 w.heap.size v1 fl vs (w.heap.size + 1) cnt (rows s.nodes + l.length) W))
  case atStart => exact ⟨_, _, _, rfl, HI⟩
  case round =>
    obtain ⟨fl, vs, cnt, hg, HL⟩ := hrel
    obtain ⟨Af, cf, rfl⟩ := Kd.R_slice HL.out.row
    rcases snoc_cases fl with rfl | ⟨fl, x, rfl⟩
    · have HD := Aside0.mk (ReachInv.done HL.out.inv)
      clear hg
      go_wp2
      go_ret
      exact ⟨_, _, _, rfl, HL.out.map, HL.out.mb, HD.out, HL.out.below⟩
    · have HX := Aside0.mk (HL.out.inv.f x (by simp))
      obtain ⟨x, rfl⟩ : ∃ j : Nat, x = (j : Int) := ⟨x.toNat, by have := HX.out.2.1; omega⟩
      have hx1 : x < s.nodes.length := by have := HX.out.2.2; omega
      have hrd := Kd.R_reads' HL.out.row
      obtain ⟨ad, rfl, hx0⟩ := at_nat hrd.2.2 fl.length (by simp)
      have hcf : fl.length + 1 ≤ cf := by have := hrd.2.1; simpa using this
      have HRow := Aside0.mk (show (Kd.int .i64).R 3 wr w0.heap.size (fun _ => True) (.slice (some ad) fl.length cf) fl from by have := Kd.R_take HL.out.row (m := fl.length) (by simp); simpa using this)
      have hfl : fl.length + 1 ≤ 1000000 := by have h1 := HL.out.inv.m; have h2 := HM.out; rw [List.length_append, List.length_singleton] at h1; omega
      replace hx0 : wr.cell? (ad.add fl.length) = some (.int .i64 x) := by rw [hx0]; simp [rd]
      have e1 : (fl ++ [(x : Int)]).length = fl.length + 1 := by simp
      rw [e1]
      clear hrd e1
      have HK := Aside0.mk (keyI_of (x := (x : Int)) (by omega) (by omega))
      by_cases hv : (x : Int) ∈ vs
      · have HV := Aside0.mk (visF_in hv)
        have HN := Aside0.mk (HL.out.inv.pop hv)
        clear hv
        go_wp2_with (at_lookup; refine wpList_lookup_F _ rfl (.tmp 22) (.tmp 23) 45 rfl 3 4 keyI Tryz.underlying45 (zeroB _) (w.heap.size + 1) cnt (visF vs) rfl HL.out.map (.int .i64 x) (.int .i64 x) rfl HK.out (.bool true) HV.out ?_)
        go_roundg (left s.nodes vs + fl.length)
        case measure => rw [hg]; simp
        case rel => exact ⟨fl, vs, cnt, rfl, ⟨HN.out, HRow.out, HL.out.map, HL.out.mb, HL.out.box, HL.out.below⟩⟩
      · have HV := Aside0.mk (visF_out hv)
        have HN := Aside0.mk (HL.out.inv.visit HP.out hv)
        have HG := Aside0.mk (show left s.nodes ((x : Int) :: vs) + (fl ++ kids s.nodes x).length < gk from by
          have h1 := left_cons hx1 hv
          rw [hg, List.length_append, List.length_append, List.length_singleton, ← h1, wt]
          have : kids s.nodes x = (nd s.nodes x).kids := by unfold kids; rw [Int.toNat_natCast]
          rw [this]
          omega)
        clear hv hg
        obtain ⟨adn, A1, c1, A2, c2, A3, c3, rfl, x0, x1, x2, x3, hN⟩ := at_node HR.out x hx1
        have HX3 := Aside0.mk x3
        have HNd := Aside0.mk hN
        have HKL := Aside0.mk (show (nd s.nodes x).kids.length ≤ 1000000 from by have := HM.out; have h1 := left_cons (vs := []) hx1 (by simp); rw [left_nil, wt] at h1; omega)
        clear x0 x1 x2 x3 hN
        go_wp2_with (first
          | (at_lookup; refine wpList_lookup_F _ rfl (.tmp 22) (.tmp 23) 45 rfl 3 4 keyI Tryz.underlying45 (zeroB _) (w.heap.size + 1) cnt (visF vs) rfl HL.out.map (.int .i64 x) (.int .i64 x) rfl HK.out (.bool false) HV.out ?_)
          | (at_mapUpdate; refine wpList_update_F _ rfl (.tmp 25) (.tmp 26) _ 45 rfl 3 4 keyI Tryz.underlying45 (w.heap.size + 1) cnt (visF vs) rfl HL.out.map (by have := HL.out.inv.m; have := HM.out; unfold maxLen; omega) (.int .i64 x) (.bool true) (.int .i64 x) rfl rfl HK.out ?_; intro w2 hM2 hg2; have HM2 := Aside0.mk hM2; have HG2 := Aside0.mk hg2; have HBx2 := Aside0.mk (blk_grown HL.out.box hg2 (by simp)); have hc2 := (blk_cell HBx2.out 0).trans rfl; have HB2 := Aside0.mk (below_map HL.out.below HL.out.below.size hg2 HL.out.mb); have hx3 := pw_cell_below HB2.out HX3.out; have HRow2 := Aside0.mk (R_past_map HRow.out HL.out.map hg2); clear hM2 hg2)
          | (at_builtin; refine Kd.R_append_rows (Kd.int .i64) (Rr := fun x cs => cs = [.int .i64 x]) (w0 := w0) w0.heap.size rfl (.tmp 27) (.tmp 33) 40 3 (.int .i64 0) 8 rfl Tryz.underlying40 info_int rfl (by decide) (by omega) (.slice (some ad) fl.length cf) fl (nd s.nodes x).kids A3 _ c3 (fun _ => True) (fun _ => False) rfl rfl HRow2.out (Kd.C_below HNd.out.k HB2.out) (fun _ _ h => h) (fun _ h => h.elim) (fun _ _ => trivial) HB2.out HB2.out.size (by have := HKL.out; omega) ?_; intro v3 w3 hR3 hB3 hg3 _; have HR3 := Aside0.mk hR3; have HB3 := Aside0.mk hB3; have HM3 := Aside0.mk (HM2.out.kept hg3 (HM2.out.ne_row HRow2.out)); have HBx3 := Aside0.mk (blk_grown HBx2.out hg3 (Kd.R_ne HRow2.out HBx2.out (by decide))); clear hR3 hB3 hg3 HRow2))
        go_roundg (left s.nodes ((x : Int) :: vs) + (fl ++ kids s.nodes x).length)
        case measure => exact HG.out
        case rel => exact ⟨_, _, _, rfl, ⟨HN.out, by have e : kids s.nodes x = (nd s.nodes x).kids := (by unfold kids; rw [Int.toNat_natCast]); rw [e]; exact HR3.out, by rw [← visF_put]; exact HM3.out, HL.out.mb, HBx3.out, HB3.out⟩⟩
end Go.Proofs.YtggldnbhmebcpaaGreatDoor.L
end
section
namespace Go.Proofs.YtggldnbhmebcpaaGreatDoor.L
open Go.RowKit Go.ChangeShapes Go.WideShapes Go.Proofs.YtggldnbhmebcpaaGreatDoorW.PrintWords Go.Proofs.YtggldnbhmebcpaaGreatDoorW.PrintLast Go.Proofs.YtggldnbhmebcpaaGreatDoorW.PrintMore
attribute [local go_sem] max2_int min2_int max_two min_two max_three min_three max_four min_four
section
open Go.Maps
variable {P : Program} (w : World) {ops : Array Oper} {rest : List Oper} {o : Oper} {a : Act} {Q : Exit → Act → World → Prop} {k : TypeId}
theorem wpList_insert_F (hg : o.guard = none) (m x v : Operand) (t : TypeId) (hop : o.op = Op.insert t m x v)
    (k e : TypeId) (K : Keyed P k) (ht : P.underlying t = some (.map k e)) (b n : Nat) (f : Lit → Option Value)
    (hm : a.eval m = .map (some b)) (hown : MapF P k w b n f) (hn : n < maxLen) (key val : Value) (kl : Lit) (hx : a.eval x = key) (hv : a.eval v = val) (hkey : keyOf P k key = some kl)
    (hK : ∀ w', MapF P k w' b (n + 1) (putF f kl val) → w.grownBy w' (some b) → wpList P ops Q rest (a.put o.dst undef) w') :
    wpList P ops Q (o :: rest) a w := by
  obtain ⟨D, hown, hf⟩ := hown
  have hm' := hown.isMap
  have hkl : WideAt.IsKeyLit kl := K.key hkey
  refine wpList_plain hg fun K' hK' => ?_
  obtain ⟨w', hrun, r1, r2⟩ := hown.update K ht hn hkey (val := val) (d := .held val) (ps := []) rfl
  unfold Oper.wp
  simp [execOp, hop, hm, hx, hv, hrun, Result.andThen]
  refine hK' _ _ (hK w' ⟨_, r1, fun q => ?_⟩ r2)
  by_cases hq : q = kl
  · subst hq
    rw [Maps.has_put_same hm' hkl, putF_same]
    refine ⟨rfl, fun u z hu => ?_⟩
    cases hu
    exact Maps.atKey_put_same hm' hkl _ _
  · rw [Maps.has_put_other hq, putF_other f val hq]
    refine ⟨(hf q).1, fun u z hu => ?_⟩
    rw [Maps.atKey_put_other hq]
    exact (hf q).2 u z hu
end
end Go.Proofs.YtggldnbhmebcpaaGreatDoor.L
end
section
namespace Go.Proofs.YtggldnbhmebcpaaGreatDoor.L
open Go.RowKit Go.ChangeShapes Go.WideShapes Go.Proofs.YtggldnbhmebcpaaGreatDoorW.PrintWords Go.Proofs.YtggldnbhmebcpaaGreatDoorW.PrintLast Go.Proofs.YtggldnbhmebcpaaGreatDoorW.PrintMore
attribute [local go_sem] max2_int min2_int max_two min_two max_three min_three max_four min_four
def kFr : Kd (Int × Nat) := Kd.iso (Kd.pair (Kd.int .i64) (Kd.int .i64)) (fun x : Int × Nat => (x.1, (x.2 : Int)))
theorem kFr_mk (w : World) (base : Nat) (ok : Nat → Prop) (a : Int) (j : Nat) : kFr.M w base ok (a, j) [.int .i64 a, .int .i64 (j : Int)] := ⟨[_], [_], rfl, rfl, rfl⟩
theorem kFr_open {w : World} {x : Int × Nat} {cs : List Value} (h : kFr.K w x cs) : cs = [.int .i64 x.1, .int .i64 (x.2 : Int)] := by
 obtain ⟨_, _, rfl, h1, h2⟩ := h
 rw [show _ = [_] from h1, show _ = [_] from h2]; rfl
theorem info_fr : (Tryz.prog.info? 158).map (fun i => (i.zero, i.size, i.bytes)) = some (some (.agg #[.int .i64 0, .int .i64 0]), 2, 16) := by kernel_rfl
theorem frame_at {W : World} {base g n c : Nat} {st : List (Int × Nat)} {a : Int} {j : Nat} (h : kFr.R 158 W base (fun _ => True) (.slice (some ⟨g, 0, none⟩) n c) (st ++ [(a, j)])) :
  W.cell? ⟨g, st.length * 2, none⟩ = some (.int .i64 a) ∧ W.cell? ⟨g, st.length * 2 + 1, none⟩ = some (.int .i64 (j : Int)) ∧ W.frozen? ⟨g, st.length * 2 + 1, none⟩ = false ∧
   kFr.R 158 (W.setCell ⟨g, st.length * 2 + 1, none⟩ (.int .i64 ((j + 1 : Nat) : Int))) base (fun _ => True) (.slice (some ⟨g, 0, none⟩) n c) (st ++ [(a, j + 1)]) ∧ W.grownBy (W.setCell ⟨g, st.length * 2 + 1, none⟩ (.int .i64 ((j + 1 : Nat) : Int))) (some g) ∧ base ≤ g := by
 have hn := (Kd.R_reads' h).1
 rw [List.length_append, List.length_singleton] at hn
 obtain ⟨cs, hcl, hM, hcc, hfr⟩ := R_elemN h (0, 0) st.length (by omega)
 have e0 : (st ++ [(a, j)]).getD st.length (0, 0) = (a, j) := by simp [List.getD_eq_getElem?_getD]
 rw [e0] at hM
 obtain rfl := kFr_open (kFr.K_of_M hM)
 have h0 := hcc 0 _ rfl
 have h1 := hcc 1 _ rfl
 have hf := hfr 1
 have hs := R_segN h st.length (by omega) (seg := [.int .i64 ((j + 1 : Nat) : Int)]) (j := 1) hcl hcc (Nat.le_refl 2) (x' := (a, j + 1)) (okp := fun _ => False) (kFr_mk W base _ a (j + 1)) (fun _ h => h.elim)
 have e2 : (st ++ [(a, j)]).set st.length (a, j + 1) = st ++ [(a, j + 1)] := by simp
 rw [e2] at hs
 exact ⟨h0, h1, hf, hs.1, hs.2, Kd.R_base h g (by simp [Value.ownBlock])⟩
structure OrdMem (s : Scene) (A : Option Addr) (c : Nat) (w : World) (b : Nat) (v3 v5 : Value) (out : List Int) (st : List (Int × Nat)) (vs : List Int) (cnt : Nat) (W : World) : Prop where
 orow : (Kd.int .i64).R 3 W w.heap.size (fun _ => True) v3 out
 stk : kFr.R 158 W w.heap.size (fun _ => True) v5 st
 map : MapF Tryz.prog 3 W b cnt (visF vs)
 mb : w.heap.size ≤ b
 box : W.heap[w.heap.size]? = some (.cells #[.slice A s.nodes.length c, .int .i64 s.root] 24 (0, 0))
 below : Below w.heap.size w W
structure OrdRel (s : Scene) (A : Option Addr) (c : Nat) (w : World) (b : Nat) (v3 v5 : Value) (out : List Int) (st : List (Int × Nat)) (vs : List Int) (cnt : Nat) (W : World) : Prop extends OrdMem s A c w b v3 v5 out st vs cnt W where
 inv : CInv s.nodes (ord s) (rows s.nodes) out st vs cnt
theorem OrdRel.drew {s : Scene} {A : Option Addr} {c : Nat} {w : World} {b : Nat} {v3 v5 : Value} {out : List Int} {st : List (Int × Nat)} {vs : List Int} {cnt : Nat} {W : World} (h : OrdRel s A c w b v3 v5 out st vs cnt W) : OrdRel s A c w b v3 v5 out st vs cnt W.drew :=
 ⟨⟨Kd.R_drew h.orow, Kd.R_drew h.stk, h.map.below (pw_below_drewN (Below.refl _ _) 1), h.mb, h.box, pw_below_drewN h.below 1⟩, h.inv⟩
theorem OrdMem.turn {s : Scene} {A : Option Addr} {c : Nat} {w : World} {b g n cs : Nat} {v3 : Value} {out : List Int} {st : List (Int × Nat)} {a : Int} {j : Nat} {vs : List Int} {cnt : Nat} {W : World} (h : OrdMem s A c w b v3 (.slice (some ⟨g, 0, none⟩) n cs) out (st ++ [(a, j)]) vs cnt W) :
  OrdMem s A c w b v3 (.slice (some ⟨g, 0, none⟩) n cs) out (st ++ [(a, j + 1)]) vs cnt (W.setCell ⟨g, st.length * 2 + 1, none⟩ (.int .i64 ((j + 1 : Nat) : Int))) := by
 obtain ⟨_, _, _, h1, h2, h3⟩ := frame_at h.stk
 obtain ⟨cells, hc⟩ := Kd.R_typed h.stk g rfl
 refine ⟨Kd.R_grown1 h.orow rfl h2 (Kd.R_ne h.orow hc (by decide)), h1, h.map.kept h2 (fun e => ?_), h.mb, blk_grown h.box h2 (fun e => ?_), below_set h.below h3⟩
 ·injection e with e; subst e; exact h.map.not_cells hc
 ·injection e with e; subst e; rw [h.box] at hc; cases hc
theorem OrdRel.start {s : Scene} {A : Option Addr} {c : Nat} {w w2 : World} (hd : Dag s.nodes) (hr : Pl s.nodes s.root) (hM : MapF Tryz.prog 3 w2 (w.heap.size + 1) 1 (putF (fun _ => none) (.int .i64 s.root) (.bool true)))
  (hx : w2.heap[w.heap.size]? = some (.cells #[.slice A s.nodes.length c, .int .i64 s.root] 24 (0, 0))) (hB : Below w.heap.size w w2) :
  OrdRel s A c w (w.heap.size + 1) (.slice none 0 0) (.slice (some ⟨w2.heap.size, 0, none⟩) 1 1) [] [(s.root, 0)] [s.root] 1 (w2.alloc (.cells #[.int .i64 s.root, .int .i64 0] 158)) :=
 ⟨⟨Kd.R_nil _ _ _ _ _, R_lits kFr 158 (fun x => [.int .i64 x.1, .int .i64 (x.2 : Int)]) w2 w.heap.size [(s.root, 0)] (fun x => kFr_mk w2 _ _ x.1 x.2) (fun _ => rfl) hB.size (by simp) rfl,
  by rw [← visF_put, visF_nil]; exact hM.below (below_alloc (Below.refl _ _) _), Nat.le_succ _, (Below.block (below_alloc (Below.refl _ _) _) _ (blk_lt hx)).trans hx, below_alloc hB _⟩, CInv.start hd hr⟩
set_option maxRecDepth 100000 in
set_option maxHeartbeats 4000000 in
theorem canOrder_any (A : Option Addr) (c : Nat) (s : Scene) (w : World) (h : kNode.C w A s.nodes.length s.nodes) (hd : Dag s.nodes) (hr : Pl s.nodes s.root) (hM : rows s.nodes ≤ 1000000) :
  Calls Tryz.prog 91 #[.agg #[.slice A s.nodes.length c, .int .i64 s.root]] w (RowPost (Kd.int .i64) 3 (ord s) w) := by
 have HR := Aside0.mk h
 have HD := Aside0.mk hd
 have HM := Aside0.mk hM
 have HP := Aside0.mk hr
 have HK := Aside0.mk (keyI_of (x := s.root) (by have := hr.1; omega) (by have := hr.2; have := h.2.1; omega))
 have HM0 := Aside0.mk (show MapF Tryz.prog 3 ((w.alloc (.cells #[.slice A s.nodes.length c, .int .i64 s.root] 24)).alloc (.map #[] 0)) (w.heap.size + 1) 0 (fun _ => none) from by simpa using MapF.made Tryz.prog 3 (w.alloc (.cells #[.slice A s.nodes.length c, .int .i64 s.root] 24)))
 have HX := Aside0.mk (show ((w.alloc (.cells #[.slice A s.nodes.length c, .int .i64 s.root] 24)).alloc (.map #[] 0)).heap[w.heap.size]? = some (.cells #[.slice A s.nodes.length c, .int .i64 s.root] 24 (0, 0)) from by
   have : (w.alloc (.cells #[.slice A s.nodes.length c, .int .i64 s.root] 24)).heap[w.heap.size]? = some (.cells #[.slice A s.nodes.length c, .int .i64 s.root] 24 (0, 0)) := by simpa using heap_alloc_new w _
   exact (Below.block (below_alloc (Below.refl _ _) _) _ (by simp)).trans this)
 have HB0 := Aside0.mk (show Below w.heap.size w ((w.alloc (.cells #[.slice A s.nodes.length c, .int .i64 s.root] 24)).alloc (.map #[] 0)) from below_alloc (below_alloc (Below.refl _ _) _) _)
 have hk1 := (blk_cell HX.out 1).trans rfl
 have hmm := @run_makeMap Tryz.prog
 have hnc := h.2.1
 clear h hd hr hM
 go_enter Tryz.func91, Tryz.ntmps91
 go_wp2_with (refine wpList_insert_F _ rfl (.tmp 9) (.tmp 11) _ 45 rfl 3 4 keyI Tryz.underlying45 (w.heap.size + 1) 0 (fun _ => none) rfl HM0.out (by unfold maxLen; omega) (.int .i64 s.root) (.bool true) (.int .i64 s.root) rfl rfl HK.out ?_; intro w2 hM2 hg2; have HG2 := Aside0.mk hg2; have HM2 := Aside0.mk hM2; have HX2 := Aside0.mk (blk_grown HX.out hg2 (by simp)); have hx1 := (blk_cell HX2.out 1).trans rfl; have HB2 := Aside0.mk (below_map HB0.out HB0.out.size hg2 (by omega)); clear hM2 hg2)
 have HI := Aside0.mk (OrdRel.start HD.out HP.out HM2.out HX2.out HB2.out)
 clear hx1 hk1 hmm HM2 HX2 HB2
 go_loopg [3, 5] (left s.nodes [s.root] + stk s.nodes [(s.root, 0)]) (fun g v3 v5 W => ∃ out st vs cnt, g = left s.nodes vs + stk s.nodes st ∧ Aside0 (OrdRel s A c w (w.heap.size + 1) v3 v5 out st vs cnt W))
 case atStart => exact ⟨_, _, _, _, rfl, HI⟩
 case round =>
  clear HI
  obtain ⟨out, st, vs, cnt, hg, HL⟩ := hrel
  obtain ⟨Ao, co, rfl⟩ := Kd.R_slice HL.out.orow
  rcases snoc_cases st with rfl | ⟨st, ⟨a, j⟩, rfl⟩
  ·obtain ⟨As, cs, rfl⟩ := Kd.R_slice HL.out.stk
   obtain rfl : out = ord s := HL.out.inv.eq
   clear hg
   go_wp2
   go_ret
   exact ⟨_, _, rfl, HL.out.orow, HL.out.below⟩
  ·obtain ⟨g, cs, hv, hbg, hgl, cells, hgc⟩ := Kd.R_form HL.out.stk (by simp)
   have e1 : (st ++ [(a, j)]).length = st.length + 1 := by simp
   rw [e1] at hv
   subst hv
   have HT := Aside0.mk (frame_at HL.out.stk)
   obtain ⟨f0, f1, f2, -⟩ := frame_at HL.out.stk
   have HC := Aside0.mk hgc
   have HAP := Aside0.mk (HL.out.inv.pl (a, j) (by simp))
   obtain ⟨x, rfl⟩ : ∃ q : Nat, a = (q : Int) := ⟨a.toNat, by have := HAP.out.1.1; simp only at this; omega⟩
   have hx1 : x < s.nodes.length := by have := HAP.out.1.2; simp only at this; omega
   have hsl : st.length + 1 ≤ 1000000 := by
    have h1 := HL.out.inv.mo
    have h2 := stk_len s.nodes (st ++ [((x : Int), j)])
    rw [e1] at h2
    have := HM.out
    omega
   have hol : out.length + 1 ≤ 1000000 := by
    have h1 := HL.out.inv.mo
    have h2 := stk_len s.nodes (st ++ [((x : Int), j)])
    rw [e1] at h2
    have := HM.out
    omega
   have hj := HAP.out.2
   simp only [kids_nat] at hj
   obtain ⟨adn, A1, c1, A2, c2, A3, c3, rfl, x0, x1, x2, x3, hN⟩ := at_node HR.out x hx1
   have hklM : (nd s.nodes x).kids.length ≤ 1000000 := by have := HM.out; have h1 := left_cons (ns := s.nodes) (vs := []) hx1 (by simp); rw [left_nil, wt] at h1; omega
   replace x3 := pw_cell_below HL.out.below x3
   have hb0 := (blk_cell HL.out.box 0).trans rfl
   have hcsl : st.length + 1 ≤ cs := by have := (Kd.R_reads' HL.out.stk).2.1; omega
   clear x0 x1 x2 hgc e1
   by_cases hje : j = (nd s.nodes x).kids.length
   ·subst hje
    have HN := Aside0.mk (HL.out.inv.pop (by rw [kids_nat]))
    have HS := Aside0.mk (show kFr.R 158 wr w.heap.size (fun _ => True) (.slice (some ⟨g, 0, none⟩) st.length cs) st from by have := Kd.R_take HL.out.stk (m := st.length) (by simp); simpa using this)
    have HG := Aside0.mk (show left s.nodes vs + stk s.nodes st < gk from by rw [hg, stk_snoc]; omega)
    clear hg hN
    go_wp2
    go_region
    clear f0 f1 f2 x3 hb0
    have HL2 := Aside0.mk HL.out.drew
    replace HS := Aside0.mk (Kd.R_drew HS.out)
    replace HC := Aside0.mk (show wr.drew.heap[g]? = _ from HC.out)
    obtain ⟨f0, f1, f2, -⟩ := frame_at HL2.out.stk
    clear HL HT
    generalize wr.drew = W2 at HL2 HS HC f0 f1 f2 ⊢
    go_wp2_with (at_builtin; refine Kd.R_append (Kd.int .i64) (w0 := w) w.heap.size rfl (.tmp 41) (.tmp 46) 40 3 (.int .i64 0) 8 rfl Tryz.underlying40 info_int rfl (by decide) (by omega) (.slice Ao out.length co) out (x : Int) [.int .i64 (x : Int)] (fun _ => True) (fun _ => False) rfl (by go_simp) rfl (fun _ h => h.elim) (fun _ _ => trivial) HL2.out.orow HL2.out.below HL2.out.below.size (by omega) ?_; intro v2 w2 hR2 hB2 hg2 hat2; have HR2 := Aside0.mk hR2; have HB2 := Aside0.mk hB2; have HS2 := Aside0.mk (Kd.R_grown1 HS.out rfl hg2 (Ne.symm (Kd.R_ne HL2.out.orow HC.out (by decide)))); have HM2 := Aside0.mk (HL2.out.map.kept hg2 (HL2.out.map.ne_row HL2.out.orow)); have HX2 := Aside0.mk (blk_grown HL2.out.box hg2 (Kd.R_ne HL2.out.orow HL2.out.box (by decide))); clear hR2 hB2 hg2 hat2)
    go_roundg (left s.nodes vs + stk s.nodes st)
    case measure => exact HG.out
    case rel => exact ⟨_, _, _, _, rfl, ⟨⟨HR2.out, HS2.out, HM2.out, HL2.out.mb, HX2.out, HB2.out⟩, HN.out⟩⟩
   ·have hjl : j < (nd s.nodes x).kids.length := by omega
    have HNk := Aside0.mk hN.k
    obtain ⟨adk, rfl, -⟩ := at_nat (Kd.C_below hN.k HL.out.below) j hjl
    have HKD := Aside0.mk (HL.out.inv.kid HD.out (by rw [kids_nat]; exact hjl))
    obtain ⟨k, hk⟩ : ∃ q : Nat, rd (nd s.nodes x).kids (j : Int) = (q : Int) := ⟨(rd (nd s.nodes x).kids (j : Int)).toNat, by have := HKD.out.1.1; rw [kids_nat] at this; omega⟩
    have HKK := Aside0.mk hk
    have hkn : k < s.nodes.length := by have := HKD.out.1.2; rw [kids_nat, hk] at this; omega
    have dj : (j == (nd s.nodes x).kids.length) = false := by simpa using hje
    have HG := Aside0.mk hg
    clear hN hk hg hje
    go_wp2
    go_region
    clear f0 f1 f2 x3 hb0
    have HL2 := Aside0.mk HL.out.drew
    clear HL HT HC
    generalize wr.drew = W2 at HL2 ⊢
    obtain ⟨f0, f1, f2, -⟩ := frame_at HL2.out.stk
    have hxk := at_nat (Kd.C_below HNk.out HL2.out.below) j hjl
    obtain ⟨adk', he, hxk⟩ := hxk
    injection he with he
    subst he
    rw [HKK.out] at hxk
    have HT2 := Aside0.mk HL2.out.toOrdMem.turn
    obtain ⟨g0, g1, g2, -⟩ := frame_at HT2.out.stk
    have HKI := Aside0.mk (keyI_of (x := (k : Int)) (by omega) (by omega))
    by_cases hv : (k : Int) ∈ vs
    ·have HV := Aside0.mk (visF_in hv)
     have HN := Aside0.mk (HL2.out.inv.pass HD.out (by rw [kids_nat]; exact hjl) (by rw [kids_nat, HKK.out]; exact hv))
     clear hv
     go_wp2_with (at_lookup; refine wpList_lookup_F _ rfl (.tmp 67) (.tmp 68) 45 rfl 3 4 keyI Tryz.underlying45 (zeroB _) (w.heap.size + 1) cnt (visF vs) rfl HT2.out.map (.int .i64 k) (.int .i64 k) rfl HKI.out (.bool true) HV.out ?_)
     go_roundg (left s.nodes vs + stk s.nodes (st ++ [((x : Int), j + 1)]))
     case measure => rw [HG.out]; exact HN.out.2
     case rel => exact ⟨_, _, _, _, rfl, ⟨HT2.out, HN.out.1⟩⟩
    ·have HV := Aside0.mk (visF_out hv)
     have HN := Aside0.mk (HL2.out.inv.push HD.out (by rw [kids_nat]; exact hjl) (by rw [kids_nat, HKK.out]; exact hv))
     have hcM : cnt < maxLen := by have := HL2.out.inv.c; have := HM.out; unfold maxLen; omega
     clear hv
     go_wp2_with (first
      | (at_lookup; refine wpList_lookup_F _ rfl (.tmp 67) (.tmp 68) 45 rfl 3 4 keyI Tryz.underlying45 (zeroB _) (w.heap.size + 1) cnt (visF vs) rfl HT2.out.map (.int .i64 k) (.int .i64 k) rfl HKI.out (.bool false) HV.out ?_)
      | (at_mapUpdate; refine wpList_update_F _ rfl (.tmp 71) (.tmp 72) _ 45 rfl 3 4 keyI Tryz.underlying45 (w.heap.size + 1) cnt (visF vs) rfl HT2.out.map hcM (.int .i64 k) (.bool true) (.int .i64 k) rfl rfl HKI.out ?_; intro w3 hM3 hg3; have HM3 := Aside0.mk hM3; have HB3 := Aside0.mk (below_map HT2.out.below HT2.out.below.size hg3 HT2.out.mb); have HX3 := Aside0.mk (blk_grown HT2.out.box hg3 (by simp)); have HS3 := Aside0.mk (R_past_map HT2.out.stk HT2.out.map hg3); have HO3 := Aside0.mk (R_past_map HT2.out.orow HT2.out.map hg3); clear hM3 hg3)
      | (at_builtin; refine Kd.R_append kFr (w0 := w) w.heap.size rfl (.tmp 73) (.tmp 76) 159 158 (.agg #[.int .i64 0, .int .i64 0]) 16 rfl Tryz.underlying159 info_fr rfl (by decide) (by omega) (.slice (some ⟨g, 0, none⟩) (st.length + 1) cs) (st ++ [((x : Int), j + 1)]) ((k : Int), 0) [.int .i64 (k : Int), .int .i64 0] (fun _ => True) (fun _ => False) rfl (by go_simp) (kFr_mk _ _ _ _ _) (fun _ h => h.elim) (fun _ _ => trivial) HS3.out HB3.out HB3.out.size (by rw [List.length_append, List.length_singleton]; omega) ?_; intro v4 w4 hR4 hB4 hg4 hat4; have HI4 := Aside0.mk (show OrdMem s (some adn) c w (w.heap.size + 1) (.slice Ao out.length co) v4 out (st ++ [((x : Int), j + 1)] ++ [((k : Int), 0)]) ((k : Int) :: vs) (cnt + 1) w4 from ⟨Kd.R_grown1 HO3.out rfl hg4 (by obtain ⟨cells, hc⟩ := Kd.R_typed HS3.out g rfl; exact Kd.R_ne HO3.out hc (by decide)), hR4, by rw [← visF_put]; exact HM3.out.kept hg4 (HM3.out.ne_row HS3.out), HT2.out.mb, blk_grown HX3.out hg4 (Kd.R_ne HS3.out HX3.out (by decide)), hB4⟩); clear hR4 hB4 hg4 hat4))
     go_roundg (left s.nodes ((k : Int) :: vs) + stk s.nodes (st ++ [((x : Int), j + 1)] ++ [((k : Int), 0)]))
     case measure => rw [HG.out]; have := HN.out.2; rw [kids_nat, HKK.out] at this; exact this
     case rel => exact ⟨_, _, _, _, rfl, ⟨HI4.out, by have := HN.out.1; rw [kids_nat, HKK.out] at this; exact this⟩⟩
end Go.Proofs.YtggldnbhmebcpaaGreatDoor.L
end
section
namespace Go.Proofs.YtggldnbhmebcpaaGreatDoor.L
open Go.RowKit Go.ChangeShapes Go.WideShapes Go.Proofs.YtggldnbhmebcpaaGreatDoorW.PrintWords Go.Proofs.YtggldnbhmebcpaaGreatDoorW.PrintLast Go.Proofs.YtggldnbhmebcpaaGreatDoorW.PrintMore
attribute [local go_sem] max2_int min2_int max_two min_two max_three min_three max_four min_four
abbrev kGrid : Kd (List Int) := Kd.slice 3 (Kd.int .i64)
def row (t : List (List Int)) (i : Nat) : List Int := t.getD i []
theorem row_set {t : List (List Int)} {k j : Nat} (hk : k < t.length) (r : List Int) : row (t.set k r) j = if j = k then r else row t j := by
  unfold row
  rw [List.getD_eq_getElem?_getD, List.getD_eq_getElem?_getD, List.getElem?_set]
  by_cases h : j = k
  · subst h; rw [if_pos rfl, if_pos rfl, if_pos hk]; rfl
  · rw [if_neg (fun e => h e.symm), if_neg h]
theorem grid_lend {W : World} {base g n cap eT : Nat} {ok : Nat → Prop} {t : List (List Int)} (h : Kd.S kGrid eT W base ok (.slice (some ⟨g, 0, none⟩) n cap) t) (hfresh : ∀ q, W.heap.size ≤ q → ok q) (k : Nat) (hk : k < n) :
    ∃ vk, W.cell? ⟨g, k, none⟩ = some vk ∧ W.frozen? ⟨g, k, none⟩ = false ∧ base ≤ g ∧ (Kd.int .i64).R 3 W base (fun _ => True) vk (row t k) ∧ (∀ q, vk.ownBlock = some q → ok q ∧ q ≠ g) ∧
      ∀ (w1 : World) (v1 : Value) (r : List Int), W.grownBy w1 vk.ownBlock → (Kd.int .i64).R 3 w1 base (fun _ => True) v1 r → (v1.ownBlock = vk.ownBlock ∨ ∃ b, v1.ownBlock = some b ∧ W.heap.size ≤ b) →
        w1.cell? ⟨g, k, none⟩ = some vk ∧ w1.frozen? ⟨g, k, none⟩ = false ∧ Kd.S kGrid eT (w1.setCell ⟨g, k, none⟩ v1) base ok (.slice (some ⟨g, 0, none⟩) n cap) (t.set k r) ∧ w1.grownBy (w1.setCell ⟨g, k, none⟩ v1) (some g) := by
  obtain ⟨oki, c, hcl, hM, hcc, hfr, hoki, hH⟩ := Kd.S_elem h ([] : List Int) (k : Int) (by omega) (by omega)
  obtain ⟨vk, rfl, hR⟩ := hM
  have hR' : (Kd.int .i64).R 3 W base oki vk (row t k) := by simpa [row] using hR
  have hg : g < W.heap.size ∧ base ≤ g := by
    obtain ⟨g', cap', e, h1, h2, _⟩ := Kd.S_form h (by have := (Kd.S_reads' h).1; omega)
    injection e with e _ _
    injection e with e
    injection e with e
    subst e
    exact ⟨h2, h1⟩
  have hc0 : W.cell? ⟨g, k, none⟩ = some vk := by have := hcc 0 vk rfl; simpa [show (kGrid).sz = 1 from rfl] using this
  have hf0 : W.frozen? ⟨g, k, none⟩ = false := by have := hfr 0; simpa [show (kGrid).sz = 1 from rfl] using this
  refine ⟨vk, hc0, hf0, hg.2, Kd.R_mono hR' (fun _ _ => trivial), fun q hq => hoki q (hR'.1 q hq), fun w1 v1 r hgr hR1 hat => ?_⟩
  have hne : some g ≠ vk.ownBlock := fun he => (hoki g (hR'.1 g he.symm)).2 rfl
  have hhg : w1.heap[g]? = W.heap[g]? := hgr.block g hg.1 hne
  refine ⟨by rw [← hc0]; unfold World.cell?; rw [hhg], by rw [← hf0]; unfold World.frozen?; rw [hhg], ?_⟩
  have hH1 := Kd.H_grown (Kd.H_widen hH) hgr (fun q hq => .inl (hR'.1 q hq))
  have hM1 : kGrid.M w1 base (fun q => oki q ∨ ok q ∧ W.heap.size ≤ q) r [v1] := ⟨v1, rfl, Kd.R_mono (Kd.R_tight rfl hR1) (fun q hq => by
    rcases hat with hat | ⟨b, hb, hle⟩
    · rw [hat] at hq; exact .inl (hR'.1 q hq.symm)
    · rw [hb] at hq; injection hq with hq; exact .inr ⟨hfresh q (by omega), by omega⟩)⟩
  have hs := Kd.S_seg (okg := fun _ => False) (seg := [v1]) (j := 0) (x' := r) (Kd.H_mono hH1 (fun q hq => ⟨hq, fun h => h⟩)) (by omega) (by omega) (Nat.le_refl 1) hM1 (fun q hq => .inl hq) (fun _ h => h.elim)
  have e : w1.setCells g ((k : Int).toNat * (kGrid).sz + 0) [v1] = w1.setCell ⟨g, k, none⟩ v1 := by
    rw [show (kGrid).sz = 1 from rfl, Int.toNat_natCast, Nat.mul_one]; rfl
  rw [e, Int.toNat_natCast] at hs
  exact hs
theorem grid_read {W : World} {base g n cap eT : Nat} {ok : Nat → Prop} {t : List (List Int)} (h : Kd.S kGrid eT W base ok (.slice (some ⟨g, 0, none⟩) n cap) t) (k : Nat) (hk : k < n) :
    ∃ A c, W.cell? ⟨g, k, none⟩ = some (.slice A (row t k).length c) ∧ (Kd.int .i64).C W A (row t k).length (row t k) := by
  obtain ⟨oki, c, hcl, hM, hcc, hfr, hoki, hH⟩ := Kd.S_elem h ([] : List Int) (k : Int) (by omega) (by omega)
  obtain ⟨vk, rfl, hR⟩ := hM
  have hR' : (Kd.int .i64).R 3 W base oki vk (row t k) := by simpa [row] using hR
  obtain ⟨A, c, rfl⟩ := Kd.R_slice hR'
  exact ⟨A, c, by have := hcc 0 _ rfl; simpa [show (kGrid).sz = 1 from rfl] using this, (Kd.R_reads' hR').2.2⟩
theorem R_grown1 {W W1 : World} {base e : Nat} {k : IntKind} {v : Value} {xs : List Int} {r : Option Nat} (h : (Kd.int k).R e W base (fun _ => True) v xs) (hg : W.grownBy W1 r) (hne : ∀ q, v.ownBlock = some q → some q ≠ r) : (Kd.int k).R e W1 base (fun _ => True) v xs :=
  Kd.R_mono (Kd.R_grown (Kd.R_tight rfl h) hg (fun q hq => hne q hq.symm)) (fun _ _ => trivial)
structure OM (w0 : World) (n gt ct go co : Nat) (vo : Value) (t : List (List Int)) (op out : List Int) (W : World) : Prop where
  tab : Kd.S kGrid 40 W w0.heap.size (fun q => q ≠ go ∧ some q ≠ vo.ownBlock) (.slice (some ⟨gt, 0, none⟩) n ct) t
  opn : (Kd.int .i64).R 3 W w0.heap.size (fun _ => True) (.slice (some ⟨go, 0, none⟩) n co) op
  out : (Kd.int .i64).R 3 W w0.heap.size (fun _ => True) vo out
  ne : ∀ q, vo.ownBlock = some q → q ≠ go
  below : Below w0.heap.size w0 W
section
variable {w0 W W1 : World} {n gt ct go co : Nat} {vo v1 : Value} {t : List (List Int)} {op out out1 : List Int}
theorem OM.go_lt (h : OM w0 n gt ct go co vo t op out W) : go < W.heap.size := Kd.R_lt h.opn go rfl
theorem OM.go_ge (h : OM w0 n gt ct go co vo t op out W) : w0.heap.size ≤ go := Kd.R_base h.opn go rfl
theorem OM.fresh (h : OM w0 n gt ct go co vo t op out W) : ∀ q, W.heap.size ≤ q → q ≠ go ∧ some q ≠ vo.ownBlock := fun q hq =>
  ⟨by have := h.go_lt; omega, fun e => by have := Kd.R_lt h.out q e.symm; omega⟩
theorem OM.later (h : OM w0 n gt ct go co vo t op out W) (hb : Below W.heap.size W W1) : OM w0 n gt ct go co vo t op out W1 :=
  ⟨Kd.S_below h.tab hb, Kd.R_below h.opn hb, Kd.R_below h.out hb, h.ne, below_step h.below hb⟩
theorem OM.push (h : OM w0 n gt ct go co vo t op out W) (hR : (Kd.int .i64).R 3 W1 w0.heap.size (fun _ => True) v1 out1) (hB : Below w0.heap.size w0 W1) (hg : W.grownBy W1 vo.ownBlock) (hat : v1.ownBlock = vo.ownBlock ∨ ∃ b, v1.ownBlock = some b ∧ W.heap.size ≤ b) : OM w0 n gt ct go co v1 t op out1 W1 where
  tab := Kd.S_mono (Kd.S_grown (Kd.S_bound h.tab) hg (fun q hq => hq.1.2)) (fun q hq => ⟨hq.1.1, fun e => by
    rcases hat with hat | ⟨b, hb, hle⟩
    · rw [hat] at e; exact hq.1.2 e
    · rw [hb] at e; injection e with e; have := hq.2.2.1; omega⟩)
  opn := R_grown1 h.opn hg (fun q hq e => by
    have : go = q := by simpa [Value.ownBlock] using hq
    subst this
    exact h.ne go e.symm rfl)
  out := hR
  ne := fun q hq => by
    rcases hat with hat | ⟨b, hb, hle⟩
    · rw [hat] at hq; exact h.ne q hq
    · rw [hb] at hq; injection hq with hq; have := h.go_lt; omega
  below := hB
theorem OM.count (h : OM w0 n gt ct go co vo t op out W) (p : Nat) (hp : p < n) (v : Int) : W.cell? ⟨go, p, none⟩ = some (.int .i64 (rd op (p : Int))) ∧ W.frozen? ⟨go, p, none⟩ = false ∧ OM w0 n gt ct go co vo t (op.set p v) out (W.setCell ⟨go, p, none⟩ (.int .i64 v)) := by
  obtain ⟨c1, c2⟩ := ints_cell h.opn p hp
  obtain ⟨s1, s2, _⟩ := ints_store h.opn p hp v
  exact ⟨c1, c2, Kd.S_far (p := ⟨go, p, none⟩) h.tab (fun q hq => hq.1) _, s1, R_grown1 h.out s2 (fun q hq e => by injection e with e; exact h.ne q hq e), h.ne, below_set h.below h.go_ge⟩
theorem OM.lend (h : OM w0 n gt ct go co vo t op out W) (k : Nat) (hk : k < n) :
    ∃ vk, W.cell? ⟨gt, k, none⟩ = some vk ∧ (Kd.int .i64).R 3 W w0.heap.size (fun _ => True) vk (row t k) ∧
      ∀ (W1 : World) (v1 : Value) (r : List Int), W.grownBy W1 vk.ownBlock → (Kd.int .i64).R 3 W1 w0.heap.size (fun _ => True) v1 r → Below w0.heap.size w0 W1 → (v1.ownBlock = vk.ownBlock ∨ ∃ b, v1.ownBlock = some b ∧ W.heap.size ≤ b) →
        W1.cell? ⟨gt, k, none⟩ = some vk ∧ W1.frozen? ⟨gt, k, none⟩ = false ∧ OM w0 n gt ct go co vo (t.set k r) op out (W1.setCell ⟨gt, k, none⟩ v1) := by
  obtain ⟨vk, c1, c2, hb, hR, hok, hback⟩ := grid_lend h.tab h.fresh k hk
  have hgt : gt ≠ go ∧ some gt ≠ vo.ownBlock := (Kd.S_R h.tab).1 gt rfl
  refine ⟨vk, c1, hR, fun W1 v1 r hg hR1 hB hat => ?_⟩
  obtain ⟨d1, d2, hS, hg2⟩ := hback W1 v1 r hg hR1 hat
  refine ⟨d1, d2, hS, R_grown1 (R_grown1 h.opn hg (fun q hq e => ?_)) hg2 (fun q hq e => ?_), R_grown1 (R_grown1 h.out hg (fun q hq e => ?_)) hg2 (fun q hq e => ?_), h.ne, below_set hB hb⟩
  · have : go = q := by simpa [Value.ownBlock] using hq
    subst this
    exact (hok go e.symm).1.1 rfl
  · have : go = q := by simpa [Value.ownBlock] using hq
    subst this
    injection e with e; exact hgt.1 e.symm
  · exact (hok q e.symm).1.2 hq.symm
  · injection e with e; subst e; exact hgt.2 hq.symm
end
end Go.Proofs.YtggldnbhmebcpaaGreatDoor.L
end
section
namespace Go.Proofs.YtggldnbhmebcpaaGreatDoor.L
open Go.RowKit Go.ChangeShapes Go.WideShapes Go.Proofs.YtggldnbhmebcpaaGreatDoorW.PrintWords Go.Proofs.YtggldnbhmebcpaaGreatDoorW.PrintLast Go.Proofs.YtggldnbhmebcpaaGreatDoorW.PrintMore
attribute [local go_sem] max2_int min2_int max_two min_two max_three min_three max_four min_four
theorem rowOf_nat (t : List (List Int)) (k : Nat) : rowOf t (k : Int) = row t k := by unfold rowOf row; rw [Int.toNat_natCast]
def leaves (ns : List Node) (i : Nat) : List Int := ((List.range i).filter (fun p : Nat => decide ((kids ns (p : Int)).length = 0))).map (fun p : Nat => (p : Int))
def pre (ns : List Node) (i : Nat) : Nat := ((List.range i).map (wt ns)).sum
theorem pre_succ (ns : List Node) (i : Nat) : pre ns (i + 1) = pre ns i + wt ns i := by unfold pre; rw [List.range_succ, List.map_append, List.sum_append]; simp
theorem pre_le {ns : List Node} {i : Nat} (h : i ≤ ns.length) : pre ns i ≤ rows ns := by
  have : ∀ d, pre ns i ≤ pre ns (i + d) := fun d => by
    induction d with
    | zero => exact Nat.le_refl _
    | succ d ih => rw [← Nat.add_assoc, pre_succ]; omega
  have := this (ns.length - i)
  rw [show i + (ns.length - i) = ns.length by omega] at this
  exact this
theorem leaves_mem {ns : List Node} {i : Nat} {x : Int} : x ∈ leaves ns i ↔ ∃ p : Nat, x = (p : Int) ∧ p < i ∧ (kids ns (p : Int)).length = 0 := by
  unfold leaves
  simp only [List.mem_map, List.mem_filter, List.mem_range, decide_eq_true_eq]
  exact ⟨fun ⟨p, h, e⟩ => ⟨p, e.symm, h⟩, fun ⟨p, e, h⟩ => ⟨p, h, e.symm⟩⟩
theorem leaves_succ_yes {ns : List Node} {i : Nat} (h : (kids ns (i : Int)).length = 0) : leaves ns (i + 1) = leaves ns i ++ [(i : Int)] := by
  unfold leaves
  rw [List.range_succ, List.filter_append, List.map_append, List.filter_cons, if_pos (decide_eq_true h)]
  rfl
theorem leaves_succ_no {ns : List Node} {i : Nat} (h : ¬ (kids ns (i : Int)).length = 0) : leaves ns (i + 1) = leaves ns i := by
  unfold leaves
  rw [List.range_succ, List.filter_append, List.map_append, List.filter_cons, if_neg (by rw [decide_eq_false h]; simp)]
  simp
theorem leaves_nodup (ns : List Node) (i : Nat) : (leaves ns i).Nodup := by
  unfold leaves
  refine List.Pairwise.map _ ?_ (List.Pairwise.filter _ List.nodup_range)
  intro a b hab h
  exact hab (by omega)
theorem leaves_len (ns : List Node) (i : Nat) : (leaves ns i).length ≤ i := by
  unfold leaves
  rw [List.length_map]
  exact Nat.le_trans (List.length_filter_le _ _) (by simp)
structure PInv (ns : List Node) (t : List (List Int)) (op : List Int) (i j b : Nat) : Prop where
  tl : t.length = ns.length
  ol : op.length = ns.length
  mem : ∀ c : Nat, c < ns.length → ∀ x ∈ row t c, 0 ≤ x ∧ x < (ns.length : Int)
  cnt : ∀ c p : Nat, c < ns.length → p < ns.length → (row t c).count (p : Int) = if p < i then (kids ns p).count (c : Int) else if p = i then ((kids ns i).take j).count (c : Int) else 0
  op : ∀ p : Nat, p < b → p < ns.length → rd op (p : Int) = ((kids ns p).length : Int)
  len : ∀ c : Nat, c < ns.length → (row t c).length ≤ pre ns i + j
theorem row_repl (n k : Nat) : row (List.replicate n []) k = [] := by
  unfold row
  rw [List.getD_eq_getElem?_getD, List.getElem?_replicate]
  split <;> rfl
theorem PInv.start (ns : List Node) : PInv ns (List.replicate ns.length []) (List.replicate ns.length 0) 0 0 0 where
  tl := by simp
  ol := by simp
  mem := fun c _ x hx => by rw [row_repl] at hx; simp at hx
  cnt := fun c p _ _ => by
    rw [row_repl, if_neg (by omega)]
    split <;> rfl
  op := fun p h => by omega
  len := fun c _ => by rw [row_repl]; simp
theorem PInv.count {ns : List Node} {t : List (List Int)} {op : List Int} {i : Nat} (h : PInv ns t op i 0 i) (hi : i < ns.length) : PInv ns t (op.set i ((kids ns i).length : Int)) i 0 (i + 1) where
  tl := h.tl
  ol := by simpa using h.ol
  mem := h.mem
  cnt := h.cnt
  op := fun p hp hpn => by
    rw [rd_set _ _ _ _ (by rw [h.ol]; exact hi)]
    by_cases e : p = i
    · subst e; rw [if_pos rfl]
    · rw [if_neg e]; exact h.op p (by omega) hpn
  len := h.len
theorem PInv.edge {ns : List Node} {t : List (List Int)} {op : List Int} {i j k : Nat} (h : PInv ns t op i j (i + 1)) (hi : i < ns.length) (hj : j < (kids ns i).length) (hk : rd (kids ns i) (j : Int) = (k : Int)) (hkn : k < ns.length) : PInv ns (t.set k (row t k ++ [(i : Int)])) op i (j + 1) (i + 1) where
  tl := by simpa using h.tl
  ol := h.ol
  mem := fun c hc x hx => by
    rw [row_set (by rw [h.tl]; exact hkn)] at hx
    by_cases e : c = k
    · rw [if_pos e] at hx
      rcases List.mem_append.1 hx with hx | hx
      · exact h.mem k hkn x hx
      · rw [List.mem_singleton.1 hx]; omega
    · rw [if_neg e] at hx
      exact h.mem c hc x hx
  cnt := fun c p hc hp => by
    have h0 := h.cnt c p hc hp
    rw [row_set (by rw [h.tl]; exact hkn), take_succ_rd hj, count_snoc, hk]
    by_cases e : c = k
    · subst e
      rw [if_pos rfl, count_snoc, h0, if_pos (show ((c : Int) = (c : Int)) from rfl)]
      by_cases h1 : p < i
      · rw [if_pos h1, if_pos h1, if_neg (by omega)]; rfl
      · rw [if_neg h1, if_neg h1]
        by_cases h2 : p = i
        · rw [if_pos h2, if_pos h2, if_pos (by omega)]
        · rw [if_neg h2, if_neg h2, if_neg (by omega)]
    · rw [if_neg e, h0, if_neg (show ¬ ((k : Int) = (c : Int)) by omega)]
      rfl
  op := h.op
  len := fun c hc => by
    rw [row_set (by rw [h.tl]; exact hkn)]
    have h1 := h.len c hc
    by_cases e : c = k
    · subst e; rw [if_pos rfl, List.length_append, List.length_singleton]; omega
    · rw [if_neg e]; omega
theorem PInv.node {ns : List Node} {t : List (List Int)} {op : List Int} {i : Nat} (h : PInv ns t op i (kids ns i).length (i + 1)) : PInv ns t op (i + 1) 0 (i + 1) where
  tl := h.tl
  ol := h.ol
  mem := h.mem
  cnt := fun c p hc hp => by
    rw [h.cnt c p hc hp, List.take_zero, List.take_length]
    by_cases h1 : p < i
    · rw [if_pos h1, if_pos (by omega)]
    · rw [if_neg h1]
      by_cases h2 : p = i
      · subst h2; rw [if_pos rfl, if_pos (by omega)]
      · rw [if_neg h2, if_neg (by omega)]
        split <;> rfl
  op := h.op
  len := fun c hc => by
    have := h.len c hc
    rw [pre_succ, wt]
    have e : kids ns (i : Int) = (nd ns i).kids := by unfold kids; rw [Int.toNat_natCast]
    rw [e] at this
    omega
theorem PInv.pars {ns : List Node} {t : List (List Int)} {op : List Int} (h : PInv ns t op ns.length 0 ns.length) : ParsOk ns t := by
  refine ⟨h.tl, fun c hc x hx => ?_, fun c p hc hp => ?_⟩
  · rw [rowOf_nat] at hx; exact h.mem c hc x hx
  · rw [rowOf_nat, h.cnt c p hc hp, if_pos hp]
theorem PInv.ends {ns : List Node} {t : List (List Int)} {op : List Int} (h : PInv ns t op ns.length 0 ns.length) : OInv ns t op (leaves ns ns.length) 0 0 := by
  have e0 : done t (leaves ns ns.length) 0 0 = [] := by unfold done; rw [List.take_zero, List.take_zero]; rfl
  refine ⟨leaves_nodup _ _, fun x hx => ?_, h.ol, fun p hp => ?_, fun p hp => ?_, fun m hm k hk => ?_⟩
  · obtain ⟨p, rfl, hp, _⟩ := leaves_mem.1 hx; omega
  · rw [e0, h.op p hp hp]; simp
  · rw [e0]
    refine ⟨fun hm => ?_, fun he => leaves_mem.2 ⟨p, rfl, hp, by simpa using he.symm⟩⟩
    obtain ⟨q, hq, _, h0⟩ := leaves_mem.1 hm
    rw [hq, h0]; rfl
  · obtain ⟨p, hp, _, h0⟩ := leaves_mem.1 (rd_mem hm)
    rw [hp, List.eq_nil_of_length_eq_zero h0] at hk
    simp at hk
end Go.Proofs.YtggldnbhmebcpaaGreatDoor.L
end
section
namespace Go.Proofs.YtggldnbhmebcpaaGreatDoor.L
open Go.RowKit Go.ChangeShapes Go.WideShapes Go.Proofs.YtggldnbhmebcpaaGreatDoorW.PrintWords Go.Proofs.YtggldnbhmebcpaaGreatDoorW.PrintLast Go.Proofs.YtggldnbhmebcpaaGreatDoorW.PrintMore
attribute [local go_sem] max2_int min2_int max_two min_two max_three min_three max_four min_four
def Lives (k b : Nat) (W : World) : Prop := ∃ cs : Array Value, cs.size = k ∧ ∃ t, W.heap[b]? = some (.cells cs t (0, 0))
noncomputable def cellAt (W : World) (b i : Nat) : Value := (W.cell? ⟨b, i, none⟩).getD undef
theorem Lives.at {k b : Nat} {W : World} (h : Lives k b W) (i : Nat) (hi : i < k) : W.cell? ⟨b, i, none⟩ = some (cellAt W b i) ∧ W.frozen? ⟨b, i, none⟩ = false := by
  obtain ⟨cs, hk, t, h⟩ := h
  have hx : W.cell? ⟨b, i, none⟩ = some (cs[i]'(by omega)) := by rw [blk_cell h i, Array.getElem?_eq_getElem]
  exact ⟨by unfold cellAt; rw [hx]; rfl, blk_frozen h i⟩
theorem Lives.set {k b : Nat} {W : World} (h : Lives k b W) (i : Nat) (u : Value) : Lives k b (W.setCell ⟨b, i, none⟩ u) := by
  obtain ⟨cs, hk, t, h⟩ := h
  exact ⟨_, by simpa using hk, t, blk_set h i u⟩
theorem Lives.below {k b : Nat} {W W1 : World} (h : Lives k b W) (hb : Below W.heap.size W W1) : Lives k b W1 := by
  obtain ⟨cs, hk, t, h⟩ := h
  exact ⟨cs, hk, t, (hb.block b (blk_lt h)).trans h⟩
theorem Lives.drew {k b : Nat} {W : World} (h : Lives k b W) : Lives k b W.drew := h
theorem Lives.new (W : World) (cs : Array Value) (t : Nat) : Lives cs.size W.heap.size (W.alloc (.cells cs t)) := ⟨cs, rfl, t, by simpa using heap_alloc_new W _⟩
theorem far_set {W : World} {p : Addr} {v : Value} (h : W.cell? p = some v) (b i : Nat) (hne : b ≠ p.block) (u : Value) : (W.setCell ⟨b, i, none⟩ u).cell? p = some v := (World.cell?_setCell_far W ⟨b, i, none⟩ p u hne).trans h
theorem Lives.set4 {b : Nat} {W : World} (h : Lives 4 b W) (u0 u1 u2 u3 : Value) :
    (((((W.setCell ⟨b, 0, none⟩ u0).setCell ⟨b, 1, none⟩ u1).setCell ⟨b, 2, none⟩ u2).setCell ⟨b, 3, none⟩ u3).cell? ⟨b, 0, none⟩ = some u0 ∧ ((((W.setCell ⟨b, 0, none⟩ u0).setCell ⟨b, 1, none⟩ u1).setCell ⟨b, 2, none⟩ u2).setCell ⟨b, 3, none⟩ u3).cell? ⟨b, 1, none⟩ = some u1) ∧
    ((((W.setCell ⟨b, 0, none⟩ u0).setCell ⟨b, 1, none⟩ u1).setCell ⟨b, 2, none⟩ u2).setCell ⟨b, 3, none⟩ u3).cell? ⟨b, 2, none⟩ = some u2 ∧ ((((W.setCell ⟨b, 0, none⟩ u0).setCell ⟨b, 1, none⟩ u1).setCell ⟨b, 2, none⟩ u2).setCell ⟨b, 3, none⟩ u3).cell? ⟨b, 3, none⟩ = some u3 := by
  obtain ⟨cs, hk, t, h⟩ := h
  have h4 := blk_set (blk_set (blk_set (blk_set h 0 u0) 1 u1) 2 u2) 3 u3
  refine ⟨⟨?_, ?_⟩, ?_, ?_⟩ <;> rw [blk_cell h4] <;> simp [Array.getElem?_setIfInBounds, hk]
theorem R_old_far {α : Type} {d : Kd α} {e B b i : Nat} {w : World} {v : Value} {xs : List α} (h : d.R e w B (fun _ => True) v xs) (hb : b < B) (u : Value) : d.R e (w.setCell ⟨b, i, none⟩ u) B (fun _ => True) v xs :=
  Kd.R_mono (Kd.R_far (p := ⟨b, i, none⟩) (Kd.R_bound h) (fun k hk => by have h1 := hk.2.1; show k ≠ b; omega) u) (fun _ _ => trivial)
theorem R_old4 {α : Type} {d : Kd α} {e B b i0 i1 i2 i3 : Nat} {w : World} {v : Value} {xs : List α} (h : d.R e w B (fun _ => True) v xs) (hb : b < B) (u0 u1 u2 u3 : Value) : d.R e ((((w.setCell ⟨b, i0, none⟩ u0).setCell ⟨b, i1, none⟩ u1).setCell ⟨b, i2, none⟩ u2).setCell ⟨b, i3, none⟩ u3) B (fun _ => True) v xs :=
  R_old_far (R_old_far (R_old_far (R_old_far h hb u0) hb u1) hb u2) hb u3
theorem below_set4 {w W : World} {g i0 i1 i2 i3 : Nat} {u0 u1 u2 u3 : Value} (h : Below w.heap.size w W) (hg : w.heap.size ≤ g) : Below w.heap.size w ((((W.setCell ⟨g, i0, none⟩ u0).setCell ⟨g, i1, none⟩ u1).setCell ⟨g, i2, none⟩ u2).setCell ⟨g, i3, none⟩ u3) :=
  below_set (below_set (below_set (below_set h hg) hg) hg) hg
end Go.Proofs.YtggldnbhmebcpaaGreatDoor.L
end
section
namespace Go.Proofs.YtggldnbhmebcpaaGreatDoor.L
open Go.RowKit Go.ChangeShapes Go.WideShapes Go.Proofs.YtggldnbhmebcpaaGreatDoorW.PrintWords Go.Proofs.YtggldnbhmebcpaaGreatDoorW.PrintLast Go.Proofs.YtggldnbhmebcpaaGreatDoorW.PrintMore
attribute [local go_sem] max2_int min2_int max_two min_two max_three min_three max_four min_four
theorem nodup_len {L : List Int} {n : Nat} (hL : L.Nodup) (h : ∀ x ∈ L, 0 ≤ x ∧ x < (n : Int)) : L.length ≤ n := by
 have h1 := count_le (l := (List.range n).map (fun p : Nat => (p : Int))) hL
 rw [List.length_map, List.length_range] at h1
 have h2 : ∀ M : List Int, (∀ x ∈ M, 0 ≤ x ∧ x < (n : Int)) → M.length ≤ (M.map (fun c => ((List.range n).map (fun p : Nat => (p : Int))).count c)).sum := fun M => by
  induction M with
  | nil => intro _; exact Nat.zero_le _
  | cons a r ih =>
   intro hM
   have ha := hM a (by simp)
   have hc : 0 < ((List.range n).map (fun p : Nat => (p : Int))).count a := List.count_pos_iff.2 (List.mem_map.2 ⟨a.toNat, List.mem_range.2 (by omega), by omega⟩)
   have := ih (fun x hx => hM x (by simp [hx]))
   rw [List.map_cons, List.sum_cons, List.length_cons]
   omega
 exact Nat.le_trans (h2 L h) h1
theorem info_row : (Tryz.prog.info? 40).map (fun i => (i.zero, i.size, i.bytes)) = some (some (.slice none 0 0), 1, 24) := by kernel_rfl
def O1 (ns : List Node) (w : World) (gt ct go co : Nat) (v : Value) (i j b : Nat) (W : World) : Prop := ∃ t op, PInv ns t op i j b ∧ OM w ns.length gt ct go co v t op (leaves ns i) W
structure O2 (ns : List Node) (w : World) (gt ct go co : Nat) (v : Value) (t : List (List Int)) (op out : List Int) (i j : Nat) (W : World) : Prop where
 pars : ParsOk ns t
 len : ∀ c : Nat, c < ns.length → (row t c).length ≤ 1000000
 inv : OInv ns t op out i j
 om : OM w ns.length gt ct go co v t op out W
theorem O1.node {ns : List Node} {w W : World} {gt ct go co : Nat} {v : Value} {i : Nat} (h : O1 ns w gt ct go co v i 0 i W) (hi : i < ns.length) : (∃ x, W.cell? ⟨go, i, none⟩ = some x) ∧ W.frozen? ⟨go, i, none⟩ = false ∧ O1 ns w gt ct go co v i 0 (i + 1) (W.setCell ⟨go, i, none⟩ (.int .i64 ((nd ns i).kids.length : Int))) := by
 obtain ⟨t, op, h1, h2⟩ := h
 obtain ⟨c1, c2, c3⟩ := h2.count i hi ((nd ns i).kids.length : Int)
 exact ⟨⟨_, c1⟩, c2, t, _, by have := h1.count hi; rwa [kids_nat] at this, c3⟩
theorem O1.later {ns : List Node} {w W W1 : World} {gt ct go co : Nat} {v : Value} {i j b : Nat} (h : O1 ns w gt ct go co v i j b W) (hb : Below W.heap.size W W1) : O1 ns w gt ct go co v i j b W1 := by
 obtain ⟨t, op, h1, h2⟩ := h
 exact ⟨t, op, h1, h2.later hb⟩
theorem O1.below {ns : List Node} {w W : World} {gt ct go co : Nat} {v : Value} {i j b : Nat} (h : O1 ns w gt ct go co v i j b W) : Below w.heap.size w W := by
 obtain ⟨t, op, h1, h2⟩ := h
 exact h2.below
theorem O1.lend {ns : List Node} {w W : World} {gt ct go co : Nat} {v : Value} {i j k : Nat} (h : O1 ns w gt ct go co v i j (i + 1) W) (hi : i < ns.length) (hj : j < (nd ns i).kids.length) (hk : rd (nd ns i).kids (j : Int) = (k : Int)) (hkn : k < ns.length) :
  ∃ (A : Option Addr) (c : Nat) (r : List Int), W.cell? ⟨gt, k, none⟩ = some (.slice A r.length c) ∧ r.length ≤ pre ns i + j ∧ (Kd.int .i64).R 3 W w.heap.size (fun _ => True) (.slice A r.length c) r ∧
   ∀ (W1 : World) (v1 : Value), W.grownBy W1 (Value.slice A r.length c).ownBlock → (Kd.int .i64).R 3 W1 w.heap.size (fun _ => True) v1 (r ++ [(i : Int)]) → Below w.heap.size w W1 → (v1.ownBlock = (Value.slice A r.length c).ownBlock ∨ ∃ b, v1.ownBlock = some b ∧ W.heap.size ≤ b) →
    (∃ x, W1.cell? ⟨gt, k, none⟩ = some x) ∧ W1.frozen? ⟨gt, k, none⟩ = false ∧ O1 ns w gt ct go co v i (j + 1) (i + 1) (W1.setCell ⟨gt, k, none⟩ v1) := by
 obtain ⟨t, op, h1, h2⟩ := h
 obtain ⟨vk, hc, hR, hback⟩ := h2.lend k hkn
 obtain ⟨A, c, rfl⟩ := Kd.R_slice hR
 refine ⟨A, c, row t k, hc, h1.len k hkn, hR, fun W1 v1 hg hR1 hB hat => ?_⟩
 obtain ⟨d1, d2, hO⟩ := hback W1 v1 _ hg hR1 hB hat
 exact ⟨⟨_, d1⟩, d2, _, _, h1.edge hi (by rw [kids_nat]; exact hj) (by rw [kids_nat]; exact hk) hkn, hO⟩
theorem O1.rowDone {ns : List Node} {w W : World} {gt ct go co : Nat} {v : Value} {i : Nat} (h : O1 ns w gt ct go co v i (nd ns i).kids.length (i + 1) W) (hi : i < ns.length) : W.cell? ⟨go, i, none⟩ = some (.int .i64 ((nd ns i).kids.length : Int)) ∧
  ∃ t op, PInv ns t op (i + 1) 0 (i + 1) ∧ OM w ns.length gt ct go co v t op (leaves ns i) W := by
 obtain ⟨t, op, h1, h2⟩ := h
 have hc := (h2.count i hi 0).1
 rw [h1.op i (by omega) hi, kids_nat] at hc
 rw [← kids_nat] at h1
 exact ⟨hc, t, op, h1.node, h2⟩
theorem O1.leaf {ns : List Node} {w W : World} {gt ct go co : Nat} {v : Value} {i : Nat} (h : ∃ t op, PInv ns t op (i + 1) 0 (i + 1) ∧ OM w ns.length gt ct go co v t op (leaves ns i) W) (hk : ¬ (nd ns i).kids.length = 0) : O1 ns w gt ct go co v (i + 1) 0 (i + 1) W := by
 obtain ⟨t, op, h1, h2⟩ := h
 exact ⟨t, op, h1, by rw [leaves_succ_no (by rw [kids_nat]; exact hk)]; exact h2⟩
theorem O1.leafPush {ns : List Node} {w W W1 : World} {gt ct go co : Nat} {v v1 : Value} {i : Nat} (h : ∃ t op, PInv ns t op (i + 1) 0 (i + 1) ∧ OM w ns.length gt ct go co v t op (leaves ns i) W) (hk : (nd ns i).kids.length = 0)
  (hR : (Kd.int .i64).R 3 W1 w.heap.size (fun _ => True) v1 (leaves ns i ++ [(i : Int)])) (hB : Below w.heap.size w W1) (hg : W.grownBy W1 v.ownBlock) (hat : v1.ownBlock = v.ownBlock ∨ ∃ b, v1.ownBlock = some b ∧ W.heap.size ≤ b) : O1 ns w gt ct go co v1 (i + 1) 0 (i + 1) W1 := by
 obtain ⟨t, op, h1, h2⟩ := h
 exact ⟨t, op, h1, by rw [leaves_succ_yes (by rw [kids_nat]; exact hk)]; exact h2.push hR hB hg hat⟩
theorem O1.last {ns : List Node} {w W : World} {gt ct go co : Nat} {v : Value} (h : O1 ns w gt ct go co v ns.length 0 ns.length W) (hM : rows ns ≤ 1000000) : ∃ t op, O2 ns w gt ct go co v t op (leaves ns ns.length) 0 0 W := by
 obtain ⟨t, op, h1, h2⟩ := h
 exact ⟨t, op, h1.pars, fun c hc => Nat.le_trans (h1.len c hc) (Nat.le_trans (pre_le (Nat.le_refl _)) hM), h1.ends, h2⟩
section
variable {ns : List Node} {w W W1 : World} {gt ct go co : Nat} {v v1 : Value} {t : List (List Int)} {op out : List Int} {i j : Nat}
theorem O2.row_at (h : O2 ns w gt ct go co v t op out i j W) (c : Nat) (hc : c < ns.length) : ∃ A c', W.cell? ⟨gt, c, none⟩ = some (.slice A (row t c).length c') ∧ (Kd.int .i64).C W A (row t c).length (row t c) := grid_read h.om.tab c hc
theorem O2.gt_ne (h : O2 ns w gt ct go co v t op out i j W) : gt < W.heap.size ∧ gt ≠ go ∧ some gt ≠ v.ownBlock := ⟨Kd.S_lt h.om.tab gt rfl, (Kd.S_R h.om.tab).1 gt rfl⟩
theorem O2.cnt (h : O2 ns w gt ct go co v t op out i j W) {p : Nat} (hi : i < out.length) (hj : j < (rowOf t (rd out (i : Int))).length) (hp : rd (rowOf t (rd out (i : Int))) (j : Int) = (p : Int)) (hpn : p < ns.length) : 1 ≤ rd op (p : Int) ∧ rd op (p : Int) ≤ ((kids ns p).length : Int) := by
 have h1 := h.inv.next_le h.pars hi hj hp hpn
 have h2 := h.inv.op p hpn
 omega
theorem O2.strike (h : O2 ns w gt ct go co v t op out i j W) {p : Nat} (hi : i < out.length) (hj : j < (rowOf t (rd out (i : Int))).length) (hp : rd (rowOf t (rd out (i : Int))) (j : Int) = (p : Int)) (hpn : p < ns.length) (hne : ¬ rd op (p : Int) - 1 = 0) :
  O2 ns w gt ct go co v t (op.set p (rd op (p : Int) - 1)) out i (j + 1) (W.setCell ⟨go, p, none⟩ (.int .i64 (rd op (p : Int) - 1))) :=
 ⟨h.pars, h.len, h.inv.strike h.pars hi hj hp hpn hne, (h.om.count p hpn _).2.2⟩
theorem O2.free (h : O2 ns w gt ct go co v t op out i j W) {p : Nat} (hi : i < out.length) (hj : j < (rowOf t (rd out (i : Int))).length) (hp : rd (rowOf t (rd out (i : Int))) (j : Int) = (p : Int)) (hpn : p < ns.length) (hz : rd op (p : Int) - 1 = 0)
  (hR : (Kd.int .i64).R 3 W1 w.heap.size (fun _ => True) v1 (out ++ [(p : Int)])) (hB : Below w.heap.size w W1) (hg : (W.setCell ⟨go, p, none⟩ (.int .i64 (rd op (p : Int) - 1))).grownBy W1 v.ownBlock) (hat : v1.ownBlock = v.ownBlock ∨ ∃ b, v1.ownBlock = some b ∧ (W.setCell ⟨go, p, none⟩ (.int .i64 (rd op (p : Int) - 1))).heap.size ≤ b) :
  O2 ns w gt ct go co v1 t (op.set p (rd op (p : Int) - 1)) (out ++ [(p : Int)]) i (j + 1) W1 :=
 ⟨h.pars, h.len, h.inv.free h.pars hi hj hp hpn hz, (h.om.count p hpn _).2.2.push hR hB hg hat⟩
end
structure O3 (ns : List Node) (w : World) (gt ct go co : Nat) (Ar : Option Addr) (cr c0 : Nat) (v : Value) (t : List (List Int)) (op out : List Int) (i j : Nat) (W : World) : Prop where
 o : O2 ns w gt ct go co v t op out i j W
 at_ : rd out (i : Int) = (c0 : Int)
 lt : i < out.length
 cell : W.cell? ⟨gt, c0, none⟩ = some (.slice Ar (row t c0).length cr)
section
variable {ns : List Node} {w W W1 : World} {gt ct go co : Nat} {Ar : Option Addr} {cr c0 : Nat} {v v1 : Value} {t : List (List Int)} {op out : List Int} {i j : Nat}
theorem O3.eq (h : O3 ns w gt ct go co Ar cr c0 v t op out i j W) : rowOf t (rd out (i : Int)) = row t c0 := by rw [h.at_, rowOf_nat]
theorem O3.reads (h : O3 ns w gt ct go co Ar cr c0 v t op out i j W) (hc : c0 < ns.length) : (Kd.int .i64).C W Ar (row t c0).length (row t c0) := by
 obtain ⟨A, c', h1, h2⟩ := h.o.row_at c0 hc
 rw [h.cell] at h1
 injection h1 with h1
 injection h1 with h1
 rw [h1]; exact h2
theorem O3.strike (h : O3 ns w gt ct go co Ar cr c0 v t op out i j W) {p : Nat} (hj : j < (row t c0).length) (hp : rd (row t c0) (j : Int) = (p : Int)) (hpn : p < ns.length) (hne : ¬ rd op (p : Int) - 1 = 0) :
  O3 ns w gt ct go co Ar cr c0 v t (op.set p (rd op (p : Int) - 1)) out i (j + 1) (W.setCell ⟨go, p, none⟩ (.int .i64 (rd op (p : Int) - 1))) :=
 ⟨h.o.strike h.lt (by rw [h.eq]; exact hj) (by rw [h.eq]; exact hp) hpn hne, h.at_, h.lt, far_set h.cell _ _ (Ne.symm h.o.gt_ne.2.1) _⟩
theorem O3.free (h : O3 ns w gt ct go co Ar cr c0 v t op out i j W) {p : Nat} (hj : j < (row t c0).length) (hp : rd (row t c0) (j : Int) = (p : Int)) (hpn : p < ns.length) (hz : rd op (p : Int) - 1 = 0)
  (hR : (Kd.int .i64).R 3 W1 w.heap.size (fun _ => True) v1 (out ++ [(p : Int)])) (hB : Below w.heap.size w W1) (hg : (W.setCell ⟨go, p, none⟩ (.int .i64 (rd op (p : Int) - 1))).grownBy W1 v.ownBlock) (hat : v1.ownBlock = v.ownBlock ∨ ∃ b, v1.ownBlock = some b ∧ (W.setCell ⟨go, p, none⟩ (.int .i64 (rd op (p : Int) - 1))).heap.size ≤ b) :
  O3 ns w gt ct go co Ar cr c0 v1 t (op.set p (rd op (p : Int) - 1)) (out ++ [(p : Int)]) i (j + 1) W1 := by
 refine ⟨h.o.free h.lt (by rw [h.eq]; exact hj) (by rw [h.eq]; exact hp) hpn hz hR hB hg hat, ?_, by rw [List.length_append]; have := h.lt; omega, ?_⟩
 ·rw [← h.at_]
  unfold rd
  rw [Int.toNat_natCast, List.getD_eq_getElem?_getD, List.getD_eq_getElem?_getD, List.getElem?_append_left h.lt]
 ·have h1 := far_set h.cell go p (Ne.symm h.o.gt_ne.2.1) (.int .i64 (rd op (p : Int) - 1))
  rw [← h1]
  unfold World.cell?
  rw [hg.block gt (by have := h.o.gt_ne.1; simpa using this) h.o.gt_ne.2.2]
theorem O3.next (h : O3 ns w gt ct go co Ar cr c0 v t op out i (row t c0).length W) : O2 ns w gt ct go co v t op out (i + 1) 0 W :=
 ⟨h.o.pars, h.o.len, OInv.row (by have := h.o.inv; rwa [← h.eq] at this) h.lt, h.o.om⟩
end
theorem O1.start {ns : List Node} {w w1 w2 : World} {gt ct go co : Nat} (hS : Kd.S kGrid 40 w1 w.heap.size (fun _ => True) (.slice (some ⟨gt, 0, none⟩) ns.length ct) (List.replicate ns.length [])) (hR : (Kd.int .i64).R 3 w2 w.heap.size (fun _ => True) (.slice (some ⟨go, 0, none⟩) ns.length co) (List.replicate ns.length 0))
  (hg : w1.grownBy w2 none) (hgo : w1.heap.size ≤ go) (hB : Below w.heap.size w w2) : O1 ns w gt ct go co (.slice none 0 0) 0 0 0 w2 :=
 ⟨_, _, PInv.start ns, Kd.S_mono (Kd.S_grown (Kd.S_bound hS) hg (fun q _ => by simp)) (fun q hq => ⟨by have := hq.2.2.1; omega, by simp [Value.ownBlock]⟩), hR, Kd.R_nil _ _ _ _ _, fun q hq => by simp [Value.ownBlock] at hq, hB⟩
set_option maxRecDepth 100000 in
set_option maxHeartbeats 8000000 in
theorem order_any (A : Option Addr) (c : Nat) (s : Scene) (w : World) (h : kNode.C w A s.nodes.length s.nodes) (hp : Places s.nodes) (hn : 0 < s.nodes.length) (hM : rows s.nodes ≤ 1000000) :
  Calls Tryz.prog 79 #[.agg #[.slice A s.nodes.length c, .int .i64 s.root]] w fun e w' => ∃ L A c, e = .returned (.slice A (L : List Int).length c) ∧ Topo s.nodes L ∧ (Kd.int .i64).R 3 w' w.heap.size (fun _ => True) (.slice A L.length c) L ∧ Below w.heap.size w w' := by
 have HR := Aside0.mk h
 have HP := Aside0.mk hp
 have HM := Aside0.mk hM
 have hnM : s.nodes.length ≤ 1000000 := by
  have h1 : ∀ i, i ≤ pre s.nodes i := fun i => by
   induction i with
   | zero => exact Nat.zero_le _
   | succ i ih => rw [pre_succ, wt]; omega
  exact Nat.le_trans (h1 _) hM
 have HB := Aside0.mk (Below.refl w.heap.size w)
 clear h hp hM
 have HX := Aside0.mk (show (w.alloc (.cells #[.slice A s.nodes.length c, .int .i64 s.root] 24)).heap[w.heap.size]? = some (.cells #[.slice A s.nodes.length c, .int .i64 s.root] 24 (0, 0)) from by simpa using heap_alloc_new w _)
 go_enter Tryz.func79, Tryz.ntmps79
 go_wp2_with (first
  | (refine Kd.S_make kGrid (w0 := w) w.heap.size 40 rfl (N := 16) rfl 87 _ _ rfl (s.nodes.length : Int) rfl rfl Tryz.underlying87 (.slice none 0 0) 24 info_row rfl (by decide) (by omega) [] (ok := fun _ => True) (okp := fun _ => True) ⟨_, rfl, Kd.R_nil _ _ _ _ _⟩ (fun _ hk => hk) trivial (by omega) (by omega) (below_alloc HB.out _) (below_alloc HB.out _).size ?_; intro v1 w1 ho hb1 hg1 _; rw [Int.toNat_natCast] at ho; obtain ⟨gt, ct, hv1, -, hgt, -⟩ := Kd.S_form ho (by rw [List.length_replicate]; exact hn); rw [List.length_replicate] at hv1; subst hv1; have HO := Aside0.mk ho; have HB1 := Aside0.mk hb1; have HX1 := Aside0.mk (blk_grown HX.out hg1 (by simp)); have hbx : w1.cell? ⟨w.heap.size, 0, none⟩ = some (.slice A s.nodes.length c) := (blk_cell HX1.out 0).trans rfl; clear ho hb1 hg1)
  | (refine Kd.R_make (Kd.int .i64) (w0 := w) w.heap.size 3 rfl (N := 20) rfl 40 _ _ rfl (s.nodes.length : Int) rfl rfl Tryz.underlying40 (.int .i64 0) 8 info_int rfl (by decide) (by omega) 0 (ok := fun _ => True) (okp := fun _ => True) rfl (fun _ hk => hk) trivial (by omega) (by omega) HB1.out HB1.out.size ?_; intro v2 w2 ho2 hb2 hg2 hn2; rw [Int.toNat_natCast] at ho2; obtain ⟨go, co, hv2, -, hgo, -⟩ := Kd.R_form ho2 (by rw [List.length_replicate]; exact hn); rw [List.length_replicate] at hv2; subst hv2; have HI := Aside0.mk (O1.start HO.out ho2 hg2 (by obtain ⟨b, h1, h2⟩ := hn2; simp [Value.ownBlock] at h1; omega) hb2); have hbx2 : w2.cell? ⟨w.heap.size, 0, none⟩ = some (.slice A s.nodes.length c) := (blk_cell (blk_grown HX1.out hg2 (by simp)) 0).trans rfl; clear ho2 hb2 hg2 hn2 hbx))
 clear HO HB1 HX1 hgt hgo hbx2
 go_loopw [5, 24] (fun v5 v24 W => ∃ i : Nat, i ≤ s.nodes.length ∧ v24 = .int .i64 i ∧ Aside0 (O1 s.nodes w gt ct go co v5 i 0 i W)) (fun _ v24 _ => s.nodes.length - (intOf v24).toNat)
 case atStart => exact ⟨0, by omega, rfl, HI⟩
 case round =>
  clear HI
  obtain ⟨i, hi, rfl, HI⟩ := hrel
  by_cases hlt : i < s.nodes.length
  ·obtain ⟨adn, A1, c1, A2, c2, A3, c3, rfl, x0, x1, x2, x3, hN⟩ := at_node HR.out i hlt
   replace x0 := pw_cell_below HI.out.below x0
   replace x1 := pw_cell_below HI.out.below x1
   replace x2 := pw_cell_below HI.out.below x2
   replace x3 := pw_cell_below HI.out.below x3
   have HN := Aside0.mk hN.k
   have hlen : (nd s.nodes i).kids.length ≤ 1000000 := by
    have h1 := pre_succ s.nodes i
    have h2 := pre_le (ns := s.nodes) (i := i + 1) (by omega)
    have := HM.out
    rw [wt] at h1
    omega
   obtain ⟨⟨x, hcx⟩, hfx, -⟩ := (HI.out.later (below_alloc (Below.refl _ _) (.cells #[.int .i64 (nd s.nodes i).kind, .slice A1 (nd s.nodes i).ints.length c1, .slice A2 (nd s.nodes i).texts.length c2, .slice A3 (nd s.nodes i).kids.length c3] 42))).node hlt
   have HI1 := Aside0.mk ((HI.out.node hlt).2.2.later (below_alloc (Below.refl _ _) (.cells #[.int .i64 (nd s.nodes i).kind, .slice A1 (nd s.nodes i).ints.length c1, .slice A2 (nd s.nodes i).texts.length c2, .slice A3 (nd s.nodes i).kids.length c3] 42)))
   have hgo : go < wr.heap.size := by obtain ⟨_, _, _, h⟩ := HI.out; exact h.go_lt
   have hbk : ((wr.alloc (.cells #[.int .i64 (nd s.nodes i).kind, .slice A1 (nd s.nodes i).ints.length c1, .slice A2 (nd s.nodes i).texts.length c2, .slice A3 (nd s.nodes i).kids.length c3] 42)).setCell ⟨go, i, none⟩ (.int .i64 ((nd s.nodes i).kids.length : Int))).cell? ⟨wr.heap.size, 3, none⟩ = some (.slice A3 (nd s.nodes i).kids.length c3) := far_set (box_cell _ _ rfl _ _ 3 _ rfl) _ _ (by show go ≠ wr.heap.size; omega) _
   clear hN
   go_wp2
   clear hbk hfx hcx
   generalize (wr.setCell ⟨go, i, none⟩ (.int .i64 ((nd s.nodes i).kids.length : Int))).alloc (.cells #[.int .i64 (nd s.nodes i).kind, .slice A1 (nd s.nodes i).ints.length c1, .slice A2 (nd s.nodes i).texts.length c2, .slice A3 (nd s.nodes i).kids.length c3] 42) = W1 at HI1 ⊢
   go_loopw [38] (fun v38 W => ∃ j : Nat, j ≤ (nd s.nodes i).kids.length ∧ v38 = .int .i64 j ∧ Aside0 (O1 s.nodes w gt ct go co u5 i j (i + 1) W)) (fun v38 _ => (nd s.nodes i).kids.length - (intOf v38).toNat)
   case atStart => exact ⟨0, by omega, rfl, HI1⟩
   case round =>
    clear HI HI1 x0 x1 x2 x3
    obtain ⟨j, hj, rfl, HJ⟩ := hrel
    by_cases hjl : j < (nd s.nodes i).kids.length
    ·obtain ⟨adk, rfl, hxk⟩ := at_nat (Kd.C_below HN.out HJ.out.below) j hjl
     have HQ := Aside0.mk (HP.out i hlt _ (rd_mem hjl))
     obtain ⟨k, hk⟩ : ∃ k : Nat, rd (nd s.nodes i).kids (j : Int) = (k : Int) := ⟨(rd (nd s.nodes i).kids (j : Int)).toNat, by have := HQ.out.1; omega⟩
     have hkn : k < s.nodes.length := by have := HQ.out.2; omega
     obtain ⟨Ak, ck, r, hck, hrl, hrR, hback⟩ := HJ.out.lend hlt hjl hk hkn
     have HRow := Aside0.mk hrR
     have HBack := Aside0.mk hback
     have hrl2 : r.length ≤ 1000000 := by
      have h2 := pre_succ s.nodes i
      have h3 := pre_le (ns := s.nodes) (i := i + 1) (by omega)
      have := HM.out
      rw [wt] at h2
      omega
     rw [hk] at hxk
     clear hk hrR hback hrl
     go_wp2_with (at_builtin; refine Kd.R_append (Kd.int .i64) (w0 := w) w.heap.size rfl (.tmp 47) (.tmp 49) 40 3 (.int .i64 0) 8 rfl Tryz.underlying40 info_int rfl (by decide) (by omega) (.slice Ak r.length ck) r (i : Int) [.int .i64 (i : Int)] (fun _ => True) (fun _ => False) rfl (by go_simp) rfl (fun _ h => h.elim) (fun _ _ => trivial) HRow.out HJ.out.below HJ.out.below.size (by omega) ?_; intro v2 w2 hR2 hB2 hg2 hat2; obtain ⟨A2', c2', rfl⟩ := Kd.R_slice hR2; obtain ⟨⟨x2, hx2⟩, hf2, hO2⟩ := HBack.out w2 _ hg2 hR2 hB2 hat2; simp only [List.length_append, List.length_singleton] at hO2; have HO2 := Aside0.mk hO2; clear hR2 hB2 hg2 hat2 hO2)
     go_roundw
     case rel => exact ⟨j + 1, by omega, by go_num, HO2⟩
     case measure => simp [intOf]; omega
    ·obtain rfl : j = (nd s.nodes i).kids.length := by omega
     obtain ⟨hz, hO⟩ := HJ.out.rowDone hlt
     have HO := Aside0.mk hO
     clear hO
     by_cases h0 : (nd s.nodes i).kids.length = 0
     ·have hz1 : (((nd s.nodes i).kids.length : Int) == 0) = true := by simp [h0]
      have HZ := Aside0.mk h0
      have hRo : (Kd.int .i64).R 3 wr w.heap.size (fun _ => True) u5 (leaves s.nodes i) := by obtain ⟨_, _, _, h⟩ := HO.out; exact h.out
      obtain ⟨Ao, ao, rfl⟩ := Kd.R_slice hRo
      have HRo := Aside0.mk hRo
      have hll := leaves_len s.nodes i
      clear h0 hRo
      go_wp2_with (at_builtin; refine Kd.R_append (Kd.int .i64) (w0 := w) w.heap.size rfl (.tmp 58) (.tmp 60) 40 3 (.int .i64 0) 8 rfl Tryz.underlying40 info_int rfl (by decide) (by omega) (.slice Ao (leaves s.nodes i).length ao) (leaves s.nodes i) (i : Int) [.int .i64 (i : Int)] (fun _ => True) (fun _ => False) rfl (by go_simp) rfl (fun _ h => h.elim) (fun _ _ => trivial) HRo.out HJ.out.below HJ.out.below.size (by omega) ?_; intro v2 w2 hR2 hB2 hg2 hat2; have HO2 := Aside0.mk (O1.leafPush HO.out HZ.out hR2 hB2 hg2 hat2); clear hR2 hB2 hg2 hat2)
      go_roundw
      case rel => exact ⟨i + 1, by omega, by go_num, HO2⟩
      case measure => simp [intOf]; omega
     ·have hz1 : (((nd s.nodes i).kids.length : Int) == 0) = false := by simp [h0]
      have HO2 := Aside0.mk (O1.leaf HO.out h0)
      clear h0
      go_wp2
      go_roundw
      case rel => exact ⟨i + 1, by omega, by go_num, HO2⟩
      case measure => simp [intOf]; omega
  ·obtain rfl : i = s.nodes.length := by omega
   obtain ⟨t, op, hO⟩ := HI.out.last HM.out
   have HO := Aside0.mk hO
   clear HI hO
   go_wp2
   go_loopw [5, 10] (fun v5 v10 W => ∃ (i : Nat) (op out : List Int), v10 = .int .i64 i ∧ Aside0 (O2 s.nodes w gt ct go co v5 t op out i 0 W)) (fun _ v10 _ => s.nodes.length - (intOf v10).toNat)
   case atStart => exact ⟨0, _, _, rfl, HO⟩
   case round =>
    clear HO
    obtain ⟨i, op, out, rfl, HO⟩ := hrel
    obtain ⟨Ao, ao, rfl⟩ := Kd.R_slice HO.out.om.out
    have hon := nodup_len HO.out.inv.nd HO.out.inv.pl
    by_cases hil : i < out.length
    ·have hro := Kd.R_reads' HO.out.om.out
     obtain ⟨ado, rfl, hxo⟩ := at_nat hro.2.2 i hil
     have HQ := Aside0.mk (HO.out.inv.pl _ (rd_mem hil))
     obtain ⟨c0, hc0⟩ : ∃ k : Nat, rd out (i : Int) = (k : Int) := ⟨(rd out (i : Int)).toNat, by have := HQ.out.1; omega⟩
     have hcn : c0 < s.nodes.length := by have := HQ.out.2; omega
     obtain ⟨Ar, cr, hrc, hrC⟩ := HO.out.row_at c0 hcn
     have HO3 := Aside0.mk (O3.mk HO.out hc0 hil hrc)
     have hrl := HO.out.len c0 hcn
     rw [hc0] at hxo
     clear hro hc0 hrC
     go_wp2
     go_loopw [5, 77] (fun v5 v77 W => ∃ (j : Nat) (op out : List Int), v77 = .int .i64 j ∧ j ≤ (row t c0).length ∧ Aside0 (O3 s.nodes w gt ct go co Ar cr c0 v5 t op out i j W)) (fun _ v77 _ => (row t c0).length - (intOf v77).toNat)
     case atStart => exact ⟨0, _, _, rfl, by omega, HO3⟩
     case round =>
      clear HO HO3 hxo hrc hon hil
      obtain ⟨j, op1, out1, rfl, hj, HO⟩ := hrel
      obtain ⟨Ap, ap, rfl⟩ := Kd.R_slice HO.out.o.om.out
      by_cases hjl : j < (row t c0).length
      ·obtain ⟨adr, rfl, hxr⟩ := at_nat (HO.out.reads hcn) j hjl
       have HQ := Aside0.mk (HO.out.o.pars.2.1 c0 hcn (rd (row t c0) (j : Int)) (by rw [rowOf_nat]; exact rd_mem hjl))
       obtain ⟨p, hp⟩ : ∃ k : Nat, rd (row t c0) (j : Int) = (k : Int) := ⟨(rd (row t c0) (j : Int)).toNat, by have := HQ.out.1; omega⟩
       have hpn : p < s.nodes.length := by have := HQ.out.2; omega
       have hcnt := HO.out.o.cnt HO.out.lt (by rw [HO.out.eq]; exact hjl) (by rw [HO.out.eq]; exact hp) hpn
       have hkl : (kids s.nodes p).length ≤ 1000000 := by
        have h1 := pre_succ s.nodes p
        have h2 := pre_le (ns := s.nodes) (i := p + 1) (by omega)
        have := HM.out
        rw [wt] at h1
        rw [kids_nat]
        omega
       obtain ⟨k1, k2, -⟩ := HO.out.o.om.count p hpn (rd op1 (p : Int) - 1)
       have hon := nodup_len HO.out.o.inv.nd HO.out.o.inv.pl
       have HP2 := Aside0.mk hp
       rw [hp] at hxr
       clear hp
       by_cases hz : rd op1 (p : Int) - 1 = 0
       ·have hz1 : (rd op1 (p : Int) - 1 == 0) = true := by simpa using hz
        have HZ := Aside0.mk hz
        have HF := Aside0.mk (HO.out.o.om.count p hpn (rd op1 (p : Int) - 1)).2.2
        have HG := Aside0.mk (fun W1 v1 hR hB hg hat => HO.out.free (W1 := W1) (v1 := v1) hjl HP2.out hpn HZ.out hR hB hg hat)
        clear hz
        go_wp2_with (at_builtin; refine Kd.R_append (Kd.int .i64) (w0 := w) w.heap.size rfl (.tmp 92) (.tmp 94) 40 3 (.int .i64 0) 8 rfl Tryz.underlying40 info_int rfl (by decide) (by omega) (.slice Ap out1.length ap) out1 (p : Int) [.int .i64 (p : Int)] (fun _ => True) (fun _ => False) rfl (by go_simp) rfl (fun _ h => h.elim) (fun _ _ => trivial) HF.out.out HF.out.below HF.out.below.size (by omega) ?_; intro v3 w3 hR3 hB3 hg3 hat3; have HN := Aside0.mk (HG.out _ _ hR3 hB3 hg3 hat3); clear hR3 hB3 hg3 hat3)
        go_roundw
        case rel => exact ⟨j + 1, _, _, by go_num, by omega, HN⟩
        case measure => simp [intOf]; omega
       ·have hz1 : (rd op1 (p : Int) - 1 == 0) = false := by simpa using hz
        have HN := Aside0.mk (HO.out.strike hjl HP2.out hpn hz)
        clear hz
        go_wp2
        go_roundw
        case rel => exact ⟨j + 1, _, _, by go_num, by omega, HN⟩
        case measure => simp [intOf]; omega
      ·obtain rfl : j = (row t c0).length := by omega
       have HN := Aside0.mk HO.out.next
       have hon := nodup_len HO.out.o.inv.nd HO.out.o.inv.pl
       have hlt := HO.out.lt
       go_wp2
       go_roundw
       case rel => exact ⟨i + 1, _, _, by go_num, HN⟩
       case measure => simp [intOf]; omega
    ·have HT := Aside0.mk (OInv.topo HO.out.pars HO.out.inv (by omega))
     go_wp2
     go_ret
     exact ⟨_, _, _, rfl, HT.out, HO.out.om.out, HO.out.om.below⟩
end Go.Proofs.YtggldnbhmebcpaaGreatDoor.L
end
section
namespace Go.Proofs.YtggldnbhmebcpaaGreatDoor.L
open Go.RowKit Go.ChangeShapes Go.WideShapes Go.Proofs.YtggldnbhmebcpaaGreatDoorW.PrintWords Go.Proofs.YtggldnbhmebcpaaGreatDoorW.PrintLast Go.Proofs.YtggldnbhmebcpaaGreatDoorW.PrintMore
attribute [local go_sem] max2_int min2_int max_two min_two max_three min_three max_four min_four
theorem range_in {L : List Int} {n : Nat} (hL : L.Nodup) (h : ∀ x ∈ L, 0 ≤ x ∧ x < (n : Int)) (hl : n ≤ L.length) (p : Nat) (hp : p < n) : (p : Int) ∈ L := by
  apply Classical.byContradiction
  intro hn
  have := nodup_len (n := n) (L := L ++ [(p : Int)]) (List.nodup_append.2 ⟨hL, by simp, fun a ha b hb e => by rw [List.mem_singleton.1 hb] at e; exact hn (e ▸ ha)⟩) (fun x hx => by
    rcases List.mem_append.1 hx with hx | hx
    · exact h x hx
    · rw [List.mem_singleton.1 hx]; omega)
  rw [List.length_append, List.length_singleton] at this
  omega
theorem Topo.whole {ns : List Node} {L : List Int} (h : Topo ns L) (hl : ¬ L.length < ns.length) (p : Nat) (hp : p < ns.length) : ¬ Cyc ns p := h.acyclic (range_in h.nd h.pl (by omega)) p hp
theorem Topo.part {ns : List Node} {L : List Int} (hP : Places ns) (h : Topo ns L) (hl : L.length < ns.length) : ¬ ∀ p : Nat, p < ns.length → ¬ Cyc ns p := fun hc => by
  have h1 := h.cyclic hP hc
  have h2 := count_sum h.nd ((List.range ns.length).map (fun p : Nat => (p : Int)))
  have h3 : (((List.range ns.length).map (fun p : Nat => (p : Int))).filter (fun x => L.contains x)) = (List.range ns.length).map (fun p : Nat => (p : Int)) := List.filter_eq_self.2 (fun x hx => by
    obtain ⟨q, hq, rfl⟩ := List.mem_map.1 hx
    simpa using h1 q (List.mem_range.1 hq))
  rw [h3, List.length_map, List.length_range] at h2
  have h4 : ∀ M : List Int, (M.map (fun c => ((List.range ns.length).map (fun p : Nat => (p : Int))).count c)).sum ≤ M.length := fun M => by
    induction M with
    | nil => exact Nat.le_refl _
    | cons a r ih =>
      have hnd : ((List.range ns.length).map (fun p : Nat => (p : Int))).Nodup := List.Pairwise.map _ (fun a b hab h => hab (by omega)) List.nodup_range
      have := List.nodup_iff_count.1 hnd a
      rw [List.map_cons, List.sum_cons, List.length_cons]
      omega
  have := h4 L
  omega
theorem visF_bool {vs : List Int} {l : List Int} {ns : List Node} (h : ∀ k, k ∈ vs ↔ Rch ns l k) {x : Int} {y : Bool} (hy : y = true ↔ Rch ns l x) : (visF vs (.int .i64 x)).getD (.bool false) = .bool y := by
  cases y
  · exact visF_out (fun hm => by have := hy.2 ((h x).1 hm); cases this)
  · exact visF_in ((h x).2 (hy.1 rfl))
theorem bool_of (p : Prop) : ∃ y : Bool, y = true ↔ p := by
  by_cases h : p
  · exact ⟨true, fun _ => h, fun _ => rfl⟩
  · exact ⟨false, (fun h' => by cases h'), fun h' => absurd h' h⟩
theorem kids_len {ns : List Node} {i : Nat} (hi : i < ns.length) : (nd ns i).kids.length ≤ rows ns := by
  have h1 := pre_succ ns i
  have h2 := pre_le (ns := ns) (i := i + 1) (by omega)
  rw [wt] at h1
  omega
def CheckPost (s : Scene) (w : World) (e : Ending) (w' : World) : Prop := e = .returned (.tuple #[.int .i64 (gcheck s).1, .int .i64 (gcheck s).2]) ∧ Below w.heap.size w w'
theorem gcheck_root {s : Scene} (h : s.root < 0 ∨ (s.nodes.length : Int) ≤ s.root) : gcheck s = (13, -1) := by unfold gcheck; rw [if_pos h]
theorem gcheck_refs {s : Scene} (h0 : ¬ (s.root < 0 ∨ (s.nodes.length : Int) ≤ s.root)) (h : 0 ≤ refsAt s.nodes) : gcheck s = (13, refsAt s.nodes) := by unfold gcheck; rw [if_neg h0, if_pos h]
theorem gcheck_cyc {s : Scene} (h0 : ¬ (s.root < 0 ∨ (s.nodes.length : Int) ≤ s.root)) (h : ¬ 0 ≤ refsAt s.nodes) {k : Nat} (hk : k < s.nodes.length) (hn : ∀ j, j < k → ¬ Cyc s.nodes (j : Int)) (hc : Cyc s.nodes (k : Int)) : gcheck s = (14, (k : Int)) := by
  have e : cycAt s.nodes = (k : Int) := by unfold cycAt; rw [firstP_at _ 0 k hk (fun j hj => by simpa using hn j hj) (by simpa using hc)]; simp
  unfold gcheck
  rw [if_neg h0, if_neg h, e, if_pos (by omega)]
theorem gcheck_loose {s : Scene} (h0 : ¬ (s.root < 0 ∨ (s.nodes.length : Int) ≤ s.root)) (h : ¬ 0 ≤ refsAt s.nodes) (hc : ∀ j : Nat, j < s.nodes.length → ¬ Cyc s.nodes (j : Int)) {k : Nat} (hk : k < s.nodes.length) (hn : ∀ j : Nat, j < k → Rch s.nodes [s.root] (j : Int)) (hl : ¬ Rch s.nodes [s.root] (k : Int)) : gcheck s = (15, (k : Int)) := by
  have e1 : cycAt s.nodes = -1 := by unfold cycAt; exact firstP_no _ _ (fun j hj => by simpa using hc j hj)
  have e : looseAt s = (k : Int) := by unfold looseAt; rw [firstP_at _ 0 k hk (fun j hj => by simpa using hn j hj) (by simpa using hl)]; simp
  unfold gcheck
  rw [if_neg h0, if_neg h, e1, if_neg (by omega), e, if_pos (by omega)]
theorem gcheck_ok {s : Scene} (h0 : ¬ (s.root < 0 ∨ (s.nodes.length : Int) ≤ s.root)) (h : ¬ 0 ≤ refsAt s.nodes) (hc : ∀ j : Nat, j < s.nodes.length → ¬ Cyc s.nodes (j : Int)) (hn : ∀ j : Nat, j < s.nodes.length → Rch s.nodes [s.root] (j : Int)) : gcheck s = (0, 0) :=
  gcheck_zero ⟨by omega, by omega, Places.of_refs ((refsAt_lt _).resolve_right h), hc, hn⟩
theorem ret_two {a b c d : Int} (h : (a, b) = (c, d)) : Ending.returned (.tuple #[.int .i64 a, .int .i64 b]) = .returned (.tuple #[.int .i64 c, .int .i64 d]) := by rw [(Prod.mk.inj h).1, (Prod.mk.inj h).2]
set_option maxRecDepth 100000 in
set_option maxHeartbeats 8000000 in
theorem gcheck_any (A : Option Addr) (c : Nat) (s : Scene) (w : World) (h : kNode.C w A s.nodes.length s.nodes) (hM : rows s.nodes ≤ 400000) :
    Calls Tryz.prog 42 #[.agg #[.slice A s.nodes.length c, .int .i64 s.root]] w (CheckPost s w) := by
  have HR := Aside0.mk h
  have HM := Aside0.mk hM
  have b0 := h.2.1
  have HB := Aside0.mk (below_alloc (Below.refl w.heap.size w) (.cells #[.slice A s.nodes.length c, .int .i64 s.root] 24))
  have HC0 := Aside0.mk (And.intro (box_cell w _ rfl #[.slice A s.nodes.length c, .int .i64 s.root] 24 0 _ rfl) (box_cell w _ rfl #[.slice A s.nodes.length c, .int .i64 s.root] 24 1 _ rfl))
  have hu := Tryz.underlying24
  clear h hM
  by_cases hr1 : s.root < 0
  · have HE := Aside0.mk (gcheck_root (.inl hr1))
    have d1 : decide (s.root < 0) = true := decide_eq_true hr1
    clear hr1
    go_enter Tryz.func42, Tryz.ntmps42
    go_wp2
    go_ret2
    exact ⟨ret_two HE.out.symm, by repeat (first | with_reducible exact HB.out | with_reducible apply below_alloc | with_reducible apply pw_below_drewN | with_reducible apply below_drew1 | (with_reducible refine below_set ?_ (by first | omega | (simp; omega))))⟩
  have d1 : decide (s.root < 0) = false := decide_eq_false hr1
  by_cases hr2 : (s.nodes.length : Int) ≤ s.root
  · have HE := Aside0.mk (gcheck_root (.inr hr2))
    have d2 : decide ((s.nodes.length : Int) ≤ s.root) = true := decide_eq_true hr2
    clear hr1 hr2
    go_enter Tryz.func42, Tryz.ntmps42
    go_wp2
    go_ret2
    exact ⟨ret_two HE.out.symm, by repeat (first | with_reducible exact HB.out | with_reducible apply below_alloc | with_reducible apply pw_below_drewN | with_reducible apply below_drew1 | (with_reducible refine below_set ?_ (by first | omega | (simp; omega))))⟩
  have d2 : decide ((s.nodes.length : Int) ≤ s.root) = false := decide_eq_false hr2
  have H0 : Aside0 (¬ (s.root < 0 ∨ (s.nodes.length : Int) ≤ s.root)) := ⟨fun h => by omega⟩
  have hn0 : 0 < s.nodes.length := by omega
  clear hr1 hr2
  go_enter Tryz.func42, Tryz.ntmps42
  go_wp2_with fail
  refine (refs_any A c s _ (Kd.C_below HR.out HB.out)).mono ?_
  rintro e w1 ⟨rfl, hB1⟩
  have HB1 := Aside0.mk (below_step HB.out hB1)
  have HC1 := Aside0.mk (And.intro (pw_cell_below hB1 HC0.out.1) (pw_cell_below hB1 HC0.out.2))
  clear hB1
  by_cases hf : 0 ≤ refsAt s.nodes
  · have HE := Aside0.mk (gcheck_refs H0.out hf)
    have d3 : decide (0 ≤ refsAt s.nodes) = true := decide_eq_true hf
    clear hf
    go_wp2
    go_ret2
    exact ⟨ret_two HE.out.symm, HB1.out⟩
  have d3 : decide (0 ≤ refsAt s.nodes) = false := decide_eq_false hf
  have HF := Aside0.mk hf
  have HP := Aside0.mk (Places.of_refs ((refsAt_lt s.nodes).resolve_right hf))
  clear hf
  have k0 := HC1.out.1
  have k1 := HC1.out.2
  go_wp2
  go_region_held3 (fun W => W.cell? ⟨w.heap.size, 0, none⟩ = some (.slice A s.nodes.length c) ∧ W.cell? ⟨w.heap.size, 1, none⟩ = some (.int .i64 s.root))
    (first
      | (go_split_ands
         refine ⟨?_, ?_⟩
         all_goals first
           | with_reducible exact pw_cell_below hB2 (by assumption)
           | with_reducible assumption
           | (simp [*]; done)))
    (first | (go_at_call 79; refine (order_any A c s _ (Kd.C_below HR.out (below_drew1 HB1.out)) HP.out hn0 (by have := HM.out; omega)).mono ?_; rintro e w2 ⟨L, AL, cL, rfl, hT, hR2, hB2⟩; have HT := Aside0.mk hT; have HB2 := Aside0.mk (below_step (below_drew1 HB1.out) hB2); clear hT hR2))
  have HC2 := Aside0.mk (And.intro (pw_cell_below hB2 (show (w1.drew).cell? _ = _ from k0)) (pw_cell_below hB2 (show (w1.drew).cell? _ = _ from k1)))
  clear hB2 k0 k1
  by_cases hl : L.length < s.nodes.length
  · have dl : decide (L.length < s.nodes.length) = true := decide_eq_true hl
    rw [dl]
    have HX := Aside0.mk (HT.out.part HP.out hl)
    clear hl dl
    have k0 := HC2.out.1
    go_wp2
    clear k0
    go_loopw [5, 35] (fun _ v35 W => ∃ i : Nat, i ≤ s.nodes.length ∧ v35 = .int .i64 i ∧ Aside0 (∀ j, j < i → ¬ Cyc s.nodes (j : Int)) ∧ Aside0 (Below w2.heap.size w2 W)) (fun _ v35 _ => s.nodes.length - (intOf v35).toNat)
    case atStart => exact ⟨0, by omega, rfl, ⟨fun j hj => by omega⟩, ⟨Below.refl _ _⟩⟩
    case round =>
      obtain ⟨i, hi, rfl, HN, HBi⟩ := hrel
      by_cases hlt : i < s.nodes.length
      · have HBw := Aside0.mk (below_step HB2.out HBi.out)
        have k0 := pw_cell_below HBi.out HC2.out.1
        have k1 := pw_cell_below HBi.out HC2.out.2
        obtain ⟨adn, A1, c1, A2, c2, A3, c3, rfl, x0, x1, x2, x3, hNd⟩ := at_node HR.out i hlt
        replace x0 := pw_cell_below HBw.out x0
        replace x1 := pw_cell_below HBw.out x1
        replace x2 := pw_cell_below HBw.out x2
        replace x3 := pw_cell_below HBw.out x3
        have HNk := Aside0.mk hNd.k
        have hb0 := below_alloc (Below.refl wr.heap.size wr) (.cells #[.int .i64 (nd s.nodes i).kind, .slice A1 (nd s.nodes i).ints.length c1, .slice A2 (nd s.nodes i).texts.length c2, .slice A3 (nd s.nodes i).kids.length c3] 42)
        replace k0 := pw_cell_below hb0 k0
        replace k1 := pw_cell_below hb0 k1
        have k3 : (wr.alloc (.cells #[.int .i64 (nd s.nodes i).kind, .slice A1 (nd s.nodes i).ints.length c1, .slice A2 (nd s.nodes i).texts.length c2, .slice A3 (nd s.nodes i).kids.length c3] 42)).cell? ⟨wr.heap.size, 3, none⟩ = some (.slice A3 (nd s.nodes i).kids.length c3) := box_cell _ _ rfl _ _ 3 _ rfl
        have HBa := Aside0.mk (below_drew1 (below_alloc HBw.out (.cells #[.int .i64 (nd s.nodes i).kind, .slice A1 (nd s.nodes i).ints.length c1, .slice A2 (nd s.nodes i).texts.length c2, .slice A3 (nd s.nodes i).kids.length c3] 42)))
        have HBa2 := Aside0.mk (below_drew1 (below_alloc HBi.out (.cells #[.int .i64 (nd s.nodes i).kind, .slice A1 (nd s.nodes i).ints.length c1, .slice A2 (nd s.nodes i).texts.length c2, .slice A3 (nd s.nodes i).kids.length c3] 42)))
        have HKL := Aside0.mk (kids_len hlt)
        have HKI := Aside0.mk (keyI_of (x := (i : Int)) (by omega) (by omega))
        obtain ⟨y, hy⟩ := bool_of (Cyc s.nodes (i : Int))
        have HY := Aside0.mk hy
        have HYk := Aside0.mk (show y = true ↔ Rch s.nodes (nd s.nodes i).kids (i : Int) from by rw [hy, Cyc, kids_nat])
        clear hNd hb0 hy
        go_wp2
        clear x0 x1 x2 x3
        go_region_held3 (fun W => W.cell? ⟨w.heap.size, 0, none⟩ = some (.slice (some adn) s.nodes.length c) ∧ W.cell? ⟨w.heap.size, 1, none⟩ = some (.int .i64 s.root) ∧ W.cell? ⟨wr.heap.size, 3, none⟩ = some (.slice A3 (nd s.nodes i).kids.length c3))
          (first
            | (go_split_ands
               refine ⟨?_, ?_, ?_⟩
               all_goals first
                 | with_reducible assumption
                 | exact pw_cell_below hB4 (show (World.drew _).cell? _ = _ from k0)
                 | exact pw_cell_below hB4 (show (World.drew _).cell? _ = _ from k1)
                 | exact pw_cell_below hB4 (show (World.drew _).cell? _ = _ from k3)
                 | exact pw_cell_below hB3 (show (World.drew _).cell? _ = _ from k0)
                 | exact pw_cell_below hB3 (show (World.drew _).cell? _ = _ from k1)
                 | exact pw_cell_below hB3 (show (World.drew _).cell? _ = _ from k3)
                 | (simp [*]; done)))
          (first
            | (go_at_call 61; refine (clone_int A3 c3 (nd s.nodes i).kids _ (Kd.C_below HNk.out HBa.out) (by have := HKL.out; have := HM.out; omega)).mono ?_; rintro e w3 ⟨A4, c4, rfl, hR3, hB3⟩)
            | (go_at_call 80; refine (reach_any (some adn) c s (nd s.nodes i).kids _ _ _ (Kd.C_below HR.out HBa.out) HP.out (HP.out i hlt) hR3 hB3 (by have := HKL.out; have := HM.out; omega)).mono ?_; rintro e w4 ⟨b, vs, n, rfl, hMF, hbb, hvs, hB4⟩; have hlk := MapF.run_lookup _ 45 hMF keyI Tryz.underlying45 (zeroB _) HKI.out; rw [visF_bool hvs HYk.out] at hlk; clear hMF hbb hvs))
        have HB4 := Aside0.mk (below_step HBa2.out hB4)
        clear hB4 hB3 hR3 k0 k1 k3 hlk
        cases y
        · have HNi := Aside0.mk (ext_lt HN.out (show ¬ Cyc s.nodes (i : Int) from fun h => by have := HY.out.2 h; cases this))
          go_wp2
          go_roundw
          case rel => exact ⟨i + 1, by omega, by go_num, HNi, HB4⟩
          case measure => simp [intOf]; omega
        · have HE := Aside0.mk (gcheck_cyc H0.out (by have := HF.out; omega) hlt HN.out (HY.out.1 rfl))
          go_wp2
          go_ret2
          exact ⟨ret_two HE.out.symm, below_step HB2.out HB4.out⟩
      · exact absurd (fun p hp => HN.out p (by omega)) HX.out
  · have dl : decide (L.length < s.nodes.length) = false := decide_eq_false hl
    rw [dl]
    have HX := Aside0.mk (HT.out.whole hl)
    clear hl dl
    have k0 := HC2.out.1
    have k1 := HC2.out.2
    have hrt := H0.out
    go_wp2_with fail
    refine (reach_any A c s [s.root] (.slice (some ⟨w2.heap.size, 0, none⟩) 1 1) w2 _ (Kd.C_below HR.out HB2.out) HP.out (fun k hk => by rw [List.mem_singleton.1 hk]; have := H0.out; omega) (R_lits (Kd.int .i64) 3 (fun x => [.int .i64 x]) w2 w2.heap.size [s.root] (fun _ => rfl) (fun _ => rfl) (Nat.le_refl _) (by simp) rfl) (below_alloc (Below.refl _ _) _) (by have := HM.out; simp; omega)).mono ?_
    rintro e w3 ⟨b, vs, n, rfl, hMF, hbb, hvs, hB3⟩
    have HMF := Aside0.mk hMF
    have HVS := Aside0.mk hvs
    have HB3 := Aside0.mk (below_step HB2.out hB3)
    replace k0 := pw_cell_below hB3 k0
    clear hMF hbb hvs hB3 k1 hrt
    go_wp2
    clear k0
    go_loopw [8, 57] (fun _ v57 W => ∃ i : Nat, i ≤ s.nodes.length ∧ v57 = .int .i64 i ∧ W = w3 ∧ Aside0 (∀ j : Nat, j < i → Rch s.nodes [s.root] (j : Int))) (fun _ v57 _ => s.nodes.length - (intOf v57).toNat)
    case atStart => exact ⟨0, by omega, rfl, rfl, ⟨fun j hj => by omega⟩⟩
    case round =>
      obtain ⟨i, hi, rfl, rfl, HN⟩ := hrel
      by_cases hlt : i < s.nodes.length
      · have HKI := Aside0.mk (keyI_of (x := (i : Int)) (by omega) (by omega))
        obtain ⟨y, hy⟩ := bool_of (Rch s.nodes [s.root] (i : Int))
        have HY := Aside0.mk hy
        clear hy
        cases y
        · have HE := Aside0.mk (gcheck_loose H0.out (by have := HF.out; omega) HX.out hlt HN.out (fun h => by have := HY.out.2 h; cases this))
          go_wp2_with (at_lookup; refine wpList_lookup_F _ rfl (.tmp 60) (.tmp 61) 45 rfl 3 4 keyI Tryz.underlying45 (zeroB _) b n (visF vs) rfl HMF.out (.int .i64 i) (.int .i64 i) rfl HKI.out (.bool false) (visF_bool HVS.out HY.out) ?_)
          go_ret2
          exact ⟨ret_two HE.out.symm, HB3.out⟩
        · have HNi := Aside0.mk (ext_lt HN.out (HY.out.1 rfl))
          go_wp2_with (at_lookup; refine wpList_lookup_F _ rfl (.tmp 60) (.tmp 61) 45 rfl 3 4 keyI Tryz.underlying45 (zeroB _) b n (visF vs) rfl HMF.out (.int .i64 i) (.int .i64 i) rfl HKI.out (.bool true) (visF_bool HVS.out HY.out) ?_)
          go_roundw
          case rel => exact ⟨i + 1, by omega, by go_num, by first | rfl | trivial, HNi⟩
          case measure => simp [intOf]; omega
      · have HE := Aside0.mk (gcheck_ok H0.out (by have := HF.out; omega) HX.out (fun j hj => HN.out j (by omega)))
        go_wp2
        go_ret2
        exact ⟨ret_two HE.out.symm, HB3.out⟩
end Go.Proofs.YtggldnbhmebcpaaGreatDoor.L
end
section
namespace Go.Proofs.YtggldnbhmebcpaaGreatDoor.L
open Go.RowKit Go.ChangeShapes Go.WideShapes Go.Proofs.YtggldnbhmebcpaaGreatDoorW.PrintWords Go.Proofs.YtggldnbhmebcpaaGreatDoorW.PrintLast Go.Proofs.YtggldnbhmebcpaaGreatDoorW.PrintMore
attribute [local go_sem] max2_int min2_int max_two min_two max_three min_three max_four min_four
def idx (s : Scene) (k : Int) : Nat := (ord s).idxOf k
def numsL (s : Scene) : List Int := (List.range s.nodes.length).map (fun p : Nat => (idx s (p : Int) : Int))
noncomputable def nums (s : Scene) : List Int := if (gcheck s).1 = 0 then numsL s else []
theorem numsL_len (s : Scene) : (numsL s).length = s.nodes.length := by simp [numsL]
theorem numsL_rd (s : Scene) (p : Nat) (hp : p < s.nodes.length) : rd (numsL s) (p : Int) = (idx s (p : Int) : Int) := by
  rw [rd_eq (by rw [numsL_len]; exact hp)]
  simp [numsL]
theorem perm_len {L : List Int} {n : Nat} (hL : L.Nodup) (h : ∀ x ∈ L, 0 ≤ x ∧ x < (n : Int)) (ha : ∀ p : Nat, p < n → (p : Int) ∈ L) : L.length = n := by
  refine Nat.le_antisymm (nodup_len hL h) ?_
  have h2 : ∀ (M : List Int) (f : Int → Nat), (∀ x ∈ M, 0 < f x) → M.length ≤ (M.map f).sum := fun M f => by
    induction M with
    | nil => intro _; exact Nat.zero_le _
    | cons a r ih =>
      intro hM
      have ha := hM a (by simp)
      have := ih (fun x hx => hM x (by simp [hx]))
      rw [List.map_cons, List.sum_cons, List.length_cons]
      omega
  have h3 := h2 ((List.range n).map (fun p : Nat => (p : Int))) (fun c => L.count c) (fun x hx => by
    obtain ⟨p, hp, rfl⟩ := List.mem_map.1 hx
    exact List.count_pos_iff.2 (ha p (List.mem_range.1 hp)))
  rw [List.length_map, List.length_range] at h3
  exact Nat.le_trans h3 (count_le (List.Pairwise.map _ (fun a b hab h => hab (by omega)) List.nodup_range))
theorem ord_len {s : Scene} (h : Right s) : (ord s).length = s.nodes.length := perm_len (ord_nodup h) (ord_pl h) (ord_all h)
theorem idx_at {s : Scene} (h : Right s) {m : Nat} (hm : m < s.nodes.length) : idx s (rd (ord s) (m : Int)) = m := by
  have hm' : m < (ord s).length := by rw [ord_len h]; exact hm
  rw [rd_eq hm']
  unfold idx
  exact List.Nodup.idxOf_getElem (ord_nodup h) m hm'
theorem at_idx {s : Scene} (h : Right s) {p : Nat} (hp : p < s.nodes.length) : idx s (p : Int) < s.nodes.length ∧ rd (ord s) (idx s (p : Int) : Int) = (p : Int) := by
  have h1 := List.idxOf_lt_length_of_mem (ord_all h p hp)
  refine ⟨by rw [← ord_len h]; exact h1, ?_⟩
  unfold idx
  rw [rd_eq h1]
  exact List.getElem_idxOf h1
structure NInv (s : Scene) (i : Nat) (out : List Int) : Prop where
  len : out.length = s.nodes.length
  at_ : ∀ m : Nat, m < i → m < s.nodes.length → rd out (rd (ord s) (m : Int)) = (m : Int)
theorem NInv.start (s : Scene) : NInv s 0 (List.replicate s.nodes.length 0) := ⟨by simp, fun m h => by omega⟩
theorem ord_at {s : Scene} (h : Right s) {m : Nat} (hm : m < s.nodes.length) : ∃ q : Nat, rd (ord s) (m : Int) = (q : Int) ∧ q < s.nodes.length := by
  have hm' : m < (ord s).length := by rw [ord_len h]; exact hm
  have hp := ord_pl h _ (rd_mem (l := ord s) hm')
  have h1 := hp.1
  have h2 := hp.2
  exact ⟨(rd (ord s) (m : Int)).toNat, by omega, by omega⟩
theorem NInv.set {s : Scene} {i q : Nat} {out : List Int} (hr : Right s) (h : NInv s i out) (hi : i < s.nodes.length) (hq : rd (ord s) (i : Int) = (q : Int)) (hqn : q < s.nodes.length) : NInv s (i + 1) (out.set q (i : Int)) := by
  refine ⟨by simpa using h.len, fun m hm hmn => ?_⟩
  obtain ⟨r, hrr, hrn⟩ := ord_at hr hmn
  rw [hrr, rd_set _ _ _ _ (by rw [h.len]; exact hqn)]
  by_cases e : m = i
  · subst e
    rw [hq] at hrr
    rw [if_pos (by omega)]
  · have : ¬ r = q := fun e2 => by
      have h1 := idx_at hr hmn
      have h2 := idx_at hr hi
      rw [hrr, e2] at h1
      rw [hq] at h2
      exact e (h1.symm.trans h2)
    rw [if_neg this, ← hrr]
    exact h.at_ m (by omega) hmn
theorem NInv.done {s : Scene} {out : List Int} (hr : Right s) (h : NInv s s.nodes.length out) : out = numsL s := by
  refine List.ext_getElem (by rw [h.len, numsL_len]) (fun p h1 h2 => ?_)
  rw [← rd_eq h1, ← rd_eq h2]
  rw [h.len] at h1
  obtain ⟨hi, he⟩ := at_idx hr h1
  have := h.at_ _ hi hi
  rw [he] at this
  rw [this, numsL_rd s p h1]
theorem len_rows (ns : List Node) : ns.length ≤ rows ns := by
  have h1 : ∀ i, i ≤ pre ns i := fun i => by
    induction i with
    | zero => exact Nat.zero_le _
    | succ i ih => rw [pre_succ, wt]; omega
  exact h1 _
structure NumRel (s : Scene) (w : World) (g c : Nat) (Ao : Option Addr) (co : Nat) (i : Nat) (out : List Int) (W : World) : Prop where
  inv : NInv s i out
  row : (Kd.int .i64).R 3 W w.heap.size (fun _ => True) (.slice (some ⟨g, 0, none⟩) s.nodes.length c) out
  ord : (Kd.int .i64).R 3 W w.heap.size (fun k => k ≠ g) (.slice Ao s.nodes.length co) (ord s)
  below : Below w.heap.size w W
theorem NumRel.set {s : Scene} {w : World} {g c co : Nat} {Ao : Option Addr} {i q : Nat} {out : List Int} {W : World} (hr : Right s) (h : NumRel s w g c Ao co i out W) (hi : i < s.nodes.length) (hq : rd (L.ord s) (i : Int) = (q : Int)) (hqn : q < s.nodes.length) :
    (∃ x, W.cell? ⟨g, q, none⟩ = some x) ∧ W.frozen? ⟨g, q, none⟩ = false ∧ NumRel s w g c Ao co (i + 1) (out.set q (i : Int)) (W.setCell ⟨g, q, none⟩ (.int .i64 (i : Int))) := by
  obtain ⟨c1, c2⟩ := ints_cell h.row q hqn
  obtain ⟨s1, _, s2⟩ := ints_store h.row q hqn (i : Int)
  exact ⟨⟨_, c1⟩, c2, h.inv.set hr hi hq hqn, s1, Kd.R_far (p := ⟨g, q, none⟩) h.ord (fun k hk => hk) _, below_set h.below s2⟩
set_option maxRecDepth 100000 in
set_option maxHeartbeats 4000000 in
theorem numbers_canon (A : Option Addr) (c : Nat) (s : Scene) (w : World) (h : kNode.C w A s.nodes.length s.nodes) (hM : rows s.nodes ≤ 400000) :
    Calls Tryz.prog 48 #[.agg #[.slice A s.nodes.length c, .int .i64 s.root]] w (RowPost (Kd.int .i64) 3 (nums s) w) := by
  have HR := Aside0.mk h
  have HM := Aside0.mk hM
  have b0 := h.2.1
  have HB := Aside0.mk (below_alloc (Below.refl w.heap.size w) (.cells #[.slice A s.nodes.length c, .int .i64 s.root] 24))
  have k0 := box_cell w _ rfl #[.slice A s.nodes.length c, .int .i64 s.root] 24 0 _ rfl
  have k1 := box_cell w _ rfl #[.slice A s.nodes.length c, .int .i64 s.root] 24 1 _ rfl
  have hu := Tryz.underlying24
  clear h hM
  go_enter Tryz.func48, Tryz.ntmps48
  go_wp2_with fail
  refine (gcheck_any A c s _ (Kd.C_below HR.out HB.out) HM.out).mono ?_
  rintro e w1 ⟨rfl, hB1⟩
  have HB1 := Aside0.mk (below_step HB.out hB1)
  replace k0 := pw_cell_below hB1 k0
  replace k1 := pw_cell_below hB1 k1
  clear hB1
  by_cases hz : (gcheck s).1 = 0
  · have HRt := Aside0.mk (gcheck_right.1 hz)
    have HE : Aside0 (nums s = numsL s) := ⟨by unfold nums; rw [if_pos hz]⟩
    have hnM : s.nodes.length ≤ 400000 := Nat.le_trans (len_rows _) HM.out
    have hn0 : 0 < s.nodes.length := by have := HRt.out.r0; have := HRt.out.r1; omega
    rw [hz]
    clear hz
    go_wp2_with (first
      | (refine Kd.R_make (Kd.int .i64) (w0 := w) w.heap.size 3 rfl (N := 18) rfl 40 _ _ rfl (s.nodes.length : Int) rfl rfl Tryz.underlying40 (.int .i64 0) 8 info_int rfl (by decide) (by omega) 0 (ok := fun _ => True) (okp := fun _ => True) rfl (fun _ hk => hk) trivial (by omega) (by omega) HB1.out HB1.out.size ?_; intro v2 w2 ho2 hb2 hg2 hn2; rw [Int.toNat_natCast] at ho2; obtain ⟨go, co, hv2, -, hgo, -⟩ := Kd.R_form ho2 (by rw [List.length_replicate]; exact hn0); rw [List.length_replicate] at hv2; subst hv2; have HO := Aside0.mk ho2; have HB2 := Aside0.mk hb2; have q0 := cell_grown hg2 k0 (by simp); have q1 := cell_grown hg2 k1 (by simp); clear ho2 hb2 hg2 hn2))
    clear k0 k1
    refine (canOrder_any A c s w2 (Kd.C_below HR.out HB2.out) HRt.out.dag ⟨HRt.out.r0, HRt.out.r1⟩ (by have := HM.out; omega)).mono ?_
    rintro e w3 ⟨A3, c3, rfl, hR3, hB3⟩
    have HI := Aside0.mk (show NumRel s w go co A3 c3 0 (List.replicate s.nodes.length 0) w3 from ⟨NInv.start s, Kd.R_below HO.out hB3, by
      have h := Kd.R_lower (Kd.R_mono (Kd.R_bound hR3) (ok' := fun k => k ≠ go) (fun k hk => by have h1 := Kd.R_lt HO.out go rfl; have h2 := hk.2.1; omega)) HB2.out.size
      rwa [ord_len HRt.out] at h, below_step HB2.out hB3⟩)
    rw [ord_len HRt.out]
    clear q0 q1 hR3 hB3 HO
    go_wp2
    go_loopw [22] (fun v22 W => ∃ i : Nat, i ≤ s.nodes.length ∧ v22 = .int .i64 i ∧ ∃ out, Aside0 (NumRel s w go co A3 c3 i out W)) (fun v22 _ => s.nodes.length - (intOf v22).toNat)
    case atStart => exact ⟨0, by omega, rfl, _, HI⟩
    case round =>
      clear HI
      obtain ⟨i, hi, rfl, out, HI⟩ := hrel
      by_cases hlt : i < s.nodes.length
      · obtain ⟨q, hq, hqn⟩ := ord_at HRt.out hlt
        obtain ⟨ad, rfl, hx⟩ := at_nat (Kd.R_reads' HI.out.ord).2.2 i (by rw [ord_len HRt.out]; exact hlt)
        rw [hq] at hx
        obtain ⟨⟨x, hcx⟩, hfx, hn⟩ := HI.out.set HRt.out hlt hq hqn
        have HN := Aside0.mk hn
        clear hq hn
        go_wp2
        go_roundw
        case rel => exact ⟨i + 1, by omega, by go_num, _, HN⟩
        case measure => simp [intOf]; omega
      · obtain rfl : i = s.nodes.length := by omega
        obtain rfl : out = numsL s := HI.out.inv.done HRt.out
        go_wp2
        go_ret
        exact RowPost.mk (v := .slice (some ⟨go, 0, none⟩) s.nodes.length co) (by rw [HE.out]; exact HI.out.row) HI.out.below
  · have HE : Aside0 (nums s = []) := ⟨by unfold nums; rw [if_neg hz]⟩
    have dz : ((gcheck s).1 == 0) = false := by simpa using hz
    clear hz
    go_wp2
    go_ret
    exact RowPost.mk (by rw [HE.out]; exact Kd.R_nil _ _ _ _ _) HB1.out
end Go.Proofs.YtggldnbhmebcpaaGreatDoor.L
end
section
namespace Go.Proofs
open Go.Shelf
def Tryz.lays169_ren : Go.Shelf.Ren := ⟨fun | 169 => 116 | n => n, fun | 70 => 161 | 9 => 9 | 0 => 0 | 72 => 164 | 37 => 162 | 127 => 174 | 3 => 3 | 5 => 5 | n => n, fun | n => n⟩
theorem Tryz.lays169 : Go.Proofs.Lays.n169 Tryz.prog Tryz.lays169_ren := {
  mixed := by kernel_rfl
  f169 := Tryz.func116.trans (congrArg some (by kernel_rfl))
  t0 := Tryz.underlying0
  a0 := Tryz.isAgg0
  z0 := Tryz.sizeOf0
  v0 := Tryz.zeroValue0
  t3 := Tryz.underlying3
  a3 := Tryz.isAgg3
  z3 := Tryz.sizeOf3
  v3 := Tryz.zeroValue3
  t9 := Tryz.underlying9
  a9 := Tryz.isAgg9
  z9 := Tryz.sizeOf9
  v9 := Tryz.zeroValue9
  t37 := Tryz.underlying162
  a37 := Tryz.isAgg162
  z37 := Tryz.sizeOf162
  v37 := Tryz.zeroValue162
  t70 := Tryz.underlying161
  a70 := Tryz.isAgg161
  z70 := Tryz.sizeOf161
  v70 := Tryz.zeroValue161
  t72 := Tryz.underlying164
  a72 := Tryz.isAgg164
  z72 := Tryz.sizeOf164
  v72 := Tryz.zeroValue164
  t127 := Tryz.underlying174
  a127 := Tryz.isAgg174
  z127 := Tryz.sizeOf174
  v127 := Tryz.zeroValue174 }
theorem Tryz.Builder_Extra_169 : Builder.Extra Tryz.prog Tryz.lays169_ren := {
  sizeBuilder := by kernel_rfl
  liesBuilder := by kernel_rfl
  t5 := Tryz.underlying5
  a5 := Tryz.isAgg5
  z5 := Tryz.sizeOf5
  v5 := Tryz.zeroValue5
  infoByte := by kernel_rfl
  cellsByte := by kernel_rfl
  sizeByte := by kernel_rfl
  neB5 := by decide }
open Go.RowKit in
theorem Tryz.Builder_String_any (B b : Nat) (l : List UInt8) (w : World) (h : Lib.IsBuilder 164 5 B b (Lib.byteCells l) w) (hBw : B ≤ w.heap.size) :
    Calls Tryz.prog 116 #[.pointer (some ⟨b, 0, none⟩)] w fun e w' => e = .returned (.string ⟨l.toArray⟩) ∧ Below B w w' := Any.Builder_String_any Tryz.lays169 Tryz.Builder_Extra_169 B b l w h hBw
def Tryz.lays215_ren : Go.Shelf.Ren := ⟨fun | 215 => 112 | n => n, fun | 3 => 3 | 4 => 4 | n => n, fun | n => n⟩
def Tryz.lays339_ren : Go.Shelf.Ren := ⟨fun | 339 => 137 | 345 => 141 | 346 => 142 | n => n, fun | 21 => 21 | 4 => 4 | 49 => 199 | 234 => 200 | 131 => 135 | 3 => 3 | 0 => 0 | 51 => 136 | 236 => 202 | 46 => 96 | n => n, fun | 20 => 5 | 21 => 6 | 22 => 7 | 23 => 8 | n => n⟩
theorem Tryz.lays339 : Go.Proofs.Lays.n339 Tryz.prog Tryz.lays339_ren := {
  mixed := by kernel_rfl
  f339 := Tryz.func137.trans (congrArg some (by kernel_rfl))
  f345 := Tryz.func141.trans (congrArg some (by kernel_rfl))
  f346 := Tryz.func142.trans (congrArg some (by kernel_rfl))
  t0 := Tryz.underlying0
  a0 := Tryz.isAgg0
  z0 := Tryz.sizeOf0
  v0 := Tryz.zeroValue0
  t3 := Tryz.underlying3
  a3 := Tryz.isAgg3
  z3 := Tryz.sizeOf3
  v3 := Tryz.zeroValue3
  t4 := Tryz.underlying4
  a4 := Tryz.isAgg4
  z4 := Tryz.sizeOf4
  v4 := Tryz.zeroValue4
  t21 := Tryz.underlying21
  a21 := Tryz.isAgg21
  z21 := Tryz.sizeOf21
  v21 := Tryz.zeroValue21
  t46 := Tryz.underlying96
  a46 := Tryz.isAgg96
  z46 := Tryz.sizeOf96
  v46 := Tryz.zeroValue96
  t49 := Tryz.underlying199
  a49 := Tryz.isAgg199
  z49 := Tryz.sizeOf199
  v49 := Tryz.zeroValue199
  t51 := Tryz.underlying136
  a51 := Tryz.isAgg136
  z51 := Tryz.sizeOf136
  v51 := Tryz.zeroValue136
  t131 := Tryz.underlying135
  a131 := Tryz.isAgg135
  z131 := Tryz.sizeOf135
  v131 := Tryz.zeroValue135
  t234 := Tryz.underlying200
  a234 := Tryz.isAgg200
  z234 := Tryz.sizeOf200
  v234 := Tryz.zeroValue200
  t236 := Tryz.underlying202
  a236 := Tryz.isAgg202
  z236 := Tryz.sizeOf202
  v236 := Tryz.zeroValue202
  g20 := by kernel_rfl
  g21 := by kernel_rfl
  g22 := by kernel_rfl
  g23 := by kernel_rfl }
def Tryz.lays289_ren : Go.Shelf.Ren := ⟨fun | 289 => 128 | 197 => 111 | 323 => 134 | 260 => 119 | 339 => 137 | 340 => 138 | 242 => 139 | 119 => 140 | 345 => 141 | 346 => 142 | 278 => 143 | n => n, fun | 37 => 162 | 9 => 9 | 5 => 5 | 4 => 4 | 3 => 3 | 21 => 21 | 105 => 155 | 46 => 96 | 119 => 181 | 0 => 0 | 139 => 184 | 138 => 183 | 49 => 199 | 234 => 200 | 131 => 135 | 51 => 136 | 236 => 202 | n => n, fun | 3 => 0 | 4 => 1 | 20 => 5 | 21 => 6 | 22 => 7 | 23 => 8 | 24 => 9 | n => n⟩
def Tryz.lays250_ren : Go.Shelf.Ren := ⟨fun | 250 => 121 | 289 => 128 | 197 => 111 | 323 => 134 | 260 => 119 | 339 => 137 | 340 => 138 | 242 => 139 | 119 => 140 | 345 => 141 | 346 => 142 | 278 => 143 | n => n, fun | 9 => 9 | 5 => 5 | 4 => 4 | 3 => 3 | 37 => 162 | 21 => 21 | 105 => 155 | 46 => 96 | 119 => 181 | 0 => 0 | 139 => 184 | 138 => 183 | 49 => 199 | 234 => 200 | 131 => 135 | 51 => 136 | 236 => 202 | n => n, fun | 3 => 0 | 4 => 1 | 20 => 5 | 21 => 6 | 22 => 7 | 23 => 8 | 24 => 9 | n => n⟩
def Tryz.lays177_ren : Go.Shelf.Ren := ⟨fun | 177 => 115 | 250 => 121 | 289 => 128 | 197 => 111 | 323 => 134 | 260 => 119 | 339 => 137 | 340 => 138 | 242 => 139 | 119 => 140 | 345 => 141 | 346 => 142 | 278 => 143 | n => n, fun | 9 => 9 | 5 => 5 | 4 => 4 | 3 => 3 | 37 => 162 | 21 => 21 | 105 => 155 | 46 => 96 | 119 => 181 | 0 => 0 | 139 => 184 | 138 => 183 | 49 => 199 | 234 => 200 | 131 => 135 | 51 => 136 | 236 => 202 | n => n, fun | 3 => 0 | 4 => 1 | 20 => 5 | 21 => 6 | 22 => 7 | 23 => 8 | 24 => 9 | n => n⟩
theorem Tryz.lays177 : Go.Proofs.Lays.n177 Tryz.prog Tryz.lays177_ren := {
  mixed := by kernel_rfl
  f119 := Tryz.func140.trans (congrArg some (by kernel_rfl))
  f177 := Tryz.func115.trans (congrArg some (by kernel_rfl))
  f197 := Tryz.func111.trans (congrArg some (by kernel_rfl))
  f242 := Tryz.func139.trans (congrArg some (by kernel_rfl))
  f250 := Tryz.func121.trans (congrArg some (by kernel_rfl))
  f260 := Tryz.func119.trans (congrArg some (by kernel_rfl))
  f278 := Tryz.func143.trans (congrArg some (by kernel_rfl))
  f289 := Tryz.func128.trans (congrArg some (by kernel_rfl))
  f323 := Tryz.func134.trans (congrArg some (by kernel_rfl))
  f339 := Tryz.func137.trans (congrArg some (by kernel_rfl))
  f340 := Tryz.func138.trans (congrArg some (by kernel_rfl))
  f345 := Tryz.func141.trans (congrArg some (by kernel_rfl))
  f346 := Tryz.func142.trans (congrArg some (by kernel_rfl))
  t0 := Tryz.underlying0
  a0 := Tryz.isAgg0
  z0 := Tryz.sizeOf0
  v0 := Tryz.zeroValue0
  t3 := Tryz.underlying3
  a3 := Tryz.isAgg3
  z3 := Tryz.sizeOf3
  v3 := Tryz.zeroValue3
  t4 := Tryz.underlying4
  a4 := Tryz.isAgg4
  z4 := Tryz.sizeOf4
  v4 := Tryz.zeroValue4
  t5 := Tryz.underlying5
  a5 := Tryz.isAgg5
  z5 := Tryz.sizeOf5
  v5 := Tryz.zeroValue5
  t9 := Tryz.underlying9
  a9 := Tryz.isAgg9
  z9 := Tryz.sizeOf9
  v9 := Tryz.zeroValue9
  t21 := Tryz.underlying21
  a21 := Tryz.isAgg21
  z21 := Tryz.sizeOf21
  v21 := Tryz.zeroValue21
  t37 := Tryz.underlying162
  a37 := Tryz.isAgg162
  z37 := Tryz.sizeOf162
  v37 := Tryz.zeroValue162
  t46 := Tryz.underlying96
  a46 := Tryz.isAgg96
  z46 := Tryz.sizeOf96
  v46 := Tryz.zeroValue96
  t49 := Tryz.underlying199
  a49 := Tryz.isAgg199
  z49 := Tryz.sizeOf199
  v49 := Tryz.zeroValue199
  t51 := Tryz.underlying136
  a51 := Tryz.isAgg136
  z51 := Tryz.sizeOf136
  v51 := Tryz.zeroValue136
  t105 := Tryz.underlying155
  a105 := Tryz.isAgg155
  z105 := Tryz.sizeOf155
  v105 := Tryz.zeroValue155
  t119 := Tryz.underlying181
  a119 := Tryz.isAgg181
  z119 := Tryz.sizeOf181
  t131 := Tryz.underlying135
  a131 := Tryz.isAgg135
  z131 := Tryz.sizeOf135
  v131 := Tryz.zeroValue135
  t138 := Tryz.underlying183
  a138 := Tryz.isAgg183
  z138 := Tryz.sizeOf183
  v138 := Tryz.zeroValue183
  t139 := Tryz.underlying184
  a139 := Tryz.isAgg184
  z139 := Tryz.sizeOf184
  v139 := Tryz.zeroValue184
  t234 := Tryz.underlying200
  a234 := Tryz.isAgg200
  z234 := Tryz.sizeOf200
  v234 := Tryz.zeroValue200
  t236 := Tryz.underlying202
  a236 := Tryz.isAgg202
  z236 := Tryz.sizeOf202
  v236 := Tryz.zeroValue202
  g3 := by kernel_rfl
  g4 := by kernel_rfl
  g20 := by kernel_rfl
  g21 := by kernel_rfl
  g22 := by kernel_rfl
  g23 := by kernel_rfl
  g24 := by kernel_rfl }
open Go.RowKit in
theorem Tryz.strconv_Quote (T : Lib.PrintTabs) (s : ByteArray) (w : World) (hlen : 10 * s.size + 12 ≤ 140737488355328) (hT : Lib.PrintTabsAt 5 6 7 8 T w) (hU : Lib.Utf8Tabs 0 1 w) :
    Calls Tryz.prog 115 #[.string s] w fun e w' => e = .returned (.string (strOfNums (Lib.quoteZ T s))) ∧ Below w.heap.size w w' := Any.strconv_Quote Tryz.lays177 (by kernel_rfl) T s w hlen hT hU
def Tryz.laysM246_ren : Go.Shelf.Ren := ⟨fun | 246 => 117 | 283 => 122 | 284 => 123 | 285 => 124 | 286 => 125 | 129 => 130 | 317 => 129 | 318 => 131 | 319 => 132 | 320 => 133 | 337 => 135 | 338 => 136 | n => n, fun | 2 => 2 | 3 => 3 | 9 => 9 | 4 => 4 | 171 => 175 | 0 => 0 | 53 => 139 | 37 => 162 | 5 => 5 | 173 => 178 | 212 => 190 | 51 => 136 | 20 => 20 | 213 => 191 | 46 => 96 | 232 => 197 | 233 => 198 | n => n, fun | 17 => 2 | 18 => 3 | 19 => 4 | n => n⟩
def Tryz.laysM243_ren : Go.Shelf.Ren := ⟨fun | 243 => 94 | 246 => 117 | 283 => 122 | 284 => 123 | 285 => 124 | 286 => 125 | 129 => 130 | 317 => 129 | 318 => 131 | 319 => 132 | 320 => 133 | 337 => 135 | 338 => 136 | n => n, fun | 3 => 3 | 9 => 9 | 2 => 2 | 4 => 4 | 171 => 175 | 0 => 0 | 53 => 139 | 37 => 162 | 5 => 5 | 173 => 178 | 212 => 190 | 51 => 136 | 20 => 20 | 213 => 191 | 46 => 96 | 232 => 197 | 233 => 198 | n => n, fun | 17 => 2 | 18 => 3 | 19 => 4 | n => n⟩
def Tryz.laysM171_ren : Go.Shelf.Ren := ⟨fun | 171 => 52 | 243 => 94 | 246 => 117 | 283 => 122 | 284 => 123 | 285 => 124 | 286 => 125 | 129 => 130 | 317 => 129 | 318 => 131 | 319 => 132 | 320 => 133 | 337 => 135 | 338 => 136 | n => n, fun | 3 => 3 | 9 => 9 | 2 => 2 | 4 => 4 | 171 => 175 | 0 => 0 | 53 => 139 | 37 => 162 | 5 => 5 | 173 => 178 | 212 => 190 | 51 => 136 | 20 => 20 | 213 => 191 | 46 => 96 | 232 => 197 | 233 => 198 | n => n, fun | 17 => 2 | 18 => 3 | 19 => 4 | n => n⟩
theorem Tryz.laysM171 : Go.Proofs.LaysM.n171 Tryz.prog Tryz.laysM171_ren := {
  mixed := by kernel_rfl
  f129 := Tryz.func130.trans (congrArg some (by kernel_rfl))
  f171 := Tryz.func52.trans (congrArg some (by kernel_rfl))
  f243 := Tryz.func94.trans (congrArg some (by kernel_rfl))
  f246 := Tryz.func117.trans (congrArg some (by kernel_rfl))
  f283 := Tryz.func122.trans (congrArg some (by kernel_rfl))
  f284 := Tryz.func123.trans (congrArg some (by kernel_rfl))
  f285 := Tryz.func124.trans (congrArg some (by kernel_rfl))
  f286 := Tryz.func125.trans (congrArg some (by kernel_rfl))
  f317 := Tryz.func129.trans (congrArg some (by kernel_rfl))
  f318 := Tryz.func131.trans (congrArg some (by kernel_rfl))
  f319 := Tryz.func132.trans (congrArg some (by kernel_rfl))
  f320 := Tryz.func133.trans (congrArg some (by kernel_rfl))
  f337 := Tryz.func135.trans (congrArg some (by kernel_rfl))
  f338 := Tryz.func136.trans (congrArg some (by kernel_rfl))
  t0 := Tryz.underlying0
  a0 := Tryz.isAgg0
  z0 := Tryz.sizeOf0
  v0 := Tryz.zeroValue0
  t2 := Tryz.underlying2
  a2 := Tryz.isAgg2
  z2 := Tryz.sizeOf2
  v2 := Tryz.zeroValue2
  t3 := Tryz.underlying3
  a3 := Tryz.isAgg3
  z3 := Tryz.sizeOf3
  v3 := Tryz.zeroValue3
  t4 := Tryz.underlying4
  a4 := Tryz.isAgg4
  z4 := Tryz.sizeOf4
  v4 := Tryz.zeroValue4
  t5 := Tryz.underlying5
  a5 := Tryz.isAgg5
  z5 := Tryz.sizeOf5
  v5 := Tryz.zeroValue5
  t9 := Tryz.underlying9
  a9 := Tryz.isAgg9
  z9 := Tryz.sizeOf9
  v9 := Tryz.zeroValue9
  t20 := Tryz.underlying20
  a20 := Tryz.isAgg20
  z20 := Tryz.sizeOf20
  v20 := Tryz.zeroValue20
  t37 := Tryz.underlying162
  a37 := Tryz.isAgg162
  z37 := Tryz.sizeOf162
  v37 := Tryz.zeroValue162
  t46 := Tryz.underlying96
  a46 := Tryz.isAgg96
  z46 := Tryz.sizeOf96
  v46 := Tryz.zeroValue96
  t51 := Tryz.underlying136
  a51 := Tryz.isAgg136
  z51 := Tryz.sizeOf136
  v51 := Tryz.zeroValue136
  t53 := Tryz.underlying139
  a53 := Tryz.isAgg139
  z53 := Tryz.sizeOf139
  v53 := Tryz.zeroValue139
  t171 := Tryz.underlying175
  a171 := Tryz.isAgg175
  z171 := Tryz.sizeOf175
  v171 := Tryz.zeroValue175
  t173 := Tryz.underlying178
  a173 := Tryz.isAgg178
  z173 := Tryz.sizeOf178
  v173 := Tryz.zeroValue178
  t212 := Tryz.underlying190
  a212 := Tryz.isAgg190
  z212 := Tryz.sizeOf190
  v212 := Tryz.zeroValue190
  t213 := Tryz.underlying191
  a213 := Tryz.isAgg191
  z213 := Tryz.sizeOf191
  t232 := Tryz.underlying197
  a232 := Tryz.isAgg197
  z232 := Tryz.sizeOf197
  v232 := Tryz.zeroValue197
  t233 := Tryz.underlying198
  a233 := Tryz.isAgg198
  z233 := Tryz.sizeOf198
  v233 := Tryz.zeroValue198
  g17 := by kernel_rfl
  g18 := by kernel_rfl
  g19 := by kernel_rfl
  i0 := by kernel_rfl
  i2 := by kernel_rfl
  i3 := by kernel_rfl
  i4 := by kernel_rfl
  i5 := by kernel_rfl
  i9 := by kernel_rfl
  i20 := by kernel_rfl
  i37 := by kernel_rfl
  i46 := by kernel_rfl
  i51 := by kernel_rfl
  i53 := by kernel_rfl
  i171 := by kernel_rfl
  i173 := by kernel_rfl
  i212 := by kernel_rfl
  i232 := by kernel_rfl
  i233 := by kernel_rfl
  m17 := by kernel_rfl
  m18 := by kernel_rfl
  m19 := by kernel_rfl }
open Go.RowKit Go.Sort Go.Lib in
theorem Tryz.strconv_Itoa (n : Int) (h0 : -9223372036854775808 ≤ n) (h1 : n ≤ 9223372036854775807) (w : World) (htab : Lib.TabIs Tryz.prog w "internal/strconv.uint64pow10" .u64 Lib.pow10Tab) :
    Calls Tryz.prog 52 #[.int .i64 n] w fun e w' => e = .returned (.string ⟨(Lib.itoa n).toArray⟩) ∧ ∃ k os, w' = grow (w.drewN k) os := Any.strconv_Itoa Tryz.laysM171 n h0 h1 w htab
def Tryz.laysM173_ren : Go.Shelf.Ren := ⟨fun | 173 => 114 | 246 => 117 | 283 => 122 | 284 => 123 | 285 => 124 | 286 => 125 | 129 => 130 | 317 => 129 | 318 => 131 | 319 => 132 | 320 => 133 | 337 => 135 | 338 => 136 | n => n, fun | 2 => 2 | 3 => 3 | 9 => 9 | 4 => 4 | 171 => 175 | 0 => 0 | 53 => 139 | 37 => 162 | 5 => 5 | 173 => 178 | 212 => 190 | 51 => 136 | 20 => 20 | 213 => 191 | 46 => 96 | 232 => 197 | 233 => 198 | n => n, fun | 17 => 2 | 18 => 3 | 19 => 4 | n => n⟩
theorem Tryz.laysM173 : Go.Proofs.LaysM.n173 Tryz.prog Tryz.laysM173_ren := {
  mixed := by kernel_rfl
  f129 := Tryz.func130.trans (congrArg some (by kernel_rfl))
  f173 := Tryz.func114.trans (congrArg some (by kernel_rfl))
  f246 := Tryz.func117.trans (congrArg some (by kernel_rfl))
  f283 := Tryz.func122.trans (congrArg some (by kernel_rfl))
  f284 := Tryz.func123.trans (congrArg some (by kernel_rfl))
  f285 := Tryz.func124.trans (congrArg some (by kernel_rfl))
  f286 := Tryz.func125.trans (congrArg some (by kernel_rfl))
  f317 := Tryz.func129.trans (congrArg some (by kernel_rfl))
  f318 := Tryz.func131.trans (congrArg some (by kernel_rfl))
  f319 := Tryz.func132.trans (congrArg some (by kernel_rfl))
  f320 := Tryz.func133.trans (congrArg some (by kernel_rfl))
  f337 := Tryz.func135.trans (congrArg some (by kernel_rfl))
  f338 := Tryz.func136.trans (congrArg some (by kernel_rfl))
  t0 := Tryz.underlying0
  a0 := Tryz.isAgg0
  z0 := Tryz.sizeOf0
  v0 := Tryz.zeroValue0
  t2 := Tryz.underlying2
  a2 := Tryz.isAgg2
  z2 := Tryz.sizeOf2
  v2 := Tryz.zeroValue2
  t3 := Tryz.underlying3
  a3 := Tryz.isAgg3
  z3 := Tryz.sizeOf3
  v3 := Tryz.zeroValue3
  t4 := Tryz.underlying4
  a4 := Tryz.isAgg4
  z4 := Tryz.sizeOf4
  v4 := Tryz.zeroValue4
  t5 := Tryz.underlying5
  a5 := Tryz.isAgg5
  z5 := Tryz.sizeOf5
  v5 := Tryz.zeroValue5
  t9 := Tryz.underlying9
  a9 := Tryz.isAgg9
  z9 := Tryz.sizeOf9
  v9 := Tryz.zeroValue9
  t20 := Tryz.underlying20
  a20 := Tryz.isAgg20
  z20 := Tryz.sizeOf20
  v20 := Tryz.zeroValue20
  t37 := Tryz.underlying162
  a37 := Tryz.isAgg162
  z37 := Tryz.sizeOf162
  v37 := Tryz.zeroValue162
  t46 := Tryz.underlying96
  a46 := Tryz.isAgg96
  z46 := Tryz.sizeOf96
  v46 := Tryz.zeroValue96
  t51 := Tryz.underlying136
  a51 := Tryz.isAgg136
  z51 := Tryz.sizeOf136
  v51 := Tryz.zeroValue136
  t53 := Tryz.underlying139
  a53 := Tryz.isAgg139
  z53 := Tryz.sizeOf139
  v53 := Tryz.zeroValue139
  t171 := Tryz.underlying175
  a171 := Tryz.isAgg175
  z171 := Tryz.sizeOf175
  v171 := Tryz.zeroValue175
  t173 := Tryz.underlying178
  a173 := Tryz.isAgg178
  z173 := Tryz.sizeOf178
  v173 := Tryz.zeroValue178
  t212 := Tryz.underlying190
  a212 := Tryz.isAgg190
  z212 := Tryz.sizeOf190
  v212 := Tryz.zeroValue190
  t213 := Tryz.underlying191
  a213 := Tryz.isAgg191
  z213 := Tryz.sizeOf191
  t232 := Tryz.underlying197
  a232 := Tryz.isAgg197
  z232 := Tryz.sizeOf197
  v232 := Tryz.zeroValue197
  t233 := Tryz.underlying198
  a233 := Tryz.isAgg198
  z233 := Tryz.sizeOf198
  v233 := Tryz.zeroValue198
  g17 := by kernel_rfl
  g18 := by kernel_rfl
  g19 := by kernel_rfl
  i0 := by kernel_rfl
  i2 := by kernel_rfl
  i3 := by kernel_rfl
  i4 := by kernel_rfl
  i5 := by kernel_rfl
  i9 := by kernel_rfl
  i20 := by kernel_rfl
  i37 := by kernel_rfl
  i46 := by kernel_rfl
  i51 := by kernel_rfl
  i53 := by kernel_rfl
  i171 := by kernel_rfl
  i173 := by kernel_rfl
  i212 := by kernel_rfl
  i232 := by kernel_rfl
  i233 := by kernel_rfl
  m17 := by kernel_rfl
  m18 := by kernel_rfl
  m19 := by kernel_rfl }
open Go.RowKit Go.Sort Go.Lib in
theorem Tryz.strconv_FormatInt_10 (n : Int) (h0 : -9223372036854775808 ≤ n) (h1 : n ≤ 9223372036854775807) (w : World) (htab : Lib.TabIs Tryz.prog w "internal/strconv.uint64pow10" .u64 Lib.pow10Tab) :
    Calls Tryz.prog 114 #[.int .i64 n, .int .i64 10] w fun e w' => e = .returned (.string ⟨(Lib.itoa n).toArray⟩) ∧ ∃ k os, w' = grow (w.drewN k) os := Any.strconv_FormatInt_10 Tryz.laysM173 n h0 h1 w htab
def Tryz.lays197_ren : Go.Shelf.Ren := ⟨fun | 197 => 111 | 260 => 119 | n => n, fun | 9 => 9 | 21 => 21 | 3 => 3 | 4 => 4 | 5 => 5 | 105 => 155 | 119 => 181 | 0 => 0 | 46 => 96 | 139 => 184 | 138 => 183 | n => n, fun | 3 => 0 | 4 => 1 | n => n⟩
theorem Tryz.lays197 : Go.Proofs.Lays.n197 Tryz.prog Tryz.lays197_ren := {
  mixed := by kernel_rfl
  f197 := Tryz.func111.trans (congrArg some (by kernel_rfl))
  f260 := Tryz.func119.trans (congrArg some (by kernel_rfl))
  t0 := Tryz.underlying0
  a0 := Tryz.isAgg0
  z0 := Tryz.sizeOf0
  v0 := Tryz.zeroValue0
  t3 := Tryz.underlying3
  a3 := Tryz.isAgg3
  z3 := Tryz.sizeOf3
  v3 := Tryz.zeroValue3
  t4 := Tryz.underlying4
  a4 := Tryz.isAgg4
  z4 := Tryz.sizeOf4
  v4 := Tryz.zeroValue4
  t5 := Tryz.underlying5
  a5 := Tryz.isAgg5
  z5 := Tryz.sizeOf5
  v5 := Tryz.zeroValue5
  t9 := Tryz.underlying9
  a9 := Tryz.isAgg9
  z9 := Tryz.sizeOf9
  v9 := Tryz.zeroValue9
  t21 := Tryz.underlying21
  a21 := Tryz.isAgg21
  z21 := Tryz.sizeOf21
  v21 := Tryz.zeroValue21
  t46 := Tryz.underlying96
  a46 := Tryz.isAgg96
  z46 := Tryz.sizeOf96
  v46 := Tryz.zeroValue96
  t105 := Tryz.underlying155
  a105 := Tryz.isAgg155
  z105 := Tryz.sizeOf155
  v105 := Tryz.zeroValue155
  t119 := Tryz.underlying181
  a119 := Tryz.isAgg181
  z119 := Tryz.sizeOf181
  t138 := Tryz.underlying183
  a138 := Tryz.isAgg183
  z138 := Tryz.sizeOf183
  v138 := Tryz.zeroValue183
  t139 := Tryz.underlying184
  a139 := Tryz.isAgg184
  z139 := Tryz.sizeOf184
  v139 := Tryz.zeroValue184
  g3 := by kernel_rfl
  g4 := by kernel_rfl }
def Tryz.lays212_ren : Go.Shelf.Ren := ⟨fun | 212 => 55 | 263 => 95 | 264 => 96 | n => n, fun | 46 => 96 | 51 => 136 | 146 => 137 | 53 => 139 | 148 => 140 | n => n, fun | n => n⟩
theorem Tryz.lays212 : Go.Proofs.Lays.n212 Tryz.prog Tryz.lays212_ren := {
  mixed := by kernel_rfl
  f212 := Tryz.func55.trans (congrArg some (by kernel_rfl))
  f263 := Tryz.func95.trans (congrArg some (by kernel_rfl))
  f264 := Tryz.func96.trans (congrArg some (by kernel_rfl))
  t46 := Tryz.underlying96
  a46 := Tryz.isAgg96
  z46 := Tryz.sizeOf96
  v46 := Tryz.zeroValue96
  t51 := Tryz.underlying136
  a51 := Tryz.isAgg136
  z51 := Tryz.sizeOf136
  v51 := Tryz.zeroValue136
  t53 := Tryz.underlying139
  a53 := Tryz.isAgg139
  z53 := Tryz.sizeOf139
  v53 := Tryz.zeroValue139
  t146 := Tryz.underlying137
  a146 := Tryz.isAgg137
  z146 := Tryz.sizeOf137
  v146 := Tryz.zeroValue137
  t148 := Tryz.underlying140
  a148 := Tryz.isAgg140
  z148 := Tryz.sizeOf140
  v148 := Tryz.zeroValue140 }
open Go.RowKit Go.Lib in
theorem Tryz.bits_Mul (x y : Nat) (hx : x < 18446744073709551616) (hy : y < 18446744073709551616) (w : World) :
    Calls Tryz.prog 55 #[.int .u64 x, .int .u64 y] w fun e w' => e = .returned (.tuple #[.int .u64 ((x * y / 18446744073709551616 : Nat) : Int), .int .u64 ((x * y % 18446744073709551616 : Nat) : Int)]) ∧ w' = w := Any.bits_Mul Tryz.lays212 x y hx hy w
def Tryz.lays260_ren : Go.Shelf.Ren := ⟨fun | 260 => 119 | n => n, fun | 9 => 9 | 21 => 21 | 3 => 3 | 4 => 4 | 5 => 5 | 119 => 181 | 0 => 0 | 46 => 96 | 139 => 184 | 138 => 183 | n => n, fun | 3 => 0 | 4 => 1 | n => n⟩
theorem Tryz.lays260 : Go.Proofs.Lays.n260 Tryz.prog Tryz.lays260_ren := {
  mixed := by kernel_rfl
  f260 := Tryz.func119.trans (congrArg some (by kernel_rfl))
  t0 := Tryz.underlying0
  a0 := Tryz.isAgg0
  z0 := Tryz.sizeOf0
  v0 := Tryz.zeroValue0
  t3 := Tryz.underlying3
  a3 := Tryz.isAgg3
  z3 := Tryz.sizeOf3
  v3 := Tryz.zeroValue3
  t4 := Tryz.underlying4
  a4 := Tryz.isAgg4
  z4 := Tryz.sizeOf4
  v4 := Tryz.zeroValue4
  t5 := Tryz.underlying5
  a5 := Tryz.isAgg5
  z5 := Tryz.sizeOf5
  v5 := Tryz.zeroValue5
  t9 := Tryz.underlying9
  a9 := Tryz.isAgg9
  z9 := Tryz.sizeOf9
  v9 := Tryz.zeroValue9
  t21 := Tryz.underlying21
  a21 := Tryz.isAgg21
  z21 := Tryz.sizeOf21
  v21 := Tryz.zeroValue21
  t46 := Tryz.underlying96
  a46 := Tryz.isAgg96
  z46 := Tryz.sizeOf96
  v46 := Tryz.zeroValue96
  t119 := Tryz.underlying181
  a119 := Tryz.isAgg181
  z119 := Tryz.sizeOf181
  t138 := Tryz.underlying183
  a138 := Tryz.isAgg183
  z138 := Tryz.sizeOf183
  v138 := Tryz.zeroValue183
  t139 := Tryz.underlying184
  a139 := Tryz.isAgg184
  z139 := Tryz.sizeOf184
  v139 := Tryz.zeroValue184
  g3 := by kernel_rfl
  g4 := by kernel_rfl }
open Go.RowKit Go.Lib in
theorem Tryz.utf8_DecodeRuneInString (s : ByteArray) (w : World) (hT : Lib.Utf8Tabs 0 1 w) :
    Calls Tryz.prog 111 #[.string s] w fun e w' => e = .returned (.tuple #[.int .i32 (Lib.decodeGo s).1, .int .i64 (Lib.decodeGo s).2]) ∧ Below w.heap.size w w' := Any.utf8_DecodeRuneInString Tryz.lays197 s w hT
def Tryz.laysNm231_ren : Go.Shelf.Ren := ⟨fun | 31 => 92 | 37 => 112 | n => n, fun | 3 => 3 | 4 => 4 | n => n, fun | n => n⟩
theorem Tryz.laysNm231 : Go.Proofs.Lays2.n31 Tryz.prog Tryz.laysNm231_ren := {
  mixed := by kernel_rfl
  f31 := Tryz.func92.trans (congrArg some (by kernel_rfl))
  f37 := Tryz.func112.trans (congrArg some (by kernel_rfl))
  t3 := Tryz.underlying3
  a3 := Tryz.isAgg3
  z3 := Tryz.sizeOf3
  v3 := Tryz.zeroValue3
  t4 := Tryz.underlying4
  a4 := Tryz.isAgg4
  z4 := Tryz.sizeOf4
  v4 := Tryz.zeroValue4 }
open Go.RowKit Go.Lib in
theorem Tryz.cmp_Less_int2 (x y : Int) (w : World) :
    Calls Tryz.prog 92 #[.int .i64 x, .int .i64 y] w fun e w' => e = .returned (.bool (decide (x < y))) ∧ w' = w := Any.cmp_Less_int2 Tryz.laysNm231 x y w
end Go.Proofs
end
section
namespace Go.Proofs.YtggldnbhmebcpaaGreatDoor.L
open Go.RowKit Go.ChangeShapes Go.WideShapes Go.Proofs.YtggldnbhmebcpaaGreatDoorW.PrintWords Go.Proofs.YtggldnbhmebcpaaGreatDoorW.PrintLast Go.Proofs.YtggldnbhmebcpaaGreatDoorW.PrintMore
attribute [local go_sem] max2_int min2_int max_two min_two max_three min_three max_four min_four
def iota (n : Nat) : List Int := (List.range n).map (fun p : Nat => (p : Int))
theorem iota_len (n : Nat) : (iota n).length = n := by simp [iota]
theorem iota_rd (n i : Nat) (h : i < n) : rd (iota n) (i : Int) = (i : Int) := by
  rw [rd_eq (by rw [iota_len]; exact h)]
  simp [iota]
set_option maxRecDepth 100000 in
set_option maxHeartbeats 2000000 in
theorem sorted_iota (A : Option Addr) (c n : Nat) (w : World) (h : (Kd.int .i64).C w A n (iota n)) (hn : n ≤ 1000000) :
    Calls Tryz.prog 49 #[.slice A n c] w fun e w' => e = .returned (.bool true) ∧ Below w.heap.size w w' := by
  have HR := Aside0.mk h
  have HB := Aside0.mk (Below.refl w.heap.size w)
  clear h
  go_enter Tryz.func49, Tryz.ntmps49
  go_wp2
  go_loopw [3] (fun v3 W => ∃ i : Int, -1 ≤ i ∧ i < n ∧ v3 = .int .i64 i ∧ Aside0 (Below w.heap.size w W)) (fun v3 _ => (intOf v3).toNat)
  case atStart => exact ⟨(n : Int) - 1, by omega, by omega, by go_num, HB⟩
  case round =>
    obtain ⟨i, h0, h1, rfl, HW⟩ := hrel
    by_cases hp : 0 < i
    · obtain ⟨j, rfl⟩ : ∃ j : Nat, i = (j : Int) + 1 := ⟨(i - 1).toNat, by omega⟩
      have HRw := Aside0.mk (Kd.C_below HR.out HW.out)
      obtain ⟨ad, rfl, x0⟩ := at_nat HRw.out j (by omega)
      obtain ⟨ad', he, x1⟩ := at_nat HRw.out (j + 1) (by omega)
      injection he with he
      subst he
      rw [iota_rd n j (by omega)] at x0
      rw [iota_rd n (j + 1) (by omega)] at x1
      have d1 : decide ((j : Int) + 1 < (j : Int)) = false := decide_eq_false (by omega)
      have hw1 : IntKind.i64.wrap ((j : Int) + 1 - 1) = (j : Int) := by rw [wrap_i (by omega) (by omega)]; omega
      push_cast at x1
      replace x1 : wr.cell? ⟨ad.block, ad.off + (j + 1), none⟩ = some (.int .i64 ((j : Int) + 1)) := x1
      have b1 : (0 : Int) ≤ (j : Int) + 1 := by omega
      have b2 : (j : Int) + 1 < (n : Int) := by omega
      have b3 : (j : Int) < (n : Int) := by omega
      have d0 : decide (0 < (j : Int) + 1) = true := decide_eq_true (by omega)
      go_wp2
      go_quiet (first | (go_at_call 92; refine Calls.quiet_of_same (Tryz.cmp_Less_int2 _ _ _)))
      go_wp2
      go_roundw
      case rel => exact ⟨(j : Int), by omega, by omega, by go_num, ⟨below_step HW.out (pw_below_drewN (Below.refl _ _) nq)⟩⟩
      case measure => simp [intOf]
    · have d : decide (0 < i) = false := decide_eq_false hp
      go_wp2
      go_ret
      exact ⟨rfl, HW.out⟩

noncomputable def isC (s : Scene) : Bool := decide (nums s = iota (nums s).length ∧ 0 < (nums s).length)
theorem iota_of {l : List Int} (h : ∀ j : Nat, j < l.length → rd l (j : Int) = (j : Int)) : l = iota l.length := by
  refine List.ext_getElem (iota_len _).symm (fun i h1 h2 => ?_)
  rw [← rd_eq h1, ← rd_eq h2, h i h1, iota_rd _ _ h1]
theorem isC_bad {s : Scene} {i : Nat} (hi : i < (nums s).length) (h : ¬ rd (nums s) (i : Int) = (i : Int)) : isC s = false := by
  unfold isC
  refine decide_eq_false (fun hh => h ?_)
  rw [hh.1, iota_rd _ _ hi]
set_option maxRecDepth 100000 in
set_option maxHeartbeats 4000000 in
theorem is_any (A : Option Addr) (c : Nat) (s : Scene) (w : World) (h : kNode.C w A s.nodes.length s.nodes) (hM : rows s.nodes ≤ 400000) :
    Calls Tryz.prog 26 #[.agg #[.slice A s.nodes.length c, .int .i64 s.root]] w fun e w' => e = .returned (.bool (isC s)) ∧ Below w.heap.size w w' := by
  have HR := Aside0.mk h
  have HM := Aside0.mk hM
  have b0 := h.2.1
  have HB := Aside0.mk (below_alloc (Below.refl w.heap.size w) (.cells #[.slice A s.nodes.length c, .int .i64 s.root] 24))
  have k0 := box_cell w _ rfl #[.slice A s.nodes.length c, .int .i64 s.root] 24 0 _ rfl
  have k1 := box_cell w _ rfl #[.slice A s.nodes.length c, .int .i64 s.root] 24 1 _ rfl
  have hu := Tryz.underlying24
  have hnl : (nums s).length ≤ 400000 := by
    unfold nums
    split
    · rw [numsL_len]; exact Nat.le_trans (len_rows _) hM
    · simp
  clear h hM
  go_enter Tryz.func26, Tryz.ntmps26
  go_wp2_with fail
  refine (numbers_canon A c s _ (Kd.C_below HR.out HB.out) HM.out).mono ?_
  rintro e w1 ⟨A1, c1, rfl, hR1, hB1⟩
  have HB1 := Aside0.mk (below_step HB.out hB1)
  have HR1 := Aside0.mk (Kd.R_reads' hR1).2.2
  clear hB1 hR1 k0 k1
  go_wp2
  go_loopw [10] (fun v10 W => ∃ i : Nat, i ≤ (nums s).length ∧ v10 = .int .i64 i ∧ Aside0 (∀ j : Nat, j < i → rd (nums s) (j : Int) = (j : Int)) ∧ W = w1) (fun v10 _ => (nums s).length - (intOf v10).toNat)
  case atStart => exact ⟨0, by omega, rfl, ⟨fun j h => by omega⟩, rfl⟩
  case round =>
    obtain ⟨i, hi, rfl, HI, rfl⟩ := hrel
    by_cases hlt : i < (nums s).length
    · obtain ⟨ad, rfl, x⟩ := at_nat HR1.out i hlt
      by_cases he : rd (nums s) (i : Int) = (i : Int)
      · have HN := Aside0.mk (ext_lt HI.out he)
        rw [he] at x
        clear he
        go_wp2
        go_roundw
        case rel => exact ⟨i + 1, by omega, by go_num, HN, by first | rfl | trivial⟩
        case measure => simp [intOf]; omega
      · have HE := Aside0.mk (isC_bad hlt he)
        have d : ((i : Int) != rd (nums s) (i : Int)) = true := by simpa using fun h => he h.symm
        clear he
        go_wp2
        go_ret
        exact ⟨ret_bool HE.out.symm, HB1.out⟩
    · obtain rfl : i = (nums s).length := by omega
      have HE := Aside0.mk (iota_of HI.out)
      by_cases hp : 0 < (nums s).length
      · have HC := Aside0.mk (show isC s = true from decide_eq_true ⟨HE.out, hp⟩)
        have d : decide (0 < ((nums s).length : Int)) = true := decide_eq_true (by omega)
        have HI2 := Aside0.mk (show (Kd.int .i64).C wr A1 (nums s).length (iota (nums s).length) from HE.out ▸ HR1.out)
        clear HI
        go_wp2_with fail
        refine (sorted_iota A1 c1 _ _ HI2.out (by omega)).mono ?_
        rintro e w2 ⟨rfl, hB2⟩
        go_wp2
        go_ret
        exact ⟨ret_bool HC.out.symm, below_step HB1.out hB2⟩
      · have HC := Aside0.mk (show isC s = false from decide_eq_false (fun h => hp h.2))
        have d : decide (0 < ((nums s).length : Int)) = false := decide_eq_false (by omega)
        clear HI
        go_wp2
        go_ret
        exact ⟨ret_bool HC.out.symm, HB1.out⟩
end Go.Proofs.YtggldnbhmebcpaaGreatDoor.L
end
section
namespace Go.Proofs.YtggldnbhmebcpaaGreatDoor.L
open Go.RowKit Go.ChangeShapes Go.WideShapes Go.Proofs.YtggldnbhmebcpaaGreatDoorW.PrintWords Go.Proofs.YtggldnbhmebcpaaGreatDoorW.PrintLast Go.Proofs.YtggldnbhmebcpaaGreatDoorW.PrintMore
attribute [local go_sem] max2_int min2_int max_two min_two max_three min_three max_four min_four
theorem kNode_mkM {w : World} {base : Nat} {ok : Nat → Prop} {n : Node} {v1 v2 v3 : Value} (h1 : (Kd.int .i64).R 2 w base ok v1 n.ints) (h2 : Kd.string.R 9 w base ok v2 n.texts) (h3 : (Kd.int .i64).R 3 w base ok v3 n.kids) :
    kNode.M w base ok n [.int .i64 n.kind, v1, v2, v3] := ⟨[_], [v1, v2, v3], rfl, rfl, ⟨[v1], [v2, v3], rfl, ⟨v1, rfl, h1⟩, ⟨[v2], [v3], rfl, ⟨v2, rfl, h2⟩, ⟨v3, rfl, h3⟩⟩⟩⟩
theorem kNode_openM {w : World} {base : Nat} {ok : Nat → Prop} {n : Node} {cs : List Value} (h : kNode.M w base ok n cs) : ∃ v1 v2 v3, cs = [.int .i64 n.kind, v1, v2, v3] ∧ (Kd.int .i64).R 2 w base ok v1 n.ints ∧ Kd.string.R 9 w base ok v2 n.texts ∧ (Kd.int .i64).R 3 w base ok v3 n.kids := by
  obtain ⟨_, _, rfl, rfl, ⟨_, _, rfl, ⟨v1, rfl, h1⟩, ⟨_, _, rfl, ⟨v2, rfl, h2⟩, ⟨v3, rfl, h3⟩⟩⟩⟩ := h
  exact ⟨v1, v2, v3, rfl, h1, h2, h3⟩
def Small (n : Node) : Prop := n.ints.length ≤ 1000000 ∧ n.texts.length ≤ 1000000 ∧ n.kids.length ≤ 1000000
def IsNodeM (base : Nat) (n : Node) (v : Value) (w : World) : Prop := ∃ v1 v2 v3, v = .agg #[.int .i64 n.kind, v1, v2, v3] ∧ kNode.M w base (fun _ => True) n [.int .i64 n.kind, v1, v2, v3]
def CopyPost (n : Node) (w : World) (e : Ending) (w' : World) : Prop := ∃ v, e = .returned v ∧ IsNodeM w.heap.size n v w' ∧ Below w.heap.size w w'
set_option maxRecDepth 100000 in
set_option maxHeartbeats 400000 in
theorem copy_any (n : Node) (A1 : Option Addr) (c1 : Nat) (A2 : Option Addr) (c2 : Nat) (A3 : Option Addr) (c3 : Nat) (w : World) (h : NodeC w n A1 c1 A2 c2 A3 c3) (hs : Small n) :
    Calls Tryz.prog 30 #[.agg #[.int .i64 n.kind, .slice A1 n.ints.length c1, .slice A2 n.texts.length c2, .slice A3 n.kids.length c3]] w (CopyPost n w) := by
  have HN := Aside0.mk h
  have HS := Aside0.mk hs
  have HB := Aside0.mk (Below.refl w.heap.size w)
  clear h hs
  have HL := Aside0.mk (show Lives 4 (w.heap.size + 1) ((w.alloc (Obj.cells #[.int .i64 n.kind, .slice A1 n.ints.length c1, .slice A2 n.texts.length c2, .slice A3 n.kids.length c3] 42)).alloc (Obj.cells #[Value.int IntKind.i64 0, Value.slice none 0 0, Value.slice none 0 0, Value.slice none 0 0] 42)) from by
    have := Lives.new (w.alloc (Obj.cells #[.int .i64 n.kind, .slice A1 n.ints.length c1, .slice A2 n.texts.length c2, .slice A3 n.kids.length c3] 42)) #[Value.int IntKind.i64 0, Value.slice none 0 0, Value.slice none 0 0, Value.slice none 0 0] 42
    simpa using this)
  have HBa := Aside0.mk (below_alloc (below_alloc HB.out (Obj.cells #[.int .i64 n.kind, .slice A1 n.ints.length c1, .slice A2 n.texts.length c2, .slice A3 n.kids.length c3] 42)) (Obj.cells #[Value.int IntKind.i64 0, Value.slice none 0 0, Value.slice none 0 0, Value.slice none 0 0] 42))
  have hu := Tryz.underlying42
  have hL0 := fun (W : World) (h : Lives 4 (w.heap.size + 1) W) => h.at 0 (by omega)
  have hL1 := fun (W : World) (h : Lives 4 (w.heap.size + 1) W) => h.at 1 (by omega)
  have hL2 := fun (W : World) (h : Lives 4 (w.heap.size + 1) W) => h.at 2 (by omega)
  have hL3 := fun (W : World) (h : Lives 4 (w.heap.size + 1) W) => h.at 3 (by omega)
  go_enter Tryz.func30, Tryz.ntmps30
  go_wp2_with fail
  go_region_held3 (fun W => W.cell? ⟨w.heap.size, 0, none⟩ = some (.int .i64 n.kind) ∧ W.cell? ⟨w.heap.size, 1, none⟩ = some (.slice A1 n.ints.length c1) ∧ W.cell? ⟨w.heap.size, 2, none⟩ = some (.slice A2 n.texts.length c2) ∧ W.cell? ⟨w.heap.size, 3, none⟩ = some (.slice A3 n.kids.length c3) ∧ Lives 4 (w.heap.size + 1) W)
    (first
      | (go_split_ands
         refine ⟨?_, ?_, ?_, ?_, ?_⟩
         all_goals first
           | with_reducible exact HL.out
           | with_reducible exact pw_cell_below hB (by assumption)
           | with_reducible exact Lives.below (by assumption) hB
           | with_reducible exact far_set (far_set (far_set (far_set (by assumption) _ _ (by simp) _) _ _ (by simp) _) _ _ (by simp) _) _ _ (by simp) _
           | with_reducible exact Lives.set (Lives.set (Lives.set (Lives.set (by assumption) _ _) _ _) _ _) _ _
           | (simp; done)
           | exact HL.out))
    (first
      | (go_at_call 59; refine (clone_i64 A1 c1 n.ints _ ?_ ?_).mono ?_; (exact Kd.C_below HN.out.i (below_drew HBa.out)); (exact Nat.le_trans HS.out.1 (by omega)); rintro e w1 ⟨B1, d1, rfl, hR1, hB1⟩; have HB1 := Aside0.mk (below_step (below_drew HBa.out) hB1); have hB := hB1)
      | (go_at_call 60; refine (clone_str A2 c2 n.texts _ ?_ ?_).mono ?_; (exact Kd.C_below HN.out.t HB1.out); (exact Nat.le_trans HS.out.2.1 (by omega)); rintro e w2 ⟨B2, d2, rfl, hR2, hB2⟩; have HB2 := Aside0.mk (below_step HB1.out hB2); have hB := hB2)
      | (go_at_call 61; refine (clone_int A3 c3 n.kids _ ?_ ?_).mono ?_; (exact Kd.C_below HN.out.k HB2.out); (exact Nat.le_trans HS.out.2.2 (by omega)); rintro e w3 ⟨B3, d3, rfl, hR3, hB3⟩; have HB3 := Aside0.mk (below_step HB2.out hB3); have hB := hB3))
  have HSz := Aside0.mk (show w.heap.size + 2 ≤ w1.heap.size from by have := hB1.size; simpa using this)
  have HSz2 := Aside0.mk hB2.size
  have HR1 := Aside0.mk (Kd.R_below (Kd.R_below hR1 hB2) hB3)
  have HR2 := Aside0.mk (Kd.R_below hR2 hB3)
  have HR3 := Aside0.mk hR3
  have HLv := Aside0.mk (Lives.below (Lives.below (Lives.below (Lives.drew HL.out) hB1) hB2) hB3)
  clear hB hB1 hB2 hB3 hR1 hR2 hR3 hL0 hL1 hL2 hL3
  go_wp2
  have h4 := HLv.out.set4 (.int .i64 n.kind) (.slice B1 n.ints.length d1) (.slice B2 n.texts.length d2) (.slice B3 n.kids.length d3)
  exact bodyPost_ret (v := .agg #[.int .i64 n.kind, .slice B1 n.ints.length d1, .slice B2 n.texts.length d2, .slice B3 n.kids.length d3]) (by simp [results, Tryz.results30, go_sem, h4]) rfl
    ⟨_, rfl, ⟨_, _, _, rfl, kNode_mkM (Kd.R_lower (R_old4 HR1.out (by simp) _ _ _ _) (by simp; omega)) (Kd.R_lower (R_old4 HR2.out (by have := HSz.out; omega) _ _ _ _) (by have := HSz.out; omega)) (Kd.R_lower (R_old4 HR3.out (by have := HSz.out; have := HSz2.out; omega) _ _ _ _) (by have := HSz.out; have := HSz2.out; omega))⟩, below_set4 HB3.out (by omega)⟩
end Go.Proofs.YtggldnbhmebcpaaGreatDoor.L
end
section
namespace Go.Proofs.YtggldnbhmebcpaaGreatDoor.L
open Go.RowKit Go.ChangeShapes Go.WideShapes Go.Proofs.YtggldnbhmebcpaaGreatDoorW.PrintWords Go.Proofs.YtggldnbhmebcpaaGreatDoorW.PrintLast Go.Proofs.YtggldnbhmebcpaaGreatDoorW.PrintMore
attribute [local go_sem] max2_int min2_int max_two min_two max_three min_three max_four min_four
def relab (s : Scene) (n : Node) : Node := ⟨n.kind, n.ints, n.texts, n.kids.map (fun k => (idx s k : Int))⟩
def canonL (s : Scene) : List Node := (ord s).map (fun a => relab s (nd s.nodes a.toNat))
theorem info_nodez : (Tryz.prog.info? 42).map (fun i => (i.zero, i.size, i.bytes)) = some (some (.agg #[.int .i64 0, .slice none 0 0, .slice none 0 0, .slice none 0 0]), 4, 80) := by kernel_rfl
theorem box2 {W : World} {b : Nat} {x0 x1 : Value} {T : TypeId} (h : W.heap[b]? = some (.cells #[x0, x1] T (0, 0))) (u0 u1 : Value) : ((W.setCell ⟨b, 0, none⟩ u0).setCell ⟨b, 1, none⟩ u1).heap[b]? = some (.cells #[u0, u1] T (0, 0)) := by
  have := blk_set (blk_set h 0 u0) 1 u1
  simpa using this
theorem box4 {W : World} {b : Nat} {x0 x1 x2 x3 : Value} {T : TypeId} (h : W.heap[b]? = some (.cells #[x0, x1, x2, x3] T (0, 0))) (u0 u1 u2 u3 : Value) : ((((W.setCell ⟨b, 0, none⟩ u0).setCell ⟨b, 1, none⟩ u1).setCell ⟨b, 2, none⟩ u2).setCell ⟨b, 3, none⟩ u3).heap[b]? = some (.cells #[u0, u1, u2, u3] T (0, 0)) := by
  have := blk_set (blk_set (blk_set (blk_set h 0 u0) 1 u1) 2 u2) 3 u3
  simpa using this
theorem set_grown (W : World) (b i : Nat) (u : Value) : W.grownBy (W.setCell ⟨b, i, none⟩ u) (some b) := ⟨rfl, rfl, rfl, by simp, fun k _ hk => Below.heap_setCell W ⟨b, i, none⟩ u k (fun e => hk (by rw [e]))⟩
theorem R_type {α : Type} {d : Kd α} {e base : Nat} {ok : Nat → Prop} {W : World} {v : Value} {xs : List α} {g : Nat} {cells : Array Value} {T : TypeId} (h : d.R e W base ok v xs) (hb : W.heap[g]? = some (.cells cells T (0, 0))) (hT : ¬ T ∈ e :: d.E) (u : Value) (i : Nat) : d.R e (W.setCell ⟨g, i, none⟩ u) base ok v xs :=
  Kd.R_mono (Kd.R_grown (Kd.R_bound h) (set_grown W g i u) (fun k hk he => by
    injection he with he
    obtain ⟨_, _, _, q, hq, cs, hc⟩ := hk
    subst he
    rw [hb] at hc
    injection hc with hc
    injection hc with _ hc
    subst hc
    exact hT hq)) (fun _ hk => hk.1)
theorem below_set2 {B b : Nat} {w W : World} {u0 u1 : Value} (h : Below B w W) (hb : B ≤ b) : Below B w ((W.setCell ⟨b, 0, none⟩ u0).setCell ⟨b, 1, none⟩ u1) := (h.setCell (p := ⟨b, 0, none⟩) hb u0).setCell (p := ⟨b, 1, none⟩) hb u1
section
variable {s : Scene} {w W W1 : World} {A2 : Option Addr} {c2 gs gn i : Nat} {l : List Node}
theorem idx_inj {s : Scene} (hr : Right s) {p q : Nat} (hp : p < s.nodes.length) (hq : q < s.nodes.length) (h : idx s (p : Int) = idx s (q : Int)) : p = q := by
  have h1 := (at_idx hr hp).2
  have h2 := (at_idx hr hq).2
  rw [h] at h1
  rw [h1] at h2
  omega
end
end Go.Proofs.YtggldnbhmebcpaaGreatDoor.L
end
section
namespace Go.Proofs.YtggldnbhmebcpaaGreatDoor.L
open Go.RowKit Go.ChangeShapes Go.WideShapes Go.Proofs.YtggldnbhmebcpaaGreatDoorW.PrintWords Go.Proofs.YtggldnbhmebcpaaGreatDoorW.PrintLast Go.Proofs.YtggldnbhmebcpaaGreatDoorW.PrintMore
attribute [local go_sem] max2_int min2_int max_two min_two max_three min_three max_four min_four
def greatN (n : Node) : Bool := decide (100 < n.ints.length ∨ 100 < n.texts.length ∨ 300 < n.kids.length ∨ ∃ j, j < n.texts.length ∧ 500 < (str n.texts j).size)
set_option maxRecDepth 100000 in
set_option maxHeartbeats 2000000 in
theorem great_any (n : Node) (A1 : Option Addr) (c1 : Nat) (A2 : Option Addr) (c2 : Nat) (A3 : Option Addr) (c3 : Nat) (w : World) (h : NodeC w n A1 c1 A2 c2 A3 c3) :
    Calls Tryz.prog 40 #[.agg #[.int .i64 n.kind, .slice A1 n.ints.length c1, .slice A2 n.texts.length c2, .slice A3 n.kids.length c3]] w fun e w' => e = .returned (.bool (greatN n)) ∧ Below w.heap.size w w' := by
  have HN := Aside0.mk h
  have b2 := h.t.2.1
  have hB := below_alloc (Below.refl w.heap.size w) (.cells #[.int .i64 n.kind, .slice A1 n.ints.length c1, .slice A2 n.texts.length c2, .slice A3 n.kids.length c3] 42)
  have HB := Aside0.mk hB
  have HX := Aside0.mk (show (w.alloc (.cells #[.int .i64 n.kind, .slice A1 n.ints.length c1, .slice A2 n.texts.length c2, .slice A3 n.kids.length c3] 42)).heap[w.heap.size]? = some (.cells #[.int .i64 n.kind, .slice A1 n.ints.length c1, .slice A2 n.texts.length c2, .slice A3 n.kids.length c3] 42 (0, 0)) from by simpa using heap_alloc_new w _)
  have k1 := (blk_cell HX.out 1).trans rfl
  have k2 := (blk_cell HX.out 2).trans rfl
  have k3 := (blk_cell HX.out 3).trans rfl
  have hun := Tryz.underlying42
  clear h hB
  by_cases h1 : 100 < n.ints.length
  · have HE : Aside0 (greatN n = true) := ⟨decide_eq_true (.inl h1)⟩
    have d1 : decide (100 < (n.ints.length : Int)) = true := decide_eq_true (by omega)
    clear h1
    go_enter Tryz.func40, Tryz.ntmps40
    go_wp2
    go_ret
    exact ⟨ret_bool HE.out.symm, HB.out⟩
  have d1 : decide (100 < (n.ints.length : Int)) = false := decide_eq_false (by omega)
  by_cases h2 : 100 < n.texts.length
  · have HE : Aside0 (greatN n = true) := ⟨decide_eq_true (.inr (.inl h2))⟩
    have d2 : decide (100 < (n.texts.length : Int)) = true := decide_eq_true (by omega)
    clear h1 h2
    go_enter Tryz.func40, Tryz.ntmps40
    go_wp2
    go_ret
    exact ⟨ret_bool HE.out.symm, HB.out⟩
  have d2 : decide (100 < (n.texts.length : Int)) = false := decide_eq_false (by omega)
  by_cases h3 : 300 < n.kids.length
  · have HE : Aside0 (greatN n = true) := ⟨decide_eq_true (.inr (.inr (.inl h3)))⟩
    have d3 : decide (300 < (n.kids.length : Int)) = true := decide_eq_true (by omega)
    clear h1 h2 h3
    go_enter Tryz.func40, Tryz.ntmps40
    go_wp2
    go_ret
    exact ⟨ret_bool HE.out.symm, HB.out⟩
  have d3 : decide (300 < (n.kids.length : Int)) = false := decide_eq_false (by omega)
  have H123 : Aside0 (¬ 100 < n.ints.length ∧ ¬ 100 < n.texts.length ∧ ¬ 300 < n.kids.length) := ⟨h1, h2, h3⟩
  clear h1 h2 h3
  go_enter Tryz.func40, Tryz.ntmps40
  go_wp2
  clear d1 d2 d3
  go_loopw [3] (fun v3 W => ∃ i : Nat, i ≤ n.texts.length ∧ v3 = .int .i64 i ∧ W = w.alloc (.cells #[.int .i64 n.kind, .slice A1 n.ints.length c1, .slice A2 n.texts.length c2, .slice A3 n.kids.length c3] 42) ∧ Aside0 (∀ j, j < i → ¬ 500 < (str n.texts j).size)) (fun v3 _ => n.texts.length - (intOf v3).toNat)
  case atStart => exact ⟨0, by omega, rfl, by first | rfl | trivial, ⟨fun j h => by omega⟩⟩
  case round =>
    obtain ⟨i, hi, rfl, rfl, HA⟩ := hrel
    by_cases hlt : i < n.texts.length
    · obtain ⟨ad, rfl, x⟩ := at_str (Kd.C_below HN.out.t HB.out) i hlt
      by_cases hg : 500 < (str n.texts i).size
      · have HE : Aside0 (greatN n = true) := ⟨decide_eq_true (.inr (.inr (.inr ⟨i, hlt, hg⟩)))⟩
        have d5 : decide (500 < ((str n.texts i).size : Int)) = true := decide_eq_true (by omega)
        clear hg
        go_wp2
        go_ret
        exact ⟨ret_bool HE.out.symm, HB.out⟩
      · have HA2 := Aside0.mk (ext_lt HA.out hg)
        have d5 : decide (500 < ((str n.texts i).size : Int)) = false := decide_eq_false (by omega)
        clear hg
        go_wp2
        go_roundw
        case rel => exact ⟨i + 1, by omega, by go_num, by first | rfl | trivial, HA2⟩
        case measure => simp [intOf]; omega
    · obtain rfl : i = n.texts.length := by omega
      have HE : Aside0 (greatN n = false) := ⟨decide_eq_false (fun h => by
        rcases h with h | h | h | ⟨j, hj, h⟩
        · exact H123.out.1 h
        · exact H123.out.2.1 h
        · exact H123.out.2.2 h
        · exact HA.out j hj h)⟩
      go_wp2
      go_ret
      exact ⟨ret_bool HE.out.symm, HB.out⟩
end Go.Proofs.YtggldnbhmebcpaaGreatDoor.L
end
section
namespace Go.Proofs.YtggldnbhmebcpaaGreatDoor.L
open Go.RowKit Go.ChangeShapes Go.WideShapes Go.Proofs.YtggldnbhmebcpaaGreatDoorW.PrintWords Go.Proofs.YtggldnbhmebcpaaGreatDoorW.PrintLast Go.Proofs.YtggldnbhmebcpaaGreatDoorW.PrintMore
attribute [local go_sem] max2_int min2_int max_two min_two max_three min_three max_four min_four
structure SetV where
  text : Bool
  field : Int
  n : Int
  s : ByteArray
def kSet : Kd SetV := Kd.iso (Kd.pair Kd.bool (Kd.pair (Kd.int .i64) (Kd.pair (Kd.int .i64) Kd.string))) (fun x : SetV => (x.text, x.field, x.n, x.s))
theorem kSet_mk (w : World) (base : Nat) (ok : Nat → Prop) (x : SetV) : kSet.M w base ok x [.bool x.text, .int .i64 x.field, .int .i64 x.n, .string x.s] := ⟨[_], [_, _, _], rfl, rfl, ⟨[_], [_, _], rfl, rfl, ⟨[_], [_], rfl, rfl, rfl⟩⟩⟩
theorem info_set : (Tryz.prog.info? 56).map (fun i => (i.zero, i.size, i.bytes)) = some (some (.agg #[.bool false, .int .i64 0, .int .i64 0, .string ByteArray.empty]), 4, 40) := by kernel_rfl
def diffI (a b : List Int) (i : Nat) : List SetV := ((List.range i).filter (fun p : Nat => decide (¬ rd a (p : Int) = rd b (p : Int)))).map (fun p : Nat => ⟨false, (p : Int), rd b (p : Int), ByteArray.empty⟩)
def diffT (a b : List ByteArray) (i : Nat) : List SetV := ((List.range i).filter (fun p : Nat => decide (¬ str a p = str b p))).map (fun p : Nat => ⟨true, (p : Int), 0, str b p⟩)
theorem diffI_yes {a b : List Int} {i : Nat} (h : ¬ rd a (i : Int) = rd b (i : Int)) : diffI a b (i + 1) = diffI a b i ++ [⟨false, (i : Int), rd b (i : Int), ByteArray.empty⟩] := by
  unfold diffI
  rw [List.range_succ, List.filter_append, List.map_append, List.filter_cons, if_pos (decide_eq_true h)]
  rfl
theorem diffI_no {a b : List Int} {i : Nat} (h : rd a (i : Int) = rd b (i : Int)) : diffI a b (i + 1) = diffI a b i := by
  unfold diffI
  rw [List.range_succ, List.filter_append, List.map_append, List.filter_cons, if_neg (by simp [h])]
  simp
theorem diffT_yes {a b : List ByteArray} {i : Nat} (h : ¬ str a i = str b i) : diffT a b (i + 1) = diffT a b i ++ [⟨true, (i : Int), 0, str b i⟩] := by
  unfold diffT
  rw [List.range_succ, List.filter_append, List.map_append, List.filter_cons, if_pos (decide_eq_true h)]
  rfl
theorem diffT_no {a b : List ByteArray} {i : Nat} (h : str a i = str b i) : diffT a b (i + 1) = diffT a b i := by
  unfold diffT
  rw [List.range_succ, List.filter_append, List.map_append, List.filter_cons, if_neg (by simp [h])]
  simp
theorem diffI_len (a b : List Int) (i : Nat) : (diffI a b i).length ≤ i := by
  unfold diffI
  rw [List.length_map]
  exact Nat.le_trans (List.length_filter_le _ _) (by simp)
theorem diffT_len (a b : List ByteArray) (i : Nat) : (diffT a b i).length ≤ i := by
  unfold diffT
  rw [List.length_map]
  exact Nat.le_trans (List.length_filter_le _ _) (by simp)
def alike (a b : Node) : Bool := decide (a.kind = b.kind ∧ a.ints.length = b.ints.length ∧ a.texts.length = b.texts.length)
def diffL (a b : Node) : List SetV := if alike a b = true then diffI a.ints b.ints a.ints.length ++ diffT a.texts b.texts a.texts.length else []
theorem diffL_nil {a b : Node} (h : alike a b = true) : (diffL a b = [] ↔ a.ints = b.ints ∧ a.texts = b.texts) := by
  unfold diffL
  rw [if_pos h, List.append_eq_nil_iff]
  obtain ⟨_, h1, h2⟩ := of_decide_eq_true h
  unfold diffI diffT
  rw [List.map_eq_nil_iff, List.map_eq_nil_iff, List.filter_eq_nil_iff, List.filter_eq_nil_iff]
  constructor
  · rintro ⟨k1, k2⟩
    refine ⟨List.ext_getElem h1 (fun i i1 i2 => ?_), List.ext_getElem h2 (fun i i1 i2 => ?_)⟩
    · have := k1 i (List.mem_range.2 i1)
      rw [← rd_eq i1, ← rd_eq i2]
      simpa using this
    · have := k2 i (List.mem_range.2 i1)
      have e : str a.texts i = str b.texts i := by simpa using this
      unfold str at e
      rw [getD_eq _ i1, getD_eq _ i2] at e
      exact e
  · rintro ⟨k1, k2⟩
    exact ⟨fun i _ => by rw [k1]; simp, fun i _ => by rw [k2]; simp⟩
end Go.Proofs.YtggldnbhmebcpaaGreatDoor.L
end
section
namespace Go.Proofs.YtggldnbhmebcpaaGreatDoor.L
open Go.RowKit Go.ChangeShapes Go.WideShapes Go.Proofs.YtggldnbhmebcpaaGreatDoorW.PrintWords Go.Proofs.YtggldnbhmebcpaaGreatDoorW.PrintLast Go.Proofs.YtggldnbhmebcpaaGreatDoorW.PrintMore
attribute [local go_sem] max2_int min2_int max_two min_two max_three min_three max_four min_four
theorem str_ne {x y : ByteArray} (h : ¬ x = y) : (!(x.toList == y.toList)) = true := by
 have : ¬ x.toList = y.toList := fun e => h (by
  rw [ByteArray.toList_eq, ByteArray.toList_eq] at e
  exact ByteArray.ext (Array.toList_inj.mp e))
 simp [this]
structure DRel (a b : Node) (A1 : Option Addr) (c1 : Nat) (A2 : Option Addr) (c2 : Nat) (A3 : Option Addr) (c3 : Nat) (B1 : Option Addr) (d1 : Nat) (B2 : Option Addr) (d2 : Nat) (B3 : Option Addr) (d3 : Nat) (w : World) (L : List SetV) (v : Value) (W : World) : Prop where
 row : kSet.R 56 W w.heap.size (fun _ => True) v L
 below : Below w.heap.size w W
 ba : W.heap[w.heap.size]? = some (.cells #[.int .i64 a.kind, .slice A1 a.ints.length c1, .slice A2 a.texts.length c2, .slice A3 a.kids.length c3] 42 (0, 0))
 bb : W.heap[w.heap.size + 1]? = some (.cells #[.int .i64 b.kind, .slice B1 a.ints.length d1, .slice B2 a.texts.length d2, .slice B3 b.kids.length d3] 42 (0, 0))
theorem DRel.drew {a b : Node} {A1 : Option Addr} {c1 : Nat} {A2 : Option Addr} {c2 : Nat} {A3 : Option Addr} {c3 : Nat} {B1 : Option Addr} {d1 : Nat} {B2 : Option Addr} {d2 : Nat} {B3 : Option Addr} {d3 : Nat} {w : World} {L : List SetV} {v : Value} {W : World} (h : DRel a b A1 c1 A2 c2 A3 c3 B1 d1 B2 d2 B3 d3 w L v W) : DRel a b A1 c1 A2 c2 A3 c3 B1 d1 B2 d2 B3 d3 w L v W.drew :=
 ⟨Kd.R_drew h.row, pw_below_drewN h.below 1, h.ba, h.bb⟩
def DiffPost (a b : Node) (w : World) (e : Ending) (w' : World) : Prop :=
 ∃ A c, e = .returned (.tuple #[.slice A (diffL a b).length c, .bool (alike a b)]) ∧ kSet.R 56 w' w.heap.size (fun _ => True) (.slice A (diffL a b).length c) (diffL a b) ∧ Below w.heap.size w w'
set_option maxRecDepth 100000 in
set_option maxHeartbeats 4000000 in
theorem diff_any (a b : Node) (A1 : Option Addr) (c1 : Nat) (A2 : Option Addr) (c2 : Nat) (A3 : Option Addr) (c3 : Nat) (B1 : Option Addr) (d1 : Nat) (B2 : Option Addr) (d2 : Nat) (B3 : Option Addr) (d3 : Nat) (w : World) (h : NodeC w a A1 c1 A2 c2 A3 c3) (h' : NodeC w b B1 d1 B2 d2 B3 d3) (hs : Small a) :
  Calls Tryz.prog 68 #[.agg #[.int .i64 a.kind, .slice A1 a.ints.length c1, .slice A2 a.texts.length c2, .slice A3 a.kids.length c3], .agg #[.int .i64 b.kind, .slice B1 b.ints.length d1, .slice B2 b.texts.length d2, .slice B3 b.kids.length d3]] w (DiffPost a b w) := by
 have HA := Aside0.mk h
 have HBn := Aside0.mk h'
 have hs1 := hs.1
 have hs2 := hs.2.1
 have hun := Tryz.underlying42
 have hset := Tryz.underlying56
 have HB := Aside0.mk (below_alloc (below_alloc (Below.refl w.heap.size w) (.cells #[.int .i64 a.kind, .slice A1 a.ints.length c1, .slice A2 a.texts.length c2, .slice A3 a.kids.length c3] 42)) (.cells #[.int .i64 b.kind, .slice B1 b.ints.length d1, .slice B2 b.texts.length d2, .slice B3 b.kids.length d3] 42))
 have HXa := Aside0.mk (show ((w.alloc (.cells #[.int .i64 a.kind, .slice A1 a.ints.length c1, .slice A2 a.texts.length c2, .slice A3 a.kids.length c3] 42)).alloc (.cells #[.int .i64 b.kind, .slice B1 b.ints.length d1, .slice B2 b.texts.length d2, .slice B3 b.kids.length d3] 42)).heap[w.heap.size]? = some (.cells #[.int .i64 a.kind, .slice A1 a.ints.length c1, .slice A2 a.texts.length c2, .slice A3 a.kids.length c3] 42 (0, 0)) from by
  have : (w.alloc (.cells #[.int .i64 a.kind, .slice A1 a.ints.length c1, .slice A2 a.texts.length c2, .slice A3 a.kids.length c3] 42)).heap[w.heap.size]? = some (.cells #[.int .i64 a.kind, .slice A1 a.ints.length c1, .slice A2 a.texts.length c2, .slice A3 a.kids.length c3] 42 (0, 0)) := by simpa using heap_alloc_new w _
  exact (Below.block (below_alloc (Below.refl _ _) _) _ (by simp)).trans this)
 have HXb := Aside0.mk (show ((w.alloc (.cells #[.int .i64 a.kind, .slice A1 a.ints.length c1, .slice A2 a.texts.length c2, .slice A3 a.kids.length c3] 42)).alloc (.cells #[.int .i64 b.kind, .slice B1 b.ints.length d1, .slice B2 b.texts.length d2, .slice B3 b.kids.length d3] 42)).heap[w.heap.size + 1]? = some (.cells #[.int .i64 b.kind, .slice B1 b.ints.length d1, .slice B2 b.texts.length d2, .slice B3 b.kids.length d3] 42 (0, 0)) from by
  have := heap_alloc_new (w.alloc (.cells #[.int .i64 a.kind, .slice A1 a.ints.length c1, .slice A2 a.texts.length c2, .slice A3 a.kids.length c3] 42)) (.cells #[.int .i64 b.kind, .slice B1 b.ints.length d1, .slice B2 b.texts.length d2, .slice B3 b.kids.length d3] 42)
  simpa using this)
 have a0 := (blk_cell HXa.out 0).trans rfl
 have a1 := (blk_cell HXa.out 1).trans rfl
 have a2 := (blk_cell HXa.out 2).trans rfl
 have q0 := (blk_cell HXb.out 0).trans rfl
 have q1 := (blk_cell HXb.out 1).trans rfl
 have q2 := (blk_cell HXb.out 2).trans rfl
 clear h h' hs
 have fin : ∀ W, alike a b = false → Below w.heap.size w W → DiffPost a b w (.returned (.tuple #[.slice none 0 0, .bool false])) W := fun W hf hB => by
  have hd : diffL a b = [] := by unfold diffL; rw [hf, if_neg (by simp)]
  exact ⟨none, 0, by rw [hd, hf]; rfl, by rw [hd]; exact Kd.R_nil _ _ _ _ _, hB⟩
 have FIN := Aside0.mk fin
 clear fin
 by_cases h1 : a.kind = b.kind
 ·by_cases h2 : a.ints.length = b.ints.length
  ·by_cases h3 : a.texts.length = b.texts.length
   ·have HAl : Aside0 (alike a b = true) := ⟨decide_eq_true ⟨h1, h2, h3⟩⟩
    have dk : (a.kind != b.kind) = false := by simp [h1]
    have H23 := Aside0.mk (And.intro h2 h3)
    rw [← h2] at q1 HB HXa HXb a0 a1 a2 q0 q2 ⊢
    rw [← h3] at q1 HB HXa HXb a0 a1 a2 q0 q2 ⊢
    clear h1 h2 h3
    go_enter Tryz.func68, Tryz.ntmps68
    go_wp2
    have H0 := Aside0.mk (show DRel a b A1 c1 A2 c2 A3 c3 B1 d1 B2 d2 B3 d3 w (diffI a.ints b.ints 0) (.slice (some ⟨w.heap.size + 1 + 1, 0, none⟩) 0 0) (((w.alloc (.cells #[.int .i64 a.kind, .slice A1 a.ints.length c1, .slice A2 a.texts.length c2, .slice A3 a.kids.length c3] 42)).alloc (.cells #[.int .i64 b.kind, .slice B1 a.ints.length d1, .slice B2 a.texts.length d2, .slice B3 b.kids.length d3] 42)).alloc (.cells #[] 56)) from
     ⟨by have h := R_empty kSet 56 ((w.alloc (.cells #[.int .i64 a.kind, .slice A1 a.ints.length c1, .slice A2 a.texts.length c2, .slice A3 a.kids.length c3] 42)).alloc (.cells #[.int .i64 b.kind, .slice B1 a.ints.length d1, .slice B2 a.texts.length d2, .slice B3 b.kids.length d3] 42)) w.heap.size HB.out.size; rw [show (((w.alloc (.cells #[.int .i64 a.kind, .slice A1 a.ints.length c1, .slice A2 a.texts.length c2, .slice A3 a.kids.length c3] 42)).alloc (.cells #[.int .i64 b.kind, .slice B1 a.ints.length d1, .slice B2 a.texts.length d2, .slice B3 b.kids.length d3] 42)).heap.size) = w.heap.size + 1 + 1 from by simp] at h; exact h, below_step HB.out (below_alloc (Below.refl _ _) _), ((below_alloc (Below.refl _ _) _).block _ (blk_lt HXa.out)).trans HXa.out, ((below_alloc (Below.refl _ _) _).block _ (blk_lt HXb.out)).trans HXb.out⟩)
    clear a0 a1 a2 q0 q1 q2 dk
    go_loopw [7, 6] (fun v7 v6 W => ∃ i : Nat, i ≤ a.ints.length ∧ v7 = .int .i64 i ∧ Aside0 (DRel a b A1 c1 A2 c2 A3 c3 B1 d1 B2 d2 B3 d3 w (diffI a.ints b.ints i) v6 W)) (fun v7 _ _ => a.ints.length - (intOf v7).toNat)
    case atStart => exact ⟨0, by omega, rfl, H0⟩
    case round =>
     clear H0
     obtain ⟨i, hi, rfl, H0⟩ := hrel
     have a1 := (blk_cell H0.out.ba 1).trans rfl
     have q1 := (blk_cell H0.out.bb 1).trans rfl
     by_cases hlt : i < a.ints.length
     ·obtain ⟨ad, rfl, x1⟩ := at_nat (Kd.C_below HA.out.i H0.out.below) i hlt
      obtain ⟨bd, rfl, x2⟩ := at_nat (Kd.C_below HBn.out.i H0.out.below) i (by rw [← H23.out.1]; exact hlt)
      by_cases he : rd a.ints (i : Int) = rd b.ints (i : Int)
      ·have de : (rd a.ints (i : Int) != rd b.ints (i : Int)) = false := by simp [he]
       have H1 := Aside0.mk (show DRel a b (some ad) c1 A2 c2 A3 c3 (some bd) d1 B2 d2 B3 d3 w (diffI a.ints b.ints (i + 1)) _ wr.drew from by rw [diffI_no he]; exact H0.out.drew)
       clear he
       go_wp2
       go_region
       clear x1 x2 a1 q1
       go_wp2
       go_roundw
       case rel => exact ⟨i + 1, by omega, by go_num, H1⟩
       case measure => simp [intOf]; omega
      ·have de : (rd a.ints (i : Int) != rd b.ints (i : Int)) = true := by simp [he]
       have HY := Aside0.mk (diffI_yes he)
       have hdl := diffI_len a.ints b.ints i
       clear he
       obtain ⟨Av, cv, hv⟩ := Kd.R_slice H0.out.row
       subst hv
       go_wp2
       go_region
       clear x1 a1 q1 x2
       have H1 := Aside0.mk H0.out.drew
       clear H0
       generalize wr.drew = W2 at H1 ⊢
       have q1 := (blk_cell H1.out.bb 1).trans rfl
       obtain ⟨bd', he', x2⟩ := at_nat (Kd.C_below HBn.out.i H1.out.below) i (by rw [← H23.out.1]; exact hlt)
       injection he' with he'
       subst he'
       go_wp2_with (at_builtin; refine Kd.R_append kSet (w0 := w) w.heap.size rfl (.tmp 51) (.tmp 59) 36 56 (.agg #[.bool false, .int .i64 0, .int .i64 0, .string ByteArray.empty]) 40 rfl Tryz.underlying36 info_set rfl (by decide) (by omega) (.slice Av (diffI a.ints b.ints i).length cv) (diffI a.ints b.ints i) ⟨false, (i : Int), rd b.ints (i : Int), ByteArray.empty⟩ [.bool false, .int .i64 (i : Int), .int .i64 (rd b.ints (i : Int)), .string ByteArray.empty] (fun _ => True) (fun _ => False) rfl (by go_simp) (kSet_mk _ _ _ _) (fun _ h => h.elim) (fun _ _ => trivial) H1.out.row H1.out.below H1.out.below.size (by omega) ?_; intro v2 w3 hR2 hB2 hg2 hat2; have H3 := Aside0.mk (show DRel a b (some ad) c1 A2 c2 A3 c3 (some bd) d1 B2 d2 B3 d3 w (diffI a.ints b.ints (i + 1)) v2 w3 from ⟨by rw [HY.out]; exact hR2, hB2, blk_grown H1.out.ba hg2 (Kd.R_ne H1.out.row H1.out.ba (by decide)), blk_grown H1.out.bb hg2 (Kd.R_ne H1.out.row H1.out.bb (by decide))⟩); clear hR2 hB2 hg2 hat2)
       go_roundw
       case rel => exact ⟨i + 1, by omega, by go_num, H3⟩
       case measure => simp [intOf]; omega
     ·obtain rfl : i = a.ints.length := by omega
      have H2 := Aside0.mk (show DRel a b A1 c1 A2 c2 A3 c3 B1 d1 B2 d2 B3 d3 w (diffI a.ints b.ints a.ints.length ++ diffT a.texts b.texts 0) u6 wr from by
       have e : diffI a.ints b.ints a.ints.length ++ diffT a.texts b.texts 0 = diffI a.ints b.ints a.ints.length := List.append_nil _
       rw [e]; exact H0.out)
      have hdi := diffI_len a.ints b.ints a.ints.length
      clear H0
      go_wp2
      clear a1 q1
      go_loopw [8, 6] (fun v8 v6 W => ∃ i : Nat, i ≤ a.texts.length ∧ v8 = .int .i64 i ∧ Aside0 (DRel a b A1 c1 A2 c2 A3 c3 B1 d1 B2 d2 B3 d3 w (diffI a.ints b.ints a.ints.length ++ diffT a.texts b.texts i) v6 W)) (fun v8 _ _ => a.texts.length - (intOf v8).toNat)
      case atStart => exact ⟨0, by omega, rfl, H2⟩
      case round =>
       clear H2
       obtain ⟨i, hi, rfl, H0⟩ := hrel
       have a2 := (blk_cell H0.out.ba 2).trans rfl
       have q2 := (blk_cell H0.out.bb 2).trans rfl
       by_cases hlt : i < a.texts.length
       ·obtain ⟨ad, rfl, x1⟩ := at_str (Kd.C_below HA.out.t H0.out.below) i hlt
        obtain ⟨bd, rfl, x2⟩ := at_str (Kd.C_below HBn.out.t H0.out.below) i (by rw [← H23.out.2]; exact hlt)
        by_cases he : str a.texts i = str b.texts i
        ·have de : (!((str a.texts i).toList == (str b.texts i).toList)) = false := by rw [he]; simp
         have H1 := Aside0.mk (show DRel a b A1 c1 (some ad) c2 A3 c3 B1 d1 (some bd) d2 B3 d3 w (diffI a.ints b.ints a.ints.length ++ diffT a.texts b.texts (i + 1)) _ wr.drew from by rw [diffT_no he]; exact H0.out.drew)
         clear he
         go_wp2
         go_region
         clear x1 x2 a2 q2
         go_wp2
         go_roundw
         case rel => exact ⟨i + 1, by omega, by go_num, H1⟩
         case measure => simp [intOf]; omega
        ·have de : (!((str a.texts i).toList == (str b.texts i).toList)) = true := str_ne he
         have HY := Aside0.mk (diffT_yes he)
         have hdt := diffT_len a.texts b.texts i
         clear he
         obtain ⟨Av, cv, hv⟩ := Kd.R_slice H0.out.row
         obtain ⟨L0, hL0⟩ : ∃ L, L = diffI a.ints b.ints a.ints.length ++ diffT a.texts b.texts i := ⟨_, rfl⟩
         have hL0l : L0.length ≤ 3000000 := by rw [hL0, List.length_append]; omega
         have HL0 := Aside0.mk hL0
         rw [← hL0] at hv H0
         subst hv
         clear hL0 hdt
         go_wp2
         go_region
         clear x1 a2 q2 x2
         have H1 := Aside0.mk H0.out.drew
         clear H0
         generalize wr.drew = W2 at H1 ⊢
         have q2 := (blk_cell H1.out.bb 2).trans rfl
         obtain ⟨bd', he', x2⟩ := at_str (Kd.C_below HBn.out.t H1.out.below) i (by rw [← H23.out.2]; exact hlt)
         injection he' with he'
         subst he'
         go_wp2_with (at_builtin; refine Kd.R_append kSet (w0 := w) w.heap.size rfl (.tmp 79) (.tmp 87) 36 56 (.agg #[.bool false, .int .i64 0, .int .i64 0, .string ByteArray.empty]) 40 rfl Tryz.underlying36 info_set rfl (by decide) (by omega) (.slice Av L0.length cv) L0 ⟨true, (i : Int), 0, str b.texts i⟩ [.bool true, .int .i64 (i : Int), .int .i64 0, .string (str b.texts i)] (fun _ => True) (fun _ => False) rfl (by go_simp) (kSet_mk _ _ _ _) (fun _ h => h.elim) (fun _ _ => trivial) H1.out.row H1.out.below H1.out.below.size (by omega) ?_; intro v2 w3 hR2 hB2 hg2 hat2; have H3 := Aside0.mk (show DRel a b A1 c1 (some ad) c2 A3 c3 B1 d1 (some bd) d2 B3 d3 w (diffI a.ints b.ints a.ints.length ++ diffT a.texts b.texts (i + 1)) v2 w3 from ⟨by rw [HY.out, ← List.append_assoc, ← HL0.out]; exact hR2, hB2, blk_grown H1.out.ba hg2 (Kd.R_ne H1.out.row H1.out.ba (by decide)), blk_grown H1.out.bb hg2 (Kd.R_ne H1.out.row H1.out.bb (by decide))⟩); clear hR2 hB2 hg2 hat2)
         go_roundw
         case rel => exact ⟨i + 1, by omega, by go_num, H3⟩
         case measure => simp [intOf]; omega
       ·obtain rfl : i = a.texts.length := by omega
        have HD : Aside0 (diffL a b = diffI a.ints b.ints a.ints.length ++ diffT a.texts b.texts a.texts.length) := ⟨by unfold diffL; rw [if_pos HAl.out]⟩
        go_wp2
        go_ret2
        obtain ⟨Av, cv, hv⟩ := Kd.R_slice H0.out.row
        exact ⟨Av, cv, by rw [HAl.out, HD.out, ← hv]; rfl, by rw [HD.out, ← hv]; exact H0.out.row, H0.out.below⟩
   ·have hf : alike a b = false := decide_eq_false (fun h => h3 h.2.2)
    have HF := Aside0.mk hf
    have dk : (a.kind != b.kind) = false := by simp [h1]
    have dl : (a.texts.length != b.texts.length) = true := by simp [h3]
    have dl' : ((a.texts.length : Int) != (b.texts.length : Int)) = true := by simp; omega
    rw [← h2] at q1 HB HXa HXb a0 a1 a2 q0 q2 ⊢
    clear h1 h2 h3 hf
    go_enter Tryz.func68, Tryz.ntmps68
    go_wp2
    go_ret2
    exact FIN.out _ HF.out HB.out
  ·have hf : alike a b = false := decide_eq_false (fun h => h2 h.2.1)
   have HF := Aside0.mk hf
   have dk : (a.kind != b.kind) = false := by simp [h1]
   have dl : (a.ints.length != b.ints.length) = true := by simp [h2]
   have dl' : ((a.ints.length : Int) != (b.ints.length : Int)) = true := by simp; omega
   clear h1 h2 hf
   go_enter Tryz.func68, Tryz.ntmps68
   go_wp2
   go_ret2
   exact FIN.out _ HF.out HB.out
 ·have hf : alike a b = false := decide_eq_false (fun h => h1 h.1)
  have HF := Aside0.mk hf
  have dk : (a.kind != b.kind) = true := by simp [h1]
  clear h1 hf
  go_enter Tryz.func68, Tryz.ntmps68
  go_wp2
  go_ret2
  exact FIN.out _ HF.out HB.out
end Go.Proofs.YtggldnbhmebcpaaGreatDoor.L
end
section
namespace Go.Proofs.YtggldnbhmebcpaaGreatDoor.L
open Go.RowKit Go.ChangeShapes Go.WideShapes Go.Proofs.YtggldnbhmebcpaaGreatDoorW.PrintWords Go.Proofs.YtggldnbhmebcpaaGreatDoorW.PrintLast Go.Proofs.YtggldnbhmebcpaaGreatDoorW.PrintMore
attribute [local go_sem] max2_int min2_int max_two min_two max_three min_three max_four min_four
structure FDS (w4 : World) (L : List SetV) (v : Value) (W : World) : Prop where
  row : kSet.R 56 W w4.heap.size (fun _ => True) v L
  below : Below w4.heap.size w4 W
set_option maxRecDepth 100000 in
set_option maxHeartbeats 4000000 in
theorem fdiff_any (a b : Node) (A1 : Option Addr) (c1 : Nat) (A2 : Option Addr) (c2 : Nat) (A3 : Option Addr) (c3 : Nat) (B1 : Option Addr) (d1 : Nat) (B2 : Option Addr) (d2 : Nat) (B3 : Option Addr) (d3 : Nat) (w : World) (h : NodeC w a A1 c1 A2 c2 A3 c3) (h' : NodeC w b B1 d1 B2 d2 B3 d3) (hs : Small a) :
    Calls Tryz.prog 56 #[.agg #[.int .i64 a.kind, .slice A1 a.ints.length c1, .slice A2 a.texts.length c2, .slice A3 a.kids.length c3], .agg #[.int .i64 b.kind, .slice B1 b.ints.length d1, .slice B2 b.texts.length d2, .slice B3 b.kids.length d3]] w (DiffPost a b w) := by
  have HA := Aside0.mk h
  have HBn := Aside0.mk h'
  have hs1 := hs.1
  have hs2 := hs.2.1
  have hun := Tryz.underlying42
  have hset := Tryz.underlying56
  have hA0 := below_alloc (Below.refl w.heap.size w) (.cells #[.int .i64 a.kind, .slice A1 a.ints.length c1, .slice A2 a.texts.length c2, .slice A3 a.kids.length c3] 42)
  have hA1 := below_alloc (Below.refl (w.alloc (.cells #[.int .i64 a.kind, .slice A1 a.ints.length c1, .slice A2 a.texts.length c2, .slice A3 a.kids.length c3] 42)).heap.size (w.alloc (.cells #[.int .i64 a.kind, .slice A1 a.ints.length c1, .slice A2 a.texts.length c2, .slice A3 a.kids.length c3] 42))) (.cells #[.int .i64 b.kind, .slice B1 b.ints.length d1, .slice B2 b.texts.length d2, .slice B3 b.kids.length d3] 42)
  have HB := Aside0.mk (below_step hA0 hA1)
  have a0 := pw_cell_below hA1 (box_cell w _ rfl #[.int .i64 a.kind, .slice A1 a.ints.length c1, .slice A2 a.texts.length c2, .slice A3 a.kids.length c3] 42 0 _ rfl)
  have a1 := pw_cell_below hA1 (box_cell w _ rfl #[.int .i64 a.kind, .slice A1 a.ints.length c1, .slice A2 a.texts.length c2, .slice A3 a.kids.length c3] 42 1 _ rfl)
  have a2 := pw_cell_below hA1 (box_cell w _ rfl #[.int .i64 a.kind, .slice A1 a.ints.length c1, .slice A2 a.texts.length c2, .slice A3 a.kids.length c3] 42 2 _ rfl)
  have q0 := box_cell (w.alloc (.cells #[.int .i64 a.kind, .slice A1 a.ints.length c1, .slice A2 a.texts.length c2, .slice A3 a.kids.length c3] 42)) (w.heap.size + 1) (by simp) #[.int .i64 b.kind, .slice B1 b.ints.length d1, .slice B2 b.texts.length d2, .slice B3 b.kids.length d3] 42 0 _ rfl
  have q1 := box_cell (w.alloc (.cells #[.int .i64 a.kind, .slice A1 a.ints.length c1, .slice A2 a.texts.length c2, .slice A3 a.kids.length c3] 42)) (w.heap.size + 1) (by simp) #[.int .i64 b.kind, .slice B1 b.ints.length d1, .slice B2 b.texts.length d2, .slice B3 b.kids.length d3] 42 1 _ rfl
  have q2 := box_cell (w.alloc (.cells #[.int .i64 a.kind, .slice A1 a.ints.length c1, .slice A2 a.texts.length c2, .slice A3 a.kids.length c3] 42)) (w.heap.size + 1) (by simp) #[.int .i64 b.kind, .slice B1 b.ints.length d1, .slice B2 b.texts.length d2, .slice B3 b.kids.length d3] 42 2 _ rfl
  have fin : ∀ W, alike a b = false → Below w.heap.size w W → DiffPost a b w (.returned (.tuple #[.slice none 0 0, .bool false])) W := fun W hf hB => by
    have hd : diffL a b = [] := by unfold diffL; rw [hf, if_neg (by simp)]
    exact ⟨none, 0, by rw [hd, hf]; rfl, by rw [hd]; exact Kd.R_nil _ _ _ _ _, hB⟩
  have FIN := Aside0.mk fin
  clear h h' hs fin hA0 hA1
  by_cases h1 : a.kind = b.kind
  · have dk : (a.kind != b.kind) = false := by simp [h1]
    by_cases h2 : a.ints.length = b.ints.length
    · have di : ((a.ints.length : Int) != (b.ints.length : Int)) = false := by rw [h2]; simp
      by_cases h3 : a.texts.length = b.texts.length
      · have dt : ((a.texts.length : Int) != (b.texts.length : Int)) = false := by rw [h3]; simp
        have hsb1 : b.ints.length ≤ 1000000 := by omega
        have hsb2 : b.texts.length ≤ 1000000 := by omega
        have HAl : Aside0 (alike a b = true) := ⟨decide_eq_true ⟨h1, h2, h3⟩⟩
        have H23 := Aside0.mk (And.intro h2 h3)
        clear h1 h2 h3
        go_enter Tryz.func56, Tryz.ntmps56
        go_wp2
        clear dk di dt a0 q0
        generalize (w.alloc (.cells #[.int .i64 a.kind, .slice A1 a.ints.length c1, .slice A2 a.texts.length c2, .slice A3 a.kids.length c3] 42)).alloc (.cells #[.int .i64 b.kind, .slice B1 b.ints.length d1, .slice B2 b.texts.length d2, .slice B3 b.kids.length d3] 42) = w4 at HB a1 a2 q1 q2 ⊢
        have HK := Aside0.mk (And.intro a1 (And.intro a2 q2))
        have H0 : Aside0 (FDS w4 (diffI a.ints b.ints 0) (.slice none 0 0) w4) := ⟨Kd.R_nil _ _ _ _ _, Below.refl _ _⟩
        clear a1 a2 q1 q2
        go_loopw [37, 6] (fun v37 v6 W => ∃ i : Nat, i ≤ b.ints.length ∧ v37 = .int .i64 i ∧ Aside0 (FDS w4 (diffI a.ints b.ints i) v6 W)) (fun v37 _ _ => b.ints.length - (intOf v37).toNat)
        case atStart => exact ⟨0, by omega, rfl, H0⟩
        case round =>
          clear H0
          obtain ⟨i, hi, rfl, H0⟩ := hrel
          by_cases hlt : i < b.ints.length
          · have hla : i < a.ints.length := by have := H23.out.1; omega
            obtain ⟨ad, rfl, x1⟩ := at_nat (Kd.C_below HA.out.i (below_step HB.out H0.out.below)) i (by have := H23.out.1; omega)
            obtain ⟨bd, rfl, x2⟩ := at_nat (Kd.C_below HBn.out.i (below_step HB.out H0.out.below)) i hlt
            have a1 := pw_cell_below H0.out.below HK.out.1
            by_cases he : rd a.ints (i : Int) = rd b.ints (i : Int)
            · have de : (rd a.ints (i : Int) != rd b.ints (i : Int)) = false := by simp [he]
              have H1 := Aside0.mk (show FDS w4 (diffI a.ints b.ints (i + 1)) u6 wr from by rw [diffI_no he]; exact H0.out)
              clear he
              go_wp2
              go_roundw
              case rel => exact ⟨i + 1, by omega, by go_num, H1⟩
              case measure => simp [intOf]; omega
            · have de : (rd a.ints (i : Int) != rd b.ints (i : Int)) = true := by simp [he]
              have HY := Aside0.mk (diffI_yes he)
              have hdl := diffI_len a.ints b.ints i
              clear he
              obtain ⟨Av, cv, hv⟩ := Kd.R_slice H0.out.row
              subst hv
              generalize diffI a.ints b.ints i = L at H0 HY hdl
              generalize rd b.ints (i : Int) = z at x2 de HY
              go_wp2_with (at_builtin; refine Kd.R_append kSet (w0 := w4) w4.heap.size rfl (.tmp 49) (.tmp 53) 36 56 (.agg #[.bool false, .int .i64 0, .int .i64 0, .string ByteArray.empty]) 40 rfl Tryz.underlying36 info_set rfl (by decide) (by omega) (.slice Av L.length cv) L ⟨false, (i : Int), z, ByteArray.empty⟩ [.bool false, .int .i64 (i : Int), .int .i64 z, .string ByteArray.empty] (fun _ => True) (fun _ => False) rfl (by go_simp) (kSet_mk _ _ _ _) (fun _ h => h.elim) (fun _ _ => trivial) H0.out.row H0.out.below H0.out.below.size (by omega) ?_; intro v7 w7 hR7 hB7 _ _; have H1 := Aside0.mk (show FDS w4 (diffI a.ints b.ints (i + 1)) v7 w7 from by rw [HY.out]; exact ⟨hR7, hB7⟩); clear hR7 hB7)
              go_roundw
              case rel => exact ⟨i + 1, by omega, by go_num, H1⟩
              case measure => simp [intOf]; omega
          · obtain rfl : i = b.ints.length := by omega
            have q2 := pw_cell_below H0.out.below HK.out.2.2
            have hdi := diffI_len a.ints b.ints b.ints.length
            generalize hD : diffI a.ints b.ints b.ints.length = D at H0 hdi
            have HDd := Aside0.mk (show diffL a b = D ++ diffT a.texts b.texts b.texts.length from by unfold diffL; rw [← H23.out.2, HAl.out, if_pos rfl, H23.out.1, hD])
            have H2 : Aside0 (FDS w4 (D ++ diffT a.texts b.texts 0) u6 wr) := ⟨by rw [show diffT a.texts b.texts 0 = [] from rfl, List.append_nil]; exact H0.out⟩
            clear H0 hD
            go_wp2
            clear q2
            go_loopw [59, 6] (fun v59 v6 W => ∃ i : Nat, i ≤ b.texts.length ∧ v59 = .int .i64 i ∧ Aside0 (FDS w4 (D ++ diffT a.texts b.texts i) v6 W)) (fun v59 _ _ => b.texts.length - (intOf v59).toNat)
            case atStart => exact ⟨0, by omega, rfl, H2⟩
            case round =>
              clear H2
              obtain ⟨i, hi, rfl, H0⟩ := hrel
              by_cases hlt : i < b.texts.length
              · have hla : i < a.texts.length := by have := H23.out.2; omega
                obtain ⟨ad, rfl, x1⟩ := at_str (Kd.C_below HA.out.t (below_step HB.out H0.out.below)) i (by have := H23.out.2; omega)
                obtain ⟨bd, rfl, x2⟩ := at_str (Kd.C_below HBn.out.t (below_step HB.out H0.out.below)) i hlt
                have a2 := pw_cell_below H0.out.below HK.out.2.1
                by_cases he : str a.texts i = str b.texts i
                · have de : (!((str a.texts i).toList == (str b.texts i).toList)) = false := by rw [he]; simp
                  have H1 := Aside0.mk (show FDS w4 (D ++ diffT a.texts b.texts (i + 1)) u6 wr from by rw [diffT_no he]; exact H0.out)
                  clear he
                  go_wp2
                  go_roundw
                  case rel => exact ⟨i + 1, by omega, by go_num, H1⟩
                  case measure => simp [intOf]; omega
                · have de := str_ne he
                  have HY := Aside0.mk (diffT_yes he)
                  have hdl := diffT_len a.texts b.texts i
                  clear he
                  obtain ⟨Av, cv, hv⟩ := Kd.R_slice H0.out.row
                  subst hv
                  generalize diffT a.texts b.texts i = L at H0 HY hdl
                  generalize str b.texts i = z at x2 de HY
                  go_wp2_with (at_builtin; refine Kd.R_append kSet (w0 := w4) w4.heap.size rfl (.tmp 71) (.tmp 75) 36 56 (.agg #[.bool false, .int .i64 0, .int .i64 0, .string ByteArray.empty]) 40 rfl Tryz.underlying36 info_set rfl (by decide) (by omega) (.slice Av (D ++ L).length cv) (D ++ L) ⟨true, (i : Int), 0, z⟩ [.bool true, .int .i64 (i : Int), .int .i64 0, .string z] (fun _ => True) (fun _ => False) rfl (by go_simp) (kSet_mk _ _ _ _) (fun _ h => h.elim) (fun _ _ => trivial) H0.out.row H0.out.below H0.out.below.size (by rw [List.length_append]; omega) ?_; intro v7 w7 hR7 hB7 _ _; have H1 := Aside0.mk (show FDS w4 (D ++ diffT a.texts b.texts (i + 1)) v7 w7 from by rw [HY.out, ← List.append_assoc]; exact ⟨hR7, hB7⟩); clear hR7 hB7)
                  go_roundw
                  case rel => exact ⟨i + 1, by omega, by go_num, H1⟩
                  case measure => simp [intOf]; omega
              · obtain rfl : i = b.texts.length := by omega
                rw [← HDd.out] at H0
                obtain ⟨Av, cv, hv⟩ := Kd.R_slice H0.out.row
                subst hv
                go_wp2
                go_ret2
                exact ⟨Av, cv, by rw [HAl.out]; rfl, Kd.R_mono (Kd.R_lower H0.out.row HB.out.size) (fun _ _ => trivial), below_step HB.out H0.out.below⟩
      · have dt : ((a.texts.length : Int) != (b.texts.length : Int)) = true := by simp; omega
        have hf : alike a b = false := decide_eq_false (fun hh => h3 hh.2.2)
        clear h1 h2 h3
        go_enter Tryz.func56, Tryz.ntmps56
        go_wp2
        go_ret2
        exact FIN.out _ hf HB.out
    · have di : ((a.ints.length : Int) != (b.ints.length : Int)) = true := by simp; omega
      have hf : alike a b = false := decide_eq_false (fun hh => h2 hh.2.1)
      clear h1 h2
      go_enter Tryz.func56, Tryz.ntmps56
      go_wp2
      go_ret2
      exact FIN.out _ hf HB.out
  · have dk : (a.kind != b.kind) = true := by simp [h1]
    have hf : alike a b = false := decide_eq_false (fun hh => h1 hh.1)
    clear h1
    go_enter Tryz.func56, Tryz.ntmps56
    go_wp2
    go_ret2
    exact FIN.out _ hf HB.out
end Go.Proofs.YtggldnbhmebcpaaGreatDoor.L
end
section
namespace Go.Proofs.YtggldnbhmebcpaaGreatDoor.L
open Go.RowKit Go.ChangeShapes Go.WideShapes Go.Proofs.YtggldnbhmebcpaaGreatDoorW.PrintWords Go.Proofs.YtggldnbhmebcpaaGreatDoorW.PrintLast Go.Proofs.YtggldnbhmebcpaaGreatDoorW.PrintMore
attribute [local go_sem] max2_int min2_int max_two min_two max_three min_three max_four min_four
theorem rd_ext {a b : List Int} (hl : a.length = b.length) (h : ∀ j : Nat, j < a.length → rd a (j : Int) = rd b (j : Int)) : a = b :=
  List.ext_getElem hl (fun i h1 h2 => by have := h i h1; rwa [rd_eq h1, rd_eq h2] at this)
set_option maxRecDepth 100000 in
set_option maxHeartbeats 4000000 in
theorem sleq_any (A : Option Addr) (c : Nat) (a : List Int) (B : Option Addr) (d : Nat) (b : List Int) (w : World) (h : (Kd.int .i64).C w A a.length a) (h' : (Kd.int .i64).C w B b.length b) (ha : a.length ≤ 1000000) :
    Calls Tryz.prog 57 #[.slice A a.length c, .slice B b.length d] w fun e w' => e = .returned (.bool (decide (a = b))) ∧ Below w.heap.size w w' := by
  have HR := Aside0.mk h
  have HR' := Aside0.mk h'
  clear h h'
  by_cases hl : a.length = b.length
  · have hne : ((a.length : Int) != (b.length : Int)) = false := by rw [hl]; simp
    have HL := Aside0.mk hl
    clear hl
    go_enter Tryz.func57, Tryz.ntmps57
    go_wp2
    clear hne
    go_loopw [13] (fun v13 W => ∃ i : Nat, i ≤ a.length ∧ v13 = .int .i64 i ∧ Aside0 (∀ j : Nat, j < i → rd a (j : Int) = rd b (j : Int)) ∧ Drawn0 w W) (fun v13 _ => a.length - (intOf v13).toNat)
    case atStart => exact ⟨0, by omega, rfl, ⟨fun j hj => by omega⟩, Drawn0.refl _⟩
    case round =>
      obtain ⟨i, hi, rfl, HE, ⟨m, rfl⟩⟩ := hrel
      have hbm := pw_below_drewN (Below.refl w.heap.size w) m
      by_cases hlt : i < a.length
      · have hlb : i < b.length := by have := HL.out; omega
        obtain ⟨ad, rfl, x0⟩ := at_nat HR.out i hlt
        obtain ⟨bd, rfl, y0⟩ := at_nat HR'.out i hlb
        replace x0 := pw_cell_below hbm x0
        replace y0 := pw_cell_below hbm y0
        have HB := Aside0.mk hbm
        clear hbm
        generalize hwm : w.drewN m = wm at x0 y0 HB ⊢
        by_cases he : rd a (i : Int) = rd b (i : Int)
        · have de : (rd a (i : Int) != rd b (i : Int)) = false := by simp [he]
          have HE2 := Aside0.mk (ext_lt (P := fun j => rd a (j : Int) = rd b (j : Int)) HE.out he)
          clear he
          go_wp2
          go_region
          go_wp2
          go_roundw
          case rel => exact ⟨i + 1, by omega, by go_num, HE2, ⟨m + 1, by rw [← hwm]; simp [World.drewN_drewN]⟩⟩
          case measure => simp [intOf]; omega
        · have de : (rd a (i : Int) != rd b (i : Int)) = true := by simp [he]
          have hf : decide (a = b) = false := decide_eq_false (fun e => he (by rw [e]))
          clear he
          go_wp2
          go_region
          go_wp2
          go_ret
          exact ⟨ret_bool hf.symm, pw_below_drewN HB.out 1⟩
      · obtain rfl : i = a.length := by omega
        have hf : decide (a = b) = true := decide_eq_true (rd_ext HL.out HE.out)
        go_wp2
        go_ret
        exact ⟨ret_bool hf.symm, hbm⟩
  · have hne : ((a.length : Int) != (b.length : Int)) = true := by simp; omega
    have hf : decide (a = b) = false := decide_eq_false (fun e => hl (by rw [e]))
    clear hl
    go_enter Tryz.func57, Tryz.ntmps57
    go_wp2
    go_ret
    exact ⟨ret_bool hf.symm, Below.refl _ _⟩
end Go.Proofs.YtggldnbhmebcpaaGreatDoor.L
end
section
namespace Go.Proofs.YtggldnbhmebcpaaGreatDoor.L
open Go.RowKit Go.ChangeShapes Go.WideShapes Go.Proofs.YtggldnbhmebcpaaGreatDoorW.PrintWords Go.Proofs.YtggldnbhmebcpaaGreatDoorW.PrintLast Go.Proofs.YtggldnbhmebcpaaGreatDoorW.PrintMore
attribute [local go_sem] max2_int min2_int max_two min_two max_three min_three max_four min_four
def mapTake (f : Int → Int) (l : List Int) (j : Nat) : List Int := (l.take j).map f ++ l.drop j
theorem mapTake_len (f : Int → Int) (l : List Int) (j : Nat) : (mapTake f l j).length = l.length := by unfold mapTake; rw [List.length_append, List.length_map, List.length_take, List.length_drop]; omega
theorem mapTake_zero (f : Int → Int) (l : List Int) : mapTake f l 0 = l := by unfold mapTake; simp
theorem mapTake_all (f : Int → Int) (l : List Int) : mapTake f l l.length = l.map f := by unfold mapTake; simp
theorem mapTake_rd (f : Int → Int) (l : List Int) (j : Nat) (h : j < l.length) : rd (mapTake f l j) (j : Int) = rd l (j : Int) := by
  rw [rd_eq (by rw [mapTake_len]; exact h), rd_eq h]
  unfold mapTake
  rw [List.getElem_append_right (by simp; omega)]
  simp [List.length_take, Nat.min_eq_left (Nat.le_of_lt h)]
theorem mapTake_set (f : Int → Int) (l : List Int) (j : Nat) (h : j < l.length) : (mapTake f l j).set j (f (rd l (j : Int))) = mapTake f l (j + 1) := by
  unfold mapTake
  rw [List.set_append_right _ _ (by simp; omega)]
  rw [List.length_map, List.length_take, Nat.min_eq_left (Nat.le_of_lt h), Nat.sub_self, drop_rd h]
  rw [take_succ_rd h, List.map_append]
  simp
end Go.Proofs.YtggldnbhmebcpaaGreatDoor.L
end
section
namespace Go.Proofs.YtggldnbhmebcpaaGreatDoor.L
open Go.RowKit Go.ChangeShapes Go.WideShapes Go.Proofs.YtggldnbhmebcpaaGreatDoorW.PrintWords Go.Proofs.YtggldnbhmebcpaaGreatDoorW.PrintLast Go.Proofs.YtggldnbhmebcpaaGreatDoorW.PrintMore
attribute [local go_sem] max2_int min2_int max_two min_two max_three min_three max_four min_four
structure Ed where
  kind : Int
  n : Int
deriving DecidableEq
def kEd : Kd Ed := Kd.iso (Kd.pair (Kd.int .i64) (Kd.int .i64)) (fun x : Ed => (x.kind, x.n))
theorem kEd_openM {w : World} {base : Nat} {ok : Nat → Prop} {x : Ed} {cs : List Value} (h : kEd.M w base ok x cs) : cs = [.int .i64 x.kind, .int .i64 x.n] := by
  obtain ⟨_, _, rfl, rfl, rfl⟩ := h
  exact rfl
theorem kEd_mkM (w : World) (base : Nat) (ok : Nat → Prop) (x : Ed)  : kEd.M w base ok x [.int .i64 x.kind, .int .i64 x.n] := ⟨[.int .i64 x.kind], [.int .i64 x.n], rfl, rfl, rfl⟩
def edz : Ed := ⟨0, 0⟩
def ed (xs : List Ed) (i : Nat) : Ed := xs.getD i edz
def stepE (s : Option (List Int × List Int)) (e : Ed) : Option (List Int × List Int) :=
  match s with
  | none => none
  | some (o, r) => if e.kind = 3 then some (o ++ [e.n], r) else if (e.kind = 1 ∨ e.kind = 2) ∧ 1 ≤ e.n ∧ e.n ≤ (r.length : Int) then some (o ++ (if e.kind = 1 then r.take e.n.toNat else []), r.drop e.n.toNat) else none
def runE (a : List Int) (l : List Ed) : Option (List Int × List Int) := l.foldl stepE (some ([], a))
theorem runE_snoc (a : List Int) (l : List Ed) (e : Ed) : runE a (l ++ [e]) = stepE (runE a l) e := by unfold runE; rw [List.foldl_append]; rfl
end Go.Proofs.YtggldnbhmebcpaaGreatDoor.L
end
section
namespace Go.Proofs.YtggldnbhmebcpaaGreatDoor.L
open Go.RowKit Go.ChangeShapes Go.WideShapes Go.Proofs.YtggldnbhmebcpaaGreatDoorW.PrintWords Go.Proofs.YtggldnbhmebcpaaGreatDoorW.PrintLast Go.Proofs.YtggldnbhmebcpaaGreatDoorW.PrintMore
attribute [local go_sem] max2_int min2_int max_two min_two max_three min_three max_four min_four
def setz : SetV := ⟨false, 0, 0, ByteArray.empty⟩
theorem kSet_open {w : World} {x : SetV} {cs : List Value} (h : kSet.K w x cs) : cs = [.bool x.text, .int .i64 x.field, .int .i64 x.n, .string x.s] := by
  obtain ⟨_, _, rfl, rfl, _, _, rfl, rfl, _, _, rfl, rfl, rfl⟩ := h
  exact rfl
def st (xs : List SetV) (i : Nat) : SetV := xs.getD i setz
theorem at_set {w : World} {A : Option Addr} {n : Nat} {xs : List SetV} (h : kSet.C w A n xs) (i : Nat) (h1 : i < n) :
    ∃ ad, A = some ad ∧ w.cell? (ad.add (i * 4)) = some (.bool (st xs i).text) ∧ w.cell? ⟨(ad.add (i * 4)).block, (ad.add (i * 4)).off + 1, none⟩ = some (.int .i64 (st xs i).field) ∧ w.cell? ⟨(ad.add (i * 4)).block, (ad.add (i * 4)).off + 2, none⟩ = some (.int .i64 (st xs i).n) ∧ w.cell? ⟨(ad.add (i * 4)).block, (ad.add (i * 4)).off + 3, none⟩ = some (.string (st xs i).s) := by
  obtain ⟨ad, c, e, _, hK, hc0⟩ := Kd.C_get h setz (i : Int) (by omega) (by omega)
  have hc : ∀ j u, c[j]? = some u → w.cell? (ad.add (i * 4 + j)) = some u := fun j u h => by simpa [show kSet.sz = 4 from rfl] using hc0 j u h
  have hK' : kSet.K w (st xs i) c := by simpa [st] using hK
  obtain rfl := kSet_open hK'
  refine ⟨ad, e, hc 0 _ rfl, ?_, ?_, ?_⟩
  · rw [← add_field _ _ 1 (by omega)]; exact hc 1 _ rfl
  · rw [← add_field _ _ 2 (by omega)]; exact hc 2 _ rfl
  · rw [← add_field _ _ 3 (by omega)]; exact hc 3 _ rfl
end Go.Proofs.YtggldnbhmebcpaaGreatDoor.L
end
section
namespace Go.Proofs.YtggldnbhmebcpaaGreatDoor.L
open Go.RowKit Go.ChangeShapes Go.WideShapes Go.Proofs.YtggldnbhmebcpaaGreatDoorW.PrintWords Go.Proofs.YtggldnbhmebcpaaGreatDoorW.PrintLast Go.Proofs.YtggldnbhmebcpaaGreatDoorW.PrintMore
attribute [local go_sem] max2_int min2_int max_two min_two max_three min_three max_four min_four
structure Opn where
  kind : Int
  base : Int
  sets : List SetV
  script : List Ed
  node : Node
def opz : Opn := ⟨0, 0, [], [], nodez⟩
def op (xs : List Opn) (i : Nat) : Opn := xs.getD i opz
def img (base : List Int) (k : Int) : Int := if k ∈ base then (base.idxOf k : Int) else -1
def imgN (base : List Int) (n : Node) : Node := ⟨n.kind, n.ints, n.texts, n.kids.map (img base)⟩
theorem op_eq {xs : List Opn} {i : Nat} (h : i < xs.length) : op xs i = xs[i] := by
  unfold op
  rw [List.getD_eq_getElem?_getD, List.getElem?_eq_getElem h]; rfl
end Go.Proofs.YtggldnbhmebcpaaGreatDoor.L
end
section
namespace Go.Proofs.YtggldnbhmebcpaaGreatDoor.L
open Go.RowKit Go.ChangeShapes Go.WideShapes Go.Proofs.YtggldnbhmebcpaaGreatDoorW.PrintWords Go.Proofs.YtggldnbhmebcpaaGreatDoorW.PrintLast Go.Proofs.YtggldnbhmebcpaaGreatDoorW.PrintMore
attribute [local go_sem] max2_int min2_int max_two min_two max_three min_three max_four min_four
section
variable {m : Node} {v1 v2 v3 : Value} {w : World} {rb g : Nat} {W W1 : World}
end
theorem nodez_M (W : World) (base : Nat) : kNode.M W base (fun _ => True) nodez [.int .i64 nodez.kind, .slice none 0 0, .slice none 0 0, .slice none 0 0] := kNode_mkM (Kd.R_nil _ _ _ _ _) (Kd.R_nil _ _ _ _ _) (Kd.R_nil _ _ _ _ _)
def kOpn : Kd Opn := Kd.iso (Kd.pair (Kd.int .i64) (Kd.pair (Kd.int .i64) (Kd.pair (Kd.slice 56 kSet) (Kd.pair (Kd.slice 48 kEd) kNode)))) (fun x : Opn => (x.kind, x.base, x.sets, x.script, x.node))
structure OpnC (w : World) (o : Opn) (B1 : Option Addr) (d1 : Nat) (B2 : Option Addr) (d2 : Nat) (A1 : Option Addr) (c1 : Nat) (A2 : Option Addr) (c2 : Nat) (A3 : Option Addr) (c3 : Nat) : Prop where
  ls : o.sets.length ≤ d1
  s : kSet.C w B1 o.sets.length o.sets
  le : o.script.length ≤ d2
  e : kEd.C w B2 o.script.length o.script
  n : NodeC w o.node A1 c1 A2 c2 A3 c3
theorem kOpn_open {w : World} {x : Opn} {cs : List Value} (h : kOpn.K w x cs) : ∃ B1 d1 B2 d2 A1 c1 A2 c2 A3 c3, cs = [.int .i64 x.kind, .int .i64 x.base, .slice B1 x.sets.length d1, .slice B2 x.script.length d2, .int .i64 x.node.kind, .slice A1 x.node.ints.length c1, .slice A2 x.node.texts.length c2, .slice A3 x.node.kids.length c3] ∧ OpnC w x B1 d1 B2 d2 A1 c1 A2 c2 A3 c3 := by
  obtain ⟨_, _, rfl, rfl, _, _, rfl, rfl, _, _, rfl, ⟨B1, d1, rfl, l1, h1⟩, _, _, rfl, ⟨B2, d2, rfl, l2, h2⟩, hn⟩ := h
  obtain ⟨A1, c1, A2, c2, A3, c3, rfl, hN⟩ := kNode_open hn
  exact ⟨B1, d1, B2, d2, A1, c1, A2, c2, A3, c3, rfl, l1, h1, l2, h2, hN⟩
theorem at_op {w : World} {A : Option Addr} {n : Nat} {xs : List Opn} (h : kOpn.C w A n xs) (i : Nat) (h1 : i < n) :
    ∃ ad B1 d1 B2 d2 A1 c1 A2 c2 A3 c3, A = some ad ∧ w.cell? (ad.add (i * 8)) = some (.int .i64 (op xs i).kind) ∧ w.cell? ⟨(ad.add (i * 8)).block, (ad.add (i * 8)).off + 1, none⟩ = some (.int .i64 (op xs i).base) ∧ w.cell? ⟨(ad.add (i * 8)).block, (ad.add (i * 8)).off + 2, none⟩ = some (.slice B1 (op xs i).sets.length d1) ∧ w.cell? ⟨(ad.add (i * 8)).block, (ad.add (i * 8)).off + 3, none⟩ = some (.slice B2 (op xs i).script.length d2) ∧ w.cell? ⟨(ad.add (i * 8)).block, (ad.add (i * 8)).off + 4, none⟩ = some (.int .i64 (op xs i).node.kind) ∧ w.cell? ⟨(ad.add (i * 8)).block, (ad.add (i * 8)).off + 5, none⟩ = some (.slice A1 (op xs i).node.ints.length c1) ∧ w.cell? ⟨(ad.add (i * 8)).block, (ad.add (i * 8)).off + 6, none⟩ = some (.slice A2 (op xs i).node.texts.length c2) ∧ w.cell? ⟨(ad.add (i * 8)).block, (ad.add (i * 8)).off + 7, none⟩ = some (.slice A3 (op xs i).node.kids.length c3) ∧ OpnC w (op xs i) B1 d1 B2 d2 A1 c1 A2 c2 A3 c3 := by
  obtain ⟨ad, c, e, _, hK, hc0⟩ := Kd.C_get h opz (i : Int) (by omega) (by omega)
  have hc : ∀ j u, c[j]? = some u → w.cell? (ad.add (i * 8 + j)) = some u := fun j u h => by simpa [show kOpn.sz = 8 from rfl] using hc0 j u h
  have hK' : kOpn.K w (op xs i) c := by simpa [op] using hK
  obtain ⟨B1, d1, B2, d2, A1, c1, A2, c2, A3, c3, rfl, hN⟩ := kOpn_open hK'
  refine ⟨ad, B1, d1, B2, d2, A1, c1, A2, c2, A3, c3, e, hc 0 _ rfl, ?_, ?_, ?_, ?_, ?_, ?_, ?_, hN⟩
  · rw [← add_field _ _ 1 (by omega)]; exact hc 1 _ rfl
  · rw [← add_field _ _ 2 (by omega)]; exact hc 2 _ rfl
  · rw [← add_field _ _ 3 (by omega)]; exact hc 3 _ rfl
  · rw [← add_field _ _ 4 (by omega)]; exact hc 4 _ rfl
  · rw [← add_field _ _ 5 (by omega)]; exact hc 5 _ rfl
  · rw [← add_field _ _ 6 (by omega)]; exact hc 6 _ rfl
  · rw [← add_field _ _ 7 (by omega)]; exact hc 7 _ rfl
end Go.Proofs.YtggldnbhmebcpaaGreatDoor.L
end
section
namespace Go.Proofs.YtggldnbhmebcpaaGreatDoor.L
open Go.RowKit Go.ChangeShapes Go.WideShapes Go.Proofs.YtggldnbhmebcpaaGreatDoorW.PrintWords Go.Proofs.YtggldnbhmebcpaaGreatDoorW.PrintLast Go.Proofs.YtggldnbhmebcpaaGreatDoorW.PrintMore
attribute [local go_sem] max2_int min2_int max_two min_two max_three min_three max_four min_four
def Lits {α : Type} (d : Kd α) (W : World) : List α → List Value → Prop
  | [], cs => cs = []
  | p :: ps, cs => ∃ c r, cs = c ++ r ∧ d.K W p c ∧ Lits d W ps r
theorem Lits.reps {α : Type} {d : Kd α} {W : World} : ∀ (ps : List α) (cs : List Value) (qs : List α) (ds : List Value), Lits d W ps cs → Reps (d.K W) d.sz qs ds → Reps (d.K W) d.sz (qs ++ ps) (ds ++ cs)
  | [], cs, qs, ds, h, hr => by
    obtain rfl : cs = [] := h
    simpa using hr
  | p :: ps, cs, qs, ds, h, hr => by
    obtain ⟨c, r, rfl, hk, hl⟩ := h
    have := Lits.reps ps r (qs ++ [p]) (ds ++ c) hl (Reps.snoc hr hk (d.K_len hk))
    simpa using this
theorem C_lits {α : Type} (d : Kd α) (W : World) (e n : Nat) (hn : W.heap.size = n) (ps : List α) (cs : List Value) (h : Lits d W ps cs) (hm : ps.length ≤ 1000000) {ca : Array Value} (hca : ca = cs.toArray) :
    d.C (W.alloc (.cells ca e)) (some ⟨n, 0, none⟩) ps.length ps := by
  subst hn hca
  have hr := Lits.reps ps cs [] [] h (Reps.none _ _)
  rw [List.nil_append, List.nil_append] at hr
  have hb : Below W.heap.size W (W.alloc (.cells cs.toArray e)) := below_alloc (Below.refl _ _) _
  refine ⟨rfl, by omega, fun _ => ⟨_, rfl, fun j p hj => ?_⟩⟩
  have hk := hr.2 j p hj
  refine ⟨_, d.K_len hk, d.K_below hb hk, fun q u hu => ?_⟩
  have hh : (W.alloc (.cells cs.toArray e)).heap[W.heap.size]? = some (.cells cs.toArray e (0, 0)) := by simpa using heap_alloc_new W _
  rw [Go.Proofs.YtggldnbhmebcpaaGreatDoorW.PrintWords.add_plain, blk_cell hh]
  rw [List.getElem?_take] at hu
  split at hu
  · rw [List.getElem?_drop] at hu
    simpa using hu
  · cases hu
end Go.Proofs.YtggldnbhmebcpaaGreatDoor.L
end
section
namespace Go.Proofs.YtggldnbhmebcpaaGreatDoor.L
open Go.RowKit Go.ChangeShapes Go.WideShapes Go.Proofs.YtggldnbhmebcpaaGreatDoorW.PrintWords Go.Proofs.YtggldnbhmebcpaaGreatDoorW.PrintLast Go.Proofs.YtggldnbhmebcpaaGreatDoorW.PrintMore
attribute [local go_sem] max2_int min2_int max_two min_two max_three min_three max_four min_four
theorem info_op : (Tryz.prog.info? 44).map (fun i => (i.zero, i.size, i.bytes)) = some (some (.agg #[.int .i64 0, .int .i64 0, .slice none 0 0, .slice none 0 0, .int .i64 0, .slice none 0 0, .slice none 0 0, .slice none 0 0]), 8, 144) := by kernel_rfl
end Go.Proofs.YtggldnbhmebcpaaGreatDoor.L
end
section
namespace Go.Proofs.YtggldnbhmebcpaaGreatDoor.L
open Go.RowKit Go.ChangeShapes Go.WideShapes Go.Proofs.YtggldnbhmebcpaaGreatDoorW.PrintWords Go.Proofs.YtggldnbhmebcpaaGreatDoorW.PrintLast Go.Proofs.YtggldnbhmebcpaaGreatDoorW.PrintMore
attribute [local go_sem] max2_int min2_int max_two min_two max_three min_three max_four min_four
def inC (c n : Int) : Bool :=
  if c = 1 then true else if c = 2 then decide (-140737488355328 ≤ n) && decide (n ≤ 140737488355328) else if c = 3 then decide (0 ≤ n) && decide (n ≤ 140737488355328)
  else if c = 4 then decide (0 ≤ n) && decide (n ≤ 255) else if c = 5 then (n == 0) || (n == 1) else false
theorem inC_2 (n : Int) : inC 2 n = (decide (-140737488355328 ≤ n) && decide (n ≤ 140737488355328)) := rfl
theorem inC_3 (n : Int) : inC 3 n = (decide (0 ≤ n) && decide (n ≤ 140737488355328)) := rfl
theorem inC_4 (n : Int) : inC 4 n = (decide (0 ≤ n) && decide (n ≤ 255)) := rfl
theorem inC_5 (n : Int) : inC 5 n = ((n == 0) || (n == 1)) := rfl
theorem inC_no {c n : Int} (c1 : ¬ c = 1) (c2 : ¬ c = 2) (c3 : ¬ c = 3) (c4 : ¬ c = 4) (c5 : ¬ c = 5) : inC c n = false := by unfold inC; rw [if_neg c1, if_neg c2, if_neg c3, if_neg c4, if_neg c5]
set_option maxHeartbeats 1000000 in
theorem in_any (c n : Int) (w : World) : Calls Tryz.prog 109 #[.int .i64 c, .int .i64 n] w fun e w' => e = .returned (.bool (inC c n)) ∧ Drawn0 w w' := by
  by_cases c1 : c = 1
  · subst c1
    go_enter Tryz.func109, Tryz.ntmps109
    go_wp2
    go_ret
    exact ⟨rfl, Drawn0.refl _⟩
  by_cases c2 : c = 2
  · subst c2
    by_cases h1 : -140737488355328 ≤ n <;> by_cases h2 : n ≤ 140737488355328
    all_goals
      have E := Aside0.mk (inC_2 n)
      go_enter Tryz.func109, Tryz.ntmps109
      go_wp2
      go_ret
      exact ⟨ret_bool (by rw [E.out]; simp [h1, h2]), by repeat (first | exact Drawn0.refl _ | apply Drawn0.step)⟩
  by_cases c3 : c = 3
  · subst c3
    by_cases h1 : 0 ≤ n <;> by_cases h2 : n ≤ 140737488355328
    all_goals
      have E := Aside0.mk (inC_3 n)
      go_enter Tryz.func109, Tryz.ntmps109
      go_wp2
      go_ret
      exact ⟨ret_bool (by rw [E.out]; simp [h1, h2]), by repeat (first | exact Drawn0.refl _ | apply Drawn0.step)⟩
  by_cases c4 : c = 4
  · subst c4
    by_cases h1 : 0 ≤ n <;> by_cases h2 : n ≤ 255
    all_goals
      have E := Aside0.mk (inC_4 n)
      go_enter Tryz.func109, Tryz.ntmps109
      go_wp2
      go_ret
      exact ⟨ret_bool (by rw [E.out]; simp [h1, h2]), by repeat (first | exact Drawn0.refl _ | apply Drawn0.step)⟩
  by_cases c5 : c = 5
  · subst c5
    have E := Aside0.mk (inC_5 n)
    by_cases h1 : n = 0
    · subst h1
      go_enter Tryz.func109, Tryz.ntmps109
      go_wp2
      go_ret
      exact ⟨rfl, by repeat (first | exact Drawn0.refl _ | apply Drawn0.step)⟩
    · have h0 : (n == 0) = false := by simpa using h1
      by_cases h2 : n = 1
      · subst h2
        go_enter Tryz.func109, Tryz.ntmps109
        go_wp2
        go_ret
        exact ⟨rfl, by repeat (first | exact Drawn0.refl _ | apply Drawn0.step)⟩
      · have h3 : (n == 1) = false := by simpa using h2
        go_enter Tryz.func109, Tryz.ntmps109
        go_wp2
        go_ret
        exact ⟨ret_bool (by rw [E.out]; simp [h1, h2]), by repeat (first | exact Drawn0.refl _ | apply Drawn0.step)⟩
  · have E := Aside0.mk (inC_no (n := n) c1 c2 c3 c4 c5)
    go_enter Tryz.func109, Tryz.ntmps109
    go_wp2
    go_ret
    exact ⟨ret_bool E.out.symm, by repeat (first | exact Drawn0.refl _ | apply Drawn0.step)⟩
end Go.Proofs.YtggldnbhmebcpaaGreatDoor.L
end
section
namespace Go.Proofs.YtggldnbhmebcpaaGreatDoor.L
open Go.RowKit Go.ChangeShapes Go.WideShapes Go.Proofs.YtggldnbhmebcpaaGreatDoorW.PrintWords Go.Proofs.YtggldnbhmebcpaaGreatDoorW.PrintLast Go.Proofs.YtggldnbhmebcpaaGreatDoorW.PrintMore
attribute [local go_sem] max2_int min2_int max_two min_two max_three min_three max_four min_four
def numsOk (l cl : List Int) : Bool := decide (l.length = cl.length ∧ ∀ j, j < l.length → inC (rd cl j) (rd l j) = true)
theorem numsOk_len {l cl : List Int} (h : ¬ l.length = cl.length) : numsOk l cl = false := decide_eq_false (fun h' => h h'.1)
theorem numsOk_bad {l cl : List Int} {j : Nat} (hj : j < l.length) (h : inC (rd cl j) (rd l j) = false) : numsOk l cl = false := decide_eq_false (fun h' => by have := h'.2 j hj; rw [h] at this; cases this)
set_option maxHeartbeats 1000000 in
theorem cnums_any (A0 : Option Addr) (c0 : Nat) (l : List Int) (A1 : Option Addr) (c1 : Nat) (cl : List Int) (w : World) (h0 : (Kd.int .i64).C w A0 l.length l) (h1 : (Kd.int .i64).C w A1 cl.length cl) :
    Calls Tryz.prog 87 #[.slice A0 l.length c0, .slice A1 cl.length c1] w fun e w' => e = .returned (.bool (numsOk l cl)) ∧ Drawn0 w w' := by
  have HR0 := Aside0.mk h0
  have HR1 := Aside0.mk h1
  have b0 := h0.2.1
  have b1 := h1.2.1
  clear h0 h1
  by_cases he : l.length = cl.length
  · have hb : ((l.length : Int) != (cl.length : Int)) = false := by simp [he]
    have HE0 := Aside0.mk he
    have hle : l.length ≤ cl.length := by omega
    clear he
    go_enter Tryz.func87, Tryz.ntmps87
    go_wp2
    go_loopw [5, 6, 14] (fun _ _ v14 W => ∃ k : Nat, k ≤ l.length ∧ v14 = .int .i64 k ∧ Aside0 (∀ j, j < k → inC (rd cl j) (rd l j) = true) ∧ Drawn0 w W) (fun _ _ v14 _ => l.length - (intOf v14).toNat)
    case atStart => exact ⟨0, by omega, rfl, ⟨fun j hj => by omega⟩, Drawn0.refl _⟩
    case round =>
      obtain ⟨k, hk, rfl, HP, ⟨m, rfl⟩⟩ := hrel
      by_cases hlt : k < l.length
      · obtain ⟨ad0, rfl, hx0⟩ := at_nat HR0.out k (by omega)
        obtain ⟨ad1, rfl, hx1⟩ := at_nat HR1.out k (by omega)
        have hlt1 : k < cl.length := by omega
        by_cases hi : inC (rd cl k) (rd l k) = true
        · have HI := Aside0.mk hi
          clear hi
          go_wp2_with fail
          refine (in_any (rd cl k) (rd l k) _).mono ?_
          rintro e w' ⟨rfl, ⟨m', rfl⟩⟩
          rw [HI.out]
          go_wp2
          go_roundw
          case rel => exact ⟨k + 1, by omega, by go_num, ⟨ext_lt HP.out HI.out⟩, by repeat (first | exact Drawn0.refl _ | apply Drawn0.step)⟩
          case measure => simp [intOf]; omega
        · have HI := Aside0.mk (Bool.eq_false_iff.2 hi)
          have HE := Aside0.mk (numsOk_bad hlt HI.out)
          clear hi
          go_wp2_with fail
          refine (in_any (rd cl k) (rd l k) _).mono ?_
          rintro e w' ⟨rfl, ⟨m', rfl⟩⟩
          rw [HI.out]
          go_wp2
          go_ret
          exact ⟨ret_bool HE.out.symm, by repeat (first | exact Drawn0.refl _ | apply Drawn0.step)⟩
      · have HE : Aside0 (numsOk l cl = true) := ⟨decide_eq_true ⟨HE0.out, fun j hj => HP.out j (by omega)⟩⟩
        go_wp2
        go_ret
        exact ⟨ret_bool HE.out.symm, by repeat (first | exact Drawn0.refl _ | apply Drawn0.step)⟩
  · have HE := Aside0.mk (numsOk_len he)
    go_enter Tryz.func87, Tryz.ntmps87
    go_wp2
    go_ret
    exact ⟨ret_bool HE.out.symm, by repeat (first | exact Drawn0.refl _ | apply Drawn0.step)⟩
end Go.Proofs.YtggldnbhmebcpaaGreatDoor.L
end
section
namespace Go.Proofs.YtggldnbhmebcpaaGreatDoor.L
open Go.RowKit Go.ChangeShapes Go.WideShapes Go.Proofs.YtggldnbhmebcpaaGreatDoorW.PrintWords Go.Proofs.YtggldnbhmebcpaaGreatDoorW.PrintLast Go.Proofs.YtggldnbhmebcpaaGreatDoorW.PrintMore
attribute [local go_sem] max2_int min2_int max_two min_two max_three min_three max_four min_four
def Tabs (w : World) : Prop := Lib.Utf8Tabs 0 1 w
theorem Tabs.below {w w' : World} (h : Tabs w) (hb : Below w.heap.size w w') : Tabs w' := Utf8Tabs_below h hb
end Go.Proofs.YtggldnbhmebcpaaGreatDoor.L
end
