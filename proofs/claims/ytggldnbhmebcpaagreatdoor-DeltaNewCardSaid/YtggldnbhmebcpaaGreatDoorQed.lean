/- Part 4 of the texts that the rows of this seat rest on, joined by a program: what its functions come to. Conditions: those that each theorem states. -/
import Derived.Test.YtggldnbhmebcpaaGreatDoorQec
import Derived.StringKeys
import Derived.Test.YtggldnbhmebcpaaGreatDoorProg
import Derived.Below
import Derived.Deep.Draws
import Derived.Deep.AppendLies
import Derived.Maps.AppendAt
import Derived.OwnWalk
import Derived.Laws.BytesArg
import Derived.Laws.MakeOwn
import Derived.Laws.OwnMore
import Derived.Deep.OwnRows
import Derived.Tactics
import Derived.Lib.ConvBytes
import Derived.Laws.Slices
import Derived.WalkKit
import Derived.KernelRfl
import Derived.RowKit3
import Derived.Deep.LoopGhost
import Derived.Deep.QuietTactic
import Derived.BigQuiet
import Derived.WideLaws
import Derived.Deep.DeepCutAuto
import Derived.Deep.CutBlock
import Derived.Deep.RegionHeld3
import Derived.Laws.Rows
import Derived.Lib.AppendStr
import Derived.ArgAppend
import Derived.Laws.IdiomCopy
import Derived.OrdersHeld
import Derived.Laws.BitsLemmas
import Derived.RowKit
set_option linter.unusedVariables false
set_option linter.unusedSimpArgs false
section
namespace Go.Proofs.YtggldnbhmebcpaaGreatDoor.L
open Go.RowKit Go.ChangeShapes Go.WideShapes Go.Proofs.YtggldnbhmebcpaaGreatDoorW.PrintWords Go.Proofs.YtggldnbhmebcpaaGreatDoorW.PrintLast Go.Proofs.YtggldnbhmebcpaaGreatDoorW.PrintMore
attribute [local go_sem] max2_int min2_int max_two min_two max_three min_three max_four min_four
section
open Go.Maps
variable {P : Program} {k : TypeId} {w w1 : World} {b n : Nat} {f : Lit → Option Value}
def MapN (P : Program) (k : TypeId) (w : World) (b n : Nat) (f : Lit → Option Value) : Prop :=
  ∃ D : DataW Value, w.ownsMap P k heldE b n D ∧ Maps.size D = n ∧ ∀ q, Maps.has D q = (f q).isSome ∧ ∀ v z, f q = some v → D.atKey q z = .held v
theorem MapN.toF (h : MapN P k w b n f) : MapF P k w b n f := by
  obtain ⟨D, h1, _, h2⟩ := h
  exact ⟨D, h1, h2⟩
theorem MapN.made (P : Program) (k : TypeId) (w : World) : MapN P k (w.alloc (.map #[] 0)) w.heap.size 0 (fun _ => none) :=
  ⟨.map [], World.ownsMap_made w P k heldE, rfl, fun q => ⟨rfl, fun v z h => by cases h⟩⟩
theorem MapN.kept {row : Option Nat} (h : MapN P k w b n f) (hg : w.grownBy w1 row) (hne : some b ≠ row) : MapN P k w1 b n f := by
  obtain ⟨D, h, hs, hf⟩ := h
  exact ⟨D, h.kept hg hne, hs, hf⟩
theorem MapN.below (h : MapN P k w b n f) (hb : Below w.heap.size w w1) : MapN P k w1 b n f := h.kept (row := none) ⟨hb.os, hb.tape, hb.output, hb.size, fun i hi _ => hb.block i hi⟩ (by simp)
end
section
open Go.Maps
variable {P : Program} (w : World) {ops : Array Oper} {rest : List Oper} {o : Oper} {a : Act} {Q : Exit → Act → World → Prop}
theorem wpList_update_N (hg : o.guard = none) (m x v : Operand) (t : TypeId) (hop : o.op = Op.mapUpdate t m x v)
    (k e : TypeId) (K : Keyed P k) (ht : P.underlying t = some (.map k e)) (b n : Nat) (f : Lit → Option Value)
    (hm : a.eval m = .map (some b)) (hown : MapN P k w b n f) (hn : n < maxLen) (key val : Value) (kl : Lit) (hx : a.eval x = key) (hv : a.eval v = val) (hkey : keyOf P k key = some kl) (hnew : f kl = none)
    (hK : ∀ w', MapN P k w' b (n + 1) (putF f kl val) → w.grownBy w' (some b) → wpList P ops Q rest (a.put o.dst undef) w') :
    wpList P ops Q (o :: rest) a w := by
  obtain ⟨D, hown, hs, hf⟩ := hown
  have hm' := hown.isMap
  have htd := hown.tidy K
  have hkl : WideAt.IsKeyLit kl := K.key hkey
  refine wpList_mapUpdate_own w hg m x v t hop k e K ht heldE b n D hm hown hn key val kl hx hv hkey (.held val) [] rfl ?_
  intro w' h1 h2
  refine hK w' ⟨_, h1, ?_, fun q => ?_⟩ h2
  · rw [Maps.size_put htd]
    have h3 := (hf kl).1
    rw [hnew] at h3
    rw [h3, hs]; rfl
  by_cases hq : q = kl
  · subst hq
    rw [Maps.has_put_same hm' hkl, putF_same]
    refine ⟨rfl, fun u z hu => ?_⟩
    cases hu
    exact Maps.atKey_put_same hm' hkl _ _
  · rw [Maps.has_put_other hq, putF_other f val hq]
    refine ⟨(hf q).1, fun u z hu => ?_⟩
    rw [Maps.atKey_put_other hq]
    exact (hf q).2 u z hu
theorem wpList_len_N (hg : o.guard = none) (m : Operand) (t : TypeId) (hop : o.op = Op.call { callee := Callee.builtin Builtin.len, args := #[m], argTypes := #[t] })
    (k e : TypeId) (ht : P.underlying t = some (.map k e)) (b n : Nat) (f : Lit → Option Value) (hm : a.eval m = .map (some b)) (hown : MapN P k w b n f)
    (hK : wpList P ops Q rest (a.put o.dst (.int .i64 (n : Int))) w) :
    wpList P ops Q (o :: rest) a w := by
  obtain ⟨D, hown, hs, hf⟩ := hown
  refine wpList_len_own w hg m t hop k e ht heldE b n D hm hown ?_
  rw [hs]; exact hK
end
theorem keyW : Maps.Keyed Tryz.prog 9 := Maps.string_keyed Tryz.underlying9
theorem keyW_of {s : List UInt8} (h : s.length ≤ maxLen) : keyOf Tryz.prog 9 (.string ⟨s.toArray⟩) = some (.string s) := by
  have h1 := Go.WideMaps.keyOf_string_mk (P := Tryz.prog) (k := 9) (s := ⟨s.toArray⟩) Tryz.underlying9 (by show s.toArray.size ≤ _; simpa using h)
  simpa using h1
theorem zeroIW (w : World) : (zeroValue 3).run Tryz.prog w = .ok (.int .i64 0) w := by kernel_rfl
def numF (vs : List (List UInt8)) : Lit → Option Value
  | .string x => if x ∈ vs then some (.int .i64 (vs.idxOf x : Int)) else none
  | _ => none
theorem numF_nil : numF [] = fun _ => none := by
  funext q
  cases q <;> rfl
theorem numF_in {vs : List (List UInt8)} {x : List UInt8} (h : x ∈ vs) (z : Value) : (numF vs (.string x)).getD z = .int .i64 (vs.idxOf x : Int) ∧ (numF vs (.string x)).isSome = true := by
  unfold numF
  dsimp only
  rw [if_pos h]; exact ⟨rfl, rfl⟩
theorem numF_out {vs : List (List UInt8)} {x : List UInt8} (h : ¬ x ∈ vs) (z : Value) : (numF vs (.string x)).getD z = z ∧ (numF vs (.string x)).isSome = false ∧ numF vs (.string x) = none := by
  unfold numF
  dsimp only
  rw [if_neg h]; exact ⟨rfl, rfl, rfl⟩
theorem numF_put {vs : List (List UInt8)} {x : List UInt8} (h : ¬ x ∈ vs) : putF (numF vs) (.string x) (.int .i64 (vs.length : Int)) = numF (vs ++ [x]) := by
  funext q
  by_cases hq : q = .string x
  · subst hq
    rw [putF_same]
    unfold numF
    dsimp only
    rw [if_pos (by simp), List.idxOf_append, if_neg h]
    simp
  · rw [putF_other _ _ hq]
    cases q with
    | string y =>
      have hy : y ≠ x := fun e => hq (by rw [e])
      unfold numF
      dsimp only
      by_cases hm : y ∈ vs
      · rw [if_pos hm, if_pos (by simp [hm]), List.idxOf_append, if_pos hm]
      · rw [if_neg hm, if_neg (by simp [hm, hy])]
    | _ => rfl
def kInts : Kd (List Int) := Kd.slice 3 (Kd.int .i64)
structure ClsIn (w Wg : World) (mb : Nat) (vs : List (List UInt8)) (own : List Int) (v : Value) (W : World) : Prop where
  map : MapN Tryz.prog 9 W mb vs.length (numF vs)
  own : (Kd.int .i64).R 3 W w.heap.size (fun q => Wg.heap.size ≤ q) v own
  grown : Wg.grownBy W (some mb)
  below : Below w.heap.size w W
theorem grown_below {Wg W W1 : World} {row : Option Nat} (h : Wg.grownBy W row) (hb : Below W.heap.size W W1) : Wg.grownBy W1 row :=
  ⟨hb.os.trans h.os, hb.tape.trans h.tape, hb.output.trans h.output, Nat.le_trans h.size hb.size, fun i hi hr => (hb.block i (Nat.lt_of_lt_of_le hi h.size)).trans (h.block i hi hr)⟩
theorem ClsIn.later {w Wg : World} {mb : Nat} {vs : List (List UInt8)} {own : List Int} {v : Value} {W W1 : World} (h : ClsIn w Wg mb vs own v W) (hb : Below W.heap.size W W1) : ClsIn w Wg mb vs own v W1 :=
  ⟨h.map.below hb, Kd.R_grown (row := none) h.own ⟨hb.os, hb.tape, hb.output, hb.size, fun i hi _ => hb.block i hi⟩ (fun _ _ => by simp), grown_below h.grown hb, below_step h.below hb⟩
structure ClsOut (w : World) (mb : Nat) (vs : List (List UInt8)) (outs : List (List Int)) (v : Value) (W : World) : Prop where
  map : MapN Tryz.prog 9 W mb vs.length (numF vs)
  out : kInts.R 40 W w.heap.size (fun _ => True) v outs
  below : Below w.heap.size w W
  ge : w.heap.size ≤ mb
theorem ClsOut.later {w : World} {mb : Nat} {vs : List (List UInt8)} {outs : List (List Int)} {v : Value} {W W1 : World} (h : ClsOut w mb vs outs v W) (hb : Below W.heap.size W W1) : ClsOut w mb vs outs v W1 :=
  ⟨h.map.below hb, Kd.R_grown (row := none) h.out ⟨hb.os, hb.tape, hb.output, hb.size, fun i hi _ => hb.block i hi⟩ (fun _ _ => by simp), below_step h.below hb, h.ge⟩
theorem own_vs_len (T : Lib.PrintTabs) (vs : List (List UInt8)) : ∀ (n : Nat) (ns : List Node), ns.length = n → (ownS T vs ns).1.length ≤ vs.length + n
  | n, ns, hn => by
    rcases snoc_cases ns with rfl | ⟨l, x, rfl⟩
    · show vs.length ≤ _; omega
    · rw [own_snoc]
      match n, hn with
      | 0, hn => simp at hn
      | n + 1, hn =>
        have := own_vs_len T vs n l (by simpa using hn)
        show (addW (ownS T vs l).1 _).length ≤ _
        unfold addW
        split
        · omega
        · simp; omega
theorem all_vs_len (T : Lib.PrintTabs) : ∀ (n : Nat) (l : List Scene), l.length = n → (∀ s ∈ l, s.nodes.length ≤ 400000) → (allS T l).1.length ≤ n * 400000
  | n, l, hn, hs => by
    rcases snoc_cases l with rfl | ⟨l, x, rfl⟩
    · show 0 ≤ _; omega
    · rw [all_snoc]
      match n, hn with
      | 0, hn => simp at hn
      | n + 1, hn =>
        have h1 := all_vs_len T n l (by simpa using hn) (fun s h => hs s (by simp [h]))
        have h2 := own_vs_len T (allS T l).1 x.nodes.length x.nodes rfl
        have h3 := hs x (by simp)
        show (ownS T (allS T l).1 x.nodes).1.length ≤ _
        rw [Nat.succ_mul]
        omega
theorem own_vals (T : Lib.PrintTabs) (vs : List (List UInt8)) (ns : List Node) : ∀ x ∈ (ownS T vs ns).2, 0 ≤ x ∧ x ≤ ((ownS T vs ns).1.length : Int) := by
  intro x hx
  obtain ⟨i, hi, rfl⟩ := List.getElem_of_mem hx
  obtain ⟨h1, h2⟩ := own_riseN T vs ns.length (ns := ns) rfl
  rw [own_len T vs ns.length ns rfl] at hi
  have h3 := h1 i hi
  have h4 := cnt_mono (ownS T vs ns).2 vs.length (i := i) (j := ns.length) (by omega)
  rw [rd_eq (by rw [own_len T vs ns.length ns rfl]; exact hi)] at h3
  omega
theorem nodeW_len (T : Lib.PrintTabs) {n : Node} {own : List Int} (hs : Small n) (hts : ∀ x ∈ n.texts, x.size ≤ 1000000) (hn : NBd n) (hk : ∀ k ∈ n.kids, 0 ≤ k ∧ k < (own.length : Int)) (hoB : ∀ x ∈ own, I64 x) : (nodeW T n own).length ≤ maxLen := by
  have h1 := itoa_len hn.kind
  have h2 := wNums_len hn.ints
  have h3 := wTexts_len T hts
  have h4 := wNums_len (l := n.kids.map (rd own)) (fun x hx => by
    obtain ⟨q, hq, rfl⟩ := List.mem_map.1 hx
    have h1 := hk q hq
    obtain ⟨p, rfl⟩ : ∃ p : Nat, q = (p : Int) := ⟨q.toNat, by omega⟩
    exact hoB _ (rd_mem (by omega)))
  rw [List.length_map] at h4
  have e : (nodeW T n own).length = (Lib.itoa n.kind).length + ((wNums n.ints).length + ((wTexts T n.texts).length + (2 + (wNums (n.kids.map (rd own))).length))) := by
    unfold nodeW wordL
    simp only [List.length_append, List.length_cons]
    omega
  have h5 := hs.1
  have h6 := hs.2.1
  have h7 := hs.2.2
  unfold maxLen
  omega
end Go.Proofs.YtggldnbhmebcpaaGreatDoor.L
end
section
namespace Go.Proofs.YtggldnbhmebcpaaGreatDoor.L
open Go.RowKit Go.ChangeShapes Go.WideShapes Go.Proofs.YtggldnbhmebcpaaGreatDoorW.PrintWords Go.Proofs.YtggldnbhmebcpaaGreatDoorW.PrintLast Go.Proofs.YtggldnbhmebcpaaGreatDoorW.PrintMore
attribute [local go_sem] max2_int min2_int max_two min_two max_three min_three max_four min_four
theorem zeroSl (w : World) : (zeroValue 40).run Tryz.prog w = .ok (.slice none 0 0) w := by kernel_rfl
def KeepT (T : TypeId) (W W' : World) : Prop := ∀ (g : Nat) (cs : Array Value) (t : TypeId), T ≠ t → W.heap[g]? = some (.cells cs t (0, 0)) → W'.heap[g]? = some (.cells cs t (0, 0))
theorem heap_lt {W : World} {g : Nat} {o : Obj} (h : W.heap[g]? = some o) : g < W.heap.size := by
  rcases Nat.lt_or_ge g W.heap.size with h1 | h1
  · exact h1
  · rw [Array.getElem?_eq_none (by omega)] at h; cases h
set_option maxRecDepth 100000 in
set_option maxHeartbeats 4000000 in
theorem fadd_any {w0 W : World} {mb n : Nat} {f : Lit → Option Value} {tg : Nat → List UInt8} {rows : List UInt8 → List Int} (h : RowsM w0 W mb n f tg rows) (q : List UInt8) (x : Int) (hq : q.length ≤ maxLen) (hn : n < maxLen) (hl : (rows q).length ≤ 1000000) :
    Calls Tryz.prog 51 #[.map (some mb), .string ⟨q.toArray⟩, .int .i64 x] W (fun e W' => e = .returned (.tuple #[]) ∧ ∃ f' tg', RowsM w0 W' mb (n + 1) f' tg' (updR rows q x) ∧ KeepT 3 W W') := by
  have HR := Aside0.mk h
  have HQ := Aside0.mk (keyW_of hq)
  have hL := h.lend q
  obtain ⟨A, c, hv⟩ := Kd.R_slice hL
  rw [hv] at hL
  have HL := Aside0.mk hL
  have HV := Aside0.mk hv
  clear h hL hv hq
  go_enter Tryz.func51, Tryz.ntmps51
  go_wp2_with (first
    | (at_lookup; refine wpList_lookup_F _ rfl (.tmp 8) (.tmp 9) 91 rfl 9 40 keyW Tryz.underlying91 (zeroSl _) mb n f rfl HR.out.map (.string ⟨q.toArray⟩) (.string q) rfl HQ.out (.slice A (rows q).length c) HV.out ?_)
    | (at_builtin; refine Kd.R_append (Kd.int .i64) (w0 := w0) w0.heap.size rfl (.tmp 10) (.tmp 12) 40 3 (.int .i64 0) 8 rfl Tryz.underlying40 info_int rfl (by decide) (by omega) (.slice A (rows q).length c) (rows q) x [.int .i64 x] (fun k => tgN tg W.heap.size q k = q) (fun _ => False) rfl (by go_simp) rfl (fun _ h => h.elim) (RowsM.fresh q) HL.out HR.out.below HR.out.below.size (by omega) ?_; intro v7 w7 hR7 hB7 hg7 _; have HG7 := Aside0.mk hg7; have HP := Aside0.mk (HR.out.push (q := q) (x := x) hR7 hB7 (by rw [HV.out]; exact hg7)); clear hR7 hB7 hg7)
    | (at_mapUpdate; refine wpList_update_F _ rfl (.tmp 6) (.tmp 7) (.tmp 13) 91 rfl 9 40 keyW Tryz.underlying91 mb n f rfl HP.out.1 hn (.string ⟨q.toArray⟩) v7 (.string q) rfl rfl HQ.out ?_; intro w3 hM3 hg3; have HG3 := Aside0.mk hg3; have HX := Aside0.mk (HP.out.2 w3 hM3 hg3); clear hM3 hg3))
  refine bodyPost_end (results_none rfl _ _ _) rfl ?_
  refine ⟨rfl, ⟨_, _, HX.out⟩, fun g cs t ht hg => ?_⟩
  have h1 : some g ≠ (Value.slice A (rows q).length c).ownBlock := Kd.R_ne HL.out hg ht
  have h2 := (HG7.out.block g (heap_lt hg) h1).trans hg
  have h3 : some g ≠ some mb := fun e => by
    injection e with e
    subst e
    exact HP.out.1.not_cells h2
  exact (HG3.out.block g (heap_lt h2) h3).trans h2
theorem visF_at {tk : List Int} {k : Int} : (visF tk (.int .i64 k)).getD (.bool false) = .bool (decide (k ∈ tk)) := by
  by_cases h : k ∈ tk
  · rw [visF_in h, decide_eq_true h]
  · rw [visF_out h, decide_eq_false h]
theorem row_cell {W : World} {base c d : Nat} {ok : Nat → Prop} {A A' : Option Addr} {c' : Nat} {r : List Int} (hR : (Kd.int .i64).R 3 W base ok (.slice A r.length c) r) (hA : d < r.length → A' = A.map (fun a => a.add d) ∧ c' = c - d) (hd : d < r.length) :
    ∃ g, A' = some ⟨g, d, none⟩ ∧ A = some ⟨g, 0, none⟩ ∧ c' = c - d ∧ r.length ≤ c ∧ (∃ cells, W.heap[g]? = some (.cells cells 3 (0, 0))) ∧ W.cell? ⟨g, d, none⟩ = some (.int .i64 (rd r (d : Int))) := by
  obtain ⟨g, cap, e, hb, hlt, hcells⟩ := Kd.R_form hR (by omega)
  injection e with e1 e2 e3
  subst e1 e3
  obtain ⟨h1, h2⟩ := hA hd
  refine ⟨g, ?_, rfl, h2, (Kd.R_reads' hR).2.1, hcells, (ints_cell hR d hd).1⟩
  rw [h1]
  simp [Addr.add]
  omega
def MTakePost (w0 : World) (N mb tb n m : Nat) (full : List UInt8 → List Int) (tk : List Int) (q : List UInt8) (W : World) (e : Ending) (W' : World) : Prop :=
  e = .returned (.int .i64 (firstL (full q) tk)) ∧ ∃ n' m' f' cut', n' ≤ n + 1 ∧ m' ≤ m + 1 ∧ FreeM w0 W' N mb n' f' full cut' ∧
    MapF Tryz.prog 3 W' tb m' (visF (if 0 ≤ firstL (full q) tk then firstL (full q) tk :: tk else tk)) ∧
    (∀ p, ∀ x ∈ (full p).take (cut' p), x ∈ (if 0 ≤ firstL (full q) tk then firstL (full q) tk :: tk else tk)) ∧
    (∀ {α : Type} (d : Kd α) (t base : Nat) (ok : Nat → Prop) (v : Value) (xs : List α), d.R t W base ok v xs → d.R t W' base ok v xs) ∧
    ∀ (g : Nat) (cs : Array Value) (t : TypeId) (fr : Nat × Nat), W.heap[g]? = some (.cells cs t fr) → W'.heap[g]? = some (.cells cs t fr)
set_option maxRecDepth 100000 in
set_option maxHeartbeats 4000000 in
theorem ftake_any {w0 W : World} {N mb tb n m : Nat} {f : Lit → Option Value} {full : List UInt8 → List Int} {cut : List UInt8 → Nat} {tk : List Int} (hF : FreeM w0 W N mb n f full cut) (hT : MapF Tryz.prog 3 W tb m (visF tk)) (hne : mb ≠ tb) (hge : w0.heap.size ≤ tb)
    (hcut : ∀ p, ∀ x ∈ (full p).take (cut p), x ∈ tk) (q : List UInt8) (hin : ∀ x ∈ full q, 0 ≤ x ∧ x ≤ 1000000) (hl : (full q).length ≤ 1000000) (hq : q.length ≤ maxLen) (hn : n < maxLen) (hm : m < maxLen) :
    Calls Tryz.prog 54 #[.map (some mb), .string ⟨q.toArray⟩, .map (some tb)] W (MTakePost w0 N mb tb n m full tk q W) := by
  have HF := Aside0.mk hF
  have HT := Aside0.mk hT
  have HCut := Aside0.mk hcut
  have HIn := Aside0.mk hin
  have HNe := Aside0.mk hne
  have HGe := Aside0.mk hge
  have HQ := Aside0.mk (keyW_of hq)
  obtain ⟨hc0, A, c, hR, A0, c0, hv, hA⟩ := hF.row q
  have HR := Aside0.mk hR
  have HV := Aside0.mk hv
  obtain ⟨r, hr⟩ : ∃ r, r = full q := ⟨_, rfl⟩
  have HE := Aside0.mk hr
  have HC0 := Aside0.mk (hcut q)
  rw [← hr] at hc0 hl hA HR HV HIn HC0
  have HL0 := Aside0.mk (And.intro hc0 hA)
  clear hF hT hcut hin hne hge hq hR hv hr hc0 hA
  go_enter Tryz.func54, Tryz.ntmps54
  go_wp2_with (first
    | (at_lookup; refine wpList_lookup_F _ rfl (.tmp 8) (.tmp 9) 91 rfl 9 40 keyW Tryz.underlying91 (zeroSl _) mb n f rfl HF.out.map (.string ⟨q.toArray⟩) (.string q) rfl HQ.out (.slice A0 (r.length - cut q) c0) HV.out ?_))
  go_loopw [7] (fun v7 Wr => Wr = W ∧ ∃ (d : Nat) (A' : Option Addr) (c' : Nat), d ≤ r.length ∧ v7 = .slice A' (r.length - d) c' ∧ Aside0 ((d < r.length → A' = A.map (fun a => a.add d) ∧ c' = c - d) ∧ ∀ x ∈ r.take d, x ∈ tk)) (fun v7 _ => match v7 with | .slice _ n _ => n | _ => 0)
  case atStart => exact ⟨rfl, cut q, A0, c0, HL0.out.1, rfl, ⟨HL0.out.2, HC0.out⟩⟩
  case round =>
    obtain ⟨rfl, d, A', c', hd, rfl, HD⟩ := hrel
    by_cases hlt : d < r.length
    · obtain ⟨g, rfl, hAg, hcc, hrc, hblk, hcell⟩ := row_cell HR.out HD.out.1 hlt
      obtain ⟨k, hk⟩ : ∃ k, r.length - d = k + 1 := ⟨r.length - d - 1, by omega⟩
      rw [hk]
      have hx := HIn.out (rd r (d : Int)) (by rw [rd_eq hlt]; exact List.getElem_mem hlt)
      have HK := Aside0.mk (keyI_of (x := rd r (d : Int)) (by omega) (by omega))
      by_cases hmem : rd r (d : Int) ∈ tk
      · have HVis := Aside0.mk (show (visF tk (.int .i64 (rd r (d : Int)))).getD (.bool false) = .bool true from by rw [visF_at, decide_eq_true hmem])
        have HMore := Aside0.mk (take_more hlt HD.out.2 hmem)
        go_wp2_with (at_lookup; refine wpList_lookup_F _ rfl (.tmp 16) (.tmp 19) 45 rfl 3 4 keyI Tryz.underlying45 (zeroB _) tb m (visF tk) rfl HT.out (.int .i64 (rd r (d : Int))) (.int .i64 (rd r (d : Int))) rfl HK.out (.bool true) HVis.out ?_)
        go_roundw
        case rel =>
          refine ⟨trivial, d + 1, (if c - d = 1 then some ⟨g, d, none⟩ else some ⟨g, d + 1, none⟩), c - d - 1, by omega, by rw [show r.length - (d + 1) = k from by omega], ⟨fun hd2 => ⟨?_, by omega⟩, HMore.out⟩⟩
          rw [if_neg (by omega), hAg]
          simp [Addr.add]
        case measure => show k < k + 1; omega
      · have HVis := Aside0.mk (show (visF tk (.int .i64 (rd r (d : Int)))).getD (.bool false) = .bool false from by rw [visF_at, decide_eq_false hmem])
        have HAt := Aside0.mk (firstL_at hlt HD.out.2 hmem)
        have HPut := Aside0.mk (take_put hlt HD.out.2)
        have HRc := Aside0.mk hrc
        have HKl := Aside0.mk (And.intro hk hcc)
        have HL := Aside0.mk (And.intro hlt hx.1)
        subst hAg
        by_cases hc1 : c - d = 1
        all_goals
          have HC1 := Aside0.mk hc1
          go_wp2_with (first
            | (at_lookup; refine wpList_lookup_F _ rfl (.tmp 16) (.tmp 19) 45 rfl 3 4 keyI Tryz.underlying45 (zeroB _) tb m (visF tk) rfl HT.out (.int .i64 (rd r (d : Int))) (.int .i64 (rd r (d : Int))) rfl HK.out (.bool false) HVis.out ?_)
            | (at_mapUpdate; refine wpList_update_F _ rfl (.tmp 22) (.tmp 25) _ 45 rfl 3 4 keyI Tryz.underlying45 tb m (visF tk) rfl HT.out hm (.int .i64 (rd r (d : Int))) (.bool true) (.int .i64 (rd r (d : Int))) rfl rfl HK.out ?_; intro w3 hM3 hg3; have HM3 := Aside0.mk hM3; have HF3 := Aside0.mk (HF.out.past HT.out hg3 HNe.out HGe.out); have HR3 := Aside0.mk (R_past_map HR.out HT.out hg3); have c3 := (ints_cell HR3.out d hlt).1; have HG3 := Aside0.mk hg3; clear hM3 hg3)
            | (at_mapUpdate; refine wpList_update_F _ rfl (.tmp 26) (.tmp 27) (.tmp 29) 91 rfl 9 40 keyW Tryz.underlying91 mb n f rfl HF3.out.map hn (.string ⟨q.toArray⟩) _ (.string q) rfl rfl HQ.out ?_; intro w4 hM4 hg4; have HM4 := Aside0.mk hM4; have HR4 := Aside0.mk (R_past_map HR3.out HF3.out.map hg4); have c4 := (ints_cell HR4.out d hlt).1; have HG4 := Aside0.mk hg4; clear hM4 hg4))
          go_ret
          have hx0 := HL.out.2
          have hc1 := HC1.out
          obtain rfl := HE.out
          have hk := HKl.out.1
          have hrc := HRc.out
          have hM4 : ∃ (A' : Option Addr) (c2 : Nat), (d + 1 < (full q).length → A' = some (⟨g, d + 1, none⟩ : Addr) ∧ c2 = c - (d + 1)) ∧ MapF Tryz.prog 9 w4 mb (n + 1) (putF f (.string q) (.slice A' ((full q).length - (d + 1)) c2)) := by
            rw [show (full q).length - (d + 1) = k from by omega]
            exact ⟨_, _, fun hd2 => (by first | exact ⟨rfl, by omega⟩ | (exfalso; omega)), HM4.out⟩
          obtain ⟨A', c2, hA', hM4⟩ := hM4
          have hF4 := HF3.out.cutTo (d := d + 1) (by omega) HR3.out (fun hd2 => ⟨by rw [(hA' hd2).1]; simp [Addr.add], (hA' hd2).2⟩) hM4 HG4.out
          refine ⟨by rw [HAt.out]; rfl, n + 1, m + 1, _, _, Nat.le_refl _, Nat.le_refl _, hF4, ?_, fun p x hx => ?_, fun {α} d t base ok v xs h => R_past_map (R_past_map h HT.out HG3.out) HF3.out.map HG4.out, fun g cs t fr hg => ?_⟩
          · rw [HAt.out, if_pos hx0, ← visF_put]
            exact HM3.out.kept HG4.out (fun e => HNe.out (by injection e with e; exact e.symm))
          · rw [HAt.out, if_pos hx0]
            by_cases hp : p = q
            · subst hp
              rw [if_pos rfl] at hx
              exact HPut.out x hx
            · rw [if_neg hp] at hx
              exact List.mem_cons_of_mem _ (HCut.out p x hx)
          · have h1 := (HG3.out.block g (heap_lt hg) (fun e => by injection e with e; subst e; exact HT.out.not_cells hg)).trans hg
            exact (HG4.out.block g (heap_lt h1) (fun e => by injection e with e; subst e; exact HF3.out.map.not_cells h1)).trans h1
    · obtain rfl : d = r.length := by omega
      have HEnd := Aside0.mk (firstL_end (r := r) (tk := tk) (fun x hx => HD.out.2 x (by rw [List.take_length]; exact hx)))
      rw [Nat.sub_self]
      go_wp2
      go_ret
      obtain rfl := HE.out
      refine ⟨by rw [HEnd.out]; rfl, n, m, f, cut, Nat.le_succ _, Nat.le_succ _, HF.out, ?_, ?_, fun {α} d t base ok v xs h => h, fun g cs t fr hg => hg⟩
      · rw [HEnd.out, if_neg (by omega)]; exact HT.out
      · rw [HEnd.out, if_neg (by omega)]; exact HCut.out
end Go.Proofs.YtggldnbhmebcpaaGreatDoor.L
end
section
namespace Go.Proofs.YtggldnbhmebcpaaGreatDoor.L
open Go.RowKit Go.ChangeShapes Go.WideShapes Go.Proofs.YtggldnbhmebcpaaGreatDoorW.PrintWords Go.Proofs.YtggldnbhmebcpaaGreatDoorW.PrintLast Go.Proofs.YtggldnbhmebcpaaGreatDoorW.PrintMore
attribute [local go_sem] max2_int min2_int max_two min_two max_three min_three max_four min_four
theorem bytes_app (a b : List UInt8) : (⟨a.toArray⟩ : ByteArray) ++ ⟨b.toArray⟩ = ⟨(a ++ b).toArray⟩ := by
  apply ByteArray.ext
  simp [ByteArray.append_eq, ByteArray.append]
theorem kindW_eq (n : Node) : ((((((⟨#[107, 105, 110, 100, 32]⟩ : ByteArray) ++ ⟨(Lib.itoa n.kind).toArray⟩) ++ ⟨#[32]⟩) ++ ⟨(Lib.itoa (n.ints.length : Int)).toArray⟩) ++ ⟨#[32]⟩) ++ ⟨(Lib.itoa (n.texts.length : Int)).toArray⟩) = ⟨(kindW n).toArray⟩ := by
  rw [show (⟨#[107, 105, 110, 100, 32]⟩ : ByteArray) = ⟨[107, 105, 110, 100, 32].toArray⟩ from rfl, show (⟨#[32]⟩ : ByteArray) = ⟨[32].toArray⟩ from rfl]
  simp only [bytes_app]
  unfold kindW wNums
  simp
theorem kindW_len {n : Node} (hs : Small n) (hk : I64 n.kind) : (kindW n).length ≤ maxLen := by
  have h1 := itoa_len hk
  have h2 := itoa_len (x := (n.ints.length : Int)) ⟨by omega, by have := hs.1; omega⟩
  have h3 := itoa_len (x := (n.texts.length : Int)) ⟨by omega, by have := hs.2.1; omega⟩
  unfold kindW wNums maxLen
  simp
  omega
set_option maxRecDepth 100000 in
set_option maxHeartbeats 8000000 in
theorem mkind_any (T : Lib.PrintTabs) (n : Node) (A1 : Option Addr) (c1 : Nat) (A2 : Option Addr) (c2 : Nat) (A3 : Option Addr) (c3 : Nat) (w : World) (hs : Small n) (hk : I64 n.kind) (hT : QTabs T w) :
    Calls Tryz.prog 53 #[.agg #[.int .i64 n.kind, .slice A1 n.ints.length c1, .slice A2 n.texts.length c2, .slice A3 n.kids.length c3]] w fun e w' => e = .returned (.string ⟨(kindW n).toArray⟩) ∧ Below w.heap.size w w' := by
  have hi1 : I64 (n.ints.length : Int) := ⟨by omega, by have := hs.1; omega⟩
  have hi2 : I64 (n.texts.length : Int) := ⟨by omega, by have := hs.2.1; omega⟩
  have hl0 := itoa_len hk
  have hl1 := itoa_len hi1
  have hl2 := itoa_len hi2
  have HA := Aside0.mk (below_alloc (Below.refl w.heap.size w) (.cells #[.int .i64 n.kind, .slice A1 n.ints.length c1, .slice A2 n.texts.length c2, .slice A3 n.kids.length c3] 42))
  have x0 := box_cell w _ rfl #[.int .i64 n.kind, .slice A1 n.ints.length c1, .slice A2 n.texts.length c2, .slice A3 n.kids.length c3] 42 0 (.int .i64 n.kind) rfl
  have x1 := box_cell w _ rfl #[.int .i64 n.kind, .slice A1 n.ints.length c1, .slice A2 n.texts.length c2, .slice A3 n.kids.length c3] 42 1 (.slice A1 n.ints.length c1) rfl
  have x2 := box_cell w _ rfl #[.int .i64 n.kind, .slice A1 n.ints.length c1, .slice A2 n.texts.length c2, .slice A3 n.kids.length c3] 42 2 (.slice A2 n.texts.length c2) rfl
  have HT1 := Aside0.mk (hT.below HA.out)
  have hun := Tryz.underlying42
  have HE := Aside0.mk (kindW_eq n)
  obtain ⟨X0, hX0⟩ : ∃ X : ByteArray, X = ⟨(Lib.itoa n.kind).toArray⟩ := ⟨_, rfl⟩
  obtain ⟨X1, hX1⟩ : ∃ X : ByteArray, X = ⟨(Lib.itoa (n.ints.length : Int)).toArray⟩ := ⟨_, rfl⟩
  obtain ⟨X2, hX2⟩ : ∃ X : ByteArray, X = ⟨(Lib.itoa (n.texts.length : Int)).toArray⟩ := ⟨_, rfl⟩
  have HC0 := Aside0.mk (fun (W : World) (hW : Below (w.alloc (.cells #[.int .i64 n.kind, .slice A1 n.ints.length c1, .slice A2 n.texts.length c2, .slice A3 n.kids.length c3] 42)).heap.size (w.alloc (.cells #[.int .i64 n.kind, .slice A1 n.ints.length c1, .slice A2 n.texts.length c2, .slice A3 n.kids.length c3] 42)) W) => itoa_any T n.kind W hk (HT1.out.below hW))
  have HC1 := Aside0.mk (fun (W : World) (hW : Below (w.alloc (.cells #[.int .i64 n.kind, .slice A1 n.ints.length c1, .slice A2 n.texts.length c2, .slice A3 n.kids.length c3] 42)).heap.size (w.alloc (.cells #[.int .i64 n.kind, .slice A1 n.ints.length c1, .slice A2 n.texts.length c2, .slice A3 n.kids.length c3] 42)) W) => itoa_any T (n.ints.length : Int) W hi1 (HT1.out.below hW))
  have HC2 := Aside0.mk (fun (W : World) (hW : Below (w.alloc (.cells #[.int .i64 n.kind, .slice A1 n.ints.length c1, .slice A2 n.texts.length c2, .slice A3 n.kids.length c3] 42)).heap.size (w.alloc (.cells #[.int .i64 n.kind, .slice A1 n.ints.length c1, .slice A2 n.texts.length c2, .slice A3 n.kids.length c3] 42)) W) => itoa_any T (n.texts.length : Int) W hi2 (HT1.out.below hW))
  have z0 : X0.size ≤ 100 := by rw [hX0]; show (Lib.itoa n.kind).toArray.size ≤ _; simp; omega
  have z1 : X1.size ≤ 100 := by rw [hX1]; show (Lib.itoa (n.ints.length : Int)).toArray.size ≤ _; simp; omega
  have z2 : X2.size ≤ 100 := by rw [hX2]; show (Lib.itoa (n.texts.length : Int)).toArray.size ≤ _; simp; omega
  rw [← hX0] at HC0
  rw [← hX1] at HC1
  rw [← hX2] at HC2
  rw [← hX0, ← hX1, ← hX2] at HE
  clear hX0 hX1 hX2 hl0 hl1 hl2
  obtain ⟨S1, hS1⟩ : ∃ S : ByteArray, S = (⟨#[107, 105, 110, 100, 32]⟩ : ByteArray) ++ X0 := ⟨_, rfl⟩
  obtain ⟨S2, hS2⟩ : ∃ S : ByteArray, S = S1 ++ ⟨#[32]⟩ := ⟨_, rfl⟩
  obtain ⟨S3, hS3⟩ : ∃ S : ByteArray, S = S2 ++ X1 := ⟨_, rfl⟩
  obtain ⟨S4, hS4⟩ : ∃ S : ByteArray, S = S3 ++ ⟨#[32]⟩ := ⟨_, rfl⟩
  obtain ⟨S5, hS5⟩ : ∃ S : ByteArray, S = S4 ++ X2 := ⟨_, rfl⟩
  have g0 : (⟨#[107, 105, 110, 100, 32]⟩ : ByteArray).size = 5 := rfl
  have g1 : (⟨#[32]⟩ : ByteArray).size = 1 := rfl
  have y1 : S1.size = 5 + X0.size := by rw [hS1, ByteArray.size_append, g0]
  have y2 : S2.size = S1.size + 1 := by rw [hS2, ByteArray.size_append, g1]
  have y3 : S3.size = S2.size + X1.size := by rw [hS3, ByteArray.size_append]
  have y4 : S4.size = S3.size + 1 := by rw [hS4, ByteArray.size_append, g1]
  have r1 : ∀ W : World, (Op.stringOp .add (⟨#[107, 105, 110, 100, 32]⟩ : ByteArray) X0).run Tryz.prog W = .ok (.string S1) W := fun W => by rw [hS1]; exact run_string_add_sum W _ _ (by omega)
  have r2 : ∀ W : World, (Op.stringOp .add S1 (⟨#[32]⟩ : ByteArray)).run Tryz.prog W = .ok (.string S2) W := fun W => by rw [hS2]; exact run_string_add_sum W _ _ (by omega)
  have r3 : ∀ W : World, (Op.stringOp .add S2 X1).run Tryz.prog W = .ok (.string S3) W := fun W => by rw [hS3]; exact run_string_add_sum W _ _ (by omega)
  have r4 : ∀ W : World, (Op.stringOp .add S3 (⟨#[32]⟩ : ByteArray)).run Tryz.prog W = .ok (.string S4) W := fun W => by rw [hS4]; exact run_string_add_sum W _ _ (by omega)
  have r5 : ∀ W : World, (Op.stringOp .add S4 X2).run Tryz.prog W = .ok (.string S5) W := fun W => by rw [hS5]; exact run_string_add_sum W _ _ (by omega)
  have HE5 : Aside0 (S5 = ⟨(kindW n).toArray⟩) := ⟨by rw [hS5, hS4, hS3, hS2, hS1]; exact HE.out⟩
  clear hT hs hS1 hS2 hS3 hS4 hS5 z0 z1 z2 g0 g1 y1 y2 y3 y4 HE hk hi1 hi2 HT1
  go_enter Tryz.func53, Tryz.ntmps53
  go_wp2
  generalize w.alloc (.cells #[.int .i64 n.kind, .slice A1 n.ints.length c1, .slice A2 n.texts.length c2, .slice A3 n.kids.length c3] 42) = w1 at HA x0 x1 x2 HC0 HC1 HC2 ⊢
  have N0 : ∀ W, Below w1.heap.size w1 W → W.cell? ⟨w.heap.size, 0, none⟩ = some (.int .i64 n.kind) := fun W h => pw_cell_below h x0
  have N1 : ∀ W, Below w1.heap.size w1 W → W.cell? ⟨w.heap.size, 1, none⟩ = some (.slice A1 n.ints.length c1) := fun W h => pw_cell_below h x1
  have N2 : ∀ W, Below w1.heap.size w1 W → W.cell? ⟨w.heap.size, 2, none⟩ = some (.slice A2 n.texts.length c2) := fun W h => pw_cell_below h x2
  clear x0 x1 x2
  go_region_held3 (fun W => Below w1.heap.size w1 W)
    (repeat' (first
      | with_reducible assumption
      | with_reducible exact Below.refl _ _
      | with_reducible refine below_drew ?_))
    (first
      | (go_at_call 52; (first | refine (HC0.out _ (by first | assumption | exact below_drew (Below.refl _ _) | exact Below.refl _ _)).mono ?_ | refine (HC1.out _ (by first | assumption | exact below_drew (Below.refl _ _) | exact Below.refl _ _)).mono ?_ | refine (HC2.out _ (by first | assumption | exact below_drew (Below.refl _ _) | exact Below.refl _ _)).mono ?_); rintro e w6 ⟨rfl, hB⟩; have hS := below_step (by first | assumption | exact below_drew (Below.refl _ _) | exact Below.refl _ _) hB; clear hB))
  all_goals
    go_wp2
    go_ret
    exact ⟨by rw [HE5.out]; rfl, below_step HA.out hS⟩
end Go.Proofs.YtggldnbhmebcpaaGreatDoor.L
end
section
namespace Go.Proofs.YtggldnbhmebcpaaGreatDoor.L
open Go.RowKit Go.ChangeShapes Go.WideShapes Go.Proofs.YtggldnbhmebcpaaGreatDoorW.PrintWords Go.Proofs.YtggldnbhmebcpaaGreatDoorW.PrintLast Go.Proofs.YtggldnbhmebcpaaGreatDoorW.PrintMore
attribute [local go_sem] max2_int min2_int max_two min_two max_three min_three max_four min_four
def kScene : Kd Scene := Kd.iso (Kd.pair (Kd.slice 42 kNode) (Kd.int .i64)) (fun x : Scene => (x.nodes, x.root))
theorem kScene_open {w : World} {x : Scene} {cs : List Value} (h : kScene.K w x cs) : ∃ A c, cs = [.slice A x.nodes.length c, .int .i64 x.root] ∧ x.nodes.length ≤ c ∧ kNode.C w A x.nodes.length x.nodes := by
  obtain ⟨_, _, rfl, ⟨A, c, rfl, l, h⟩, rfl⟩ := h
  exact ⟨A, c, rfl, l, h⟩
def sc (xs : List Scene) (i : Nat) : Scene := xs.getD i ⟨[], 0⟩
theorem at_scene {w : World} {A : Option Addr} {n : Nat} {xs : List Scene} (h : kScene.C w A n xs) (i : Nat) (h1 : i < n) :
    ∃ ad B d, A = some ad ∧ w.cell? (ad.add (i * 2)) = some (.slice B (sc xs i).nodes.length d) ∧ w.cell? ⟨(ad.add (i * 2)).block, (ad.add (i * 2)).off + 1, none⟩ = some (.int .i64 (sc xs i).root) ∧ (sc xs i).nodes.length ≤ d ∧ kNode.C w B (sc xs i).nodes.length (sc xs i).nodes := by
  obtain ⟨ad, c, e, _, hK, hc0⟩ := Kd.C_get h ⟨[], 0⟩ (i : Int) (by omega) (by omega)
  have hc : ∀ j u, c[j]? = some u → w.cell? (ad.add (i * 2 + j)) = some u := fun j u h => by simpa [show kScene.sz = 2 from rfl] using hc0 j u h
  have hK' : kScene.K w (sc xs i) c := by simpa [sc] using hK
  obtain ⟨B, d, rfl, hl, hN⟩ := kScene_open hK'
  refine ⟨ad, B, d, e, hc 0 _ rfl, ?_, hl, hN⟩
  rw [← add_field _ _ 1 (by omega)]; exact hc 1 _ rfl
end Go.Proofs.YtggldnbhmebcpaaGreatDoor.L
end
section
namespace Go.Proofs.YtggldnbhmebcpaaGreatDoor.L
open Go.RowKit Go.ChangeShapes Go.WideShapes Go.Proofs.YtggldnbhmebcpaaGreatDoorW.PrintWords Go.Proofs.YtggldnbhmebcpaaGreatDoorW.PrintLast Go.Proofs.YtggldnbhmebcpaaGreatDoorW.PrintMore
attribute [local go_sem] max2_int min2_int max_two min_two max_three min_three max_four min_four
def ScBd (s : Scene) : Prop := (∀ i : Nat, i < s.nodes.length → Small (nd s.nodes i) ∧ (∀ x ∈ (nd s.nodes i).texts, x.size ≤ 1000000) ∧ NBd (nd s.nodes i)) ∧ rows s.nodes ≤ 400000
def NumsPost (T : Lib.PrintTabs) (l : List Scene) (w : World) (e : Ending) (w' : World) : Prop :=
 Below w.heap.size w w' ∧ (((∀ i : Nat, i < l.length → isC (sc l i) = true) ∧ ∃ v, e = .returned (.tuple #[v, .int .i64 0]) ∧ kInts.R 40 w' w.heap.size (fun _ => True) v (allS T l).2) ∨
  ((∃ i : Nat, i < l.length ∧ isC (sc l i) = false) ∧ e = .returned (.tuple #[.slice none 0 0, .int .i64 16])))
theorem take_sc {l : List Scene} {i : Nat} (h : i < l.length) : l.take (i + 1) = l.take i ++ [sc l i] := by rw [take_succ_getD ⟨[], 0⟩ h]; rfl
theorem take_nd' {l : List Node} {i : Nat} (h : i < l.length) : l.take (i + 1) = l.take i ++ [nd l i] := by rw [take_succ_getD nodez h]; rfl
theorem grown_trans {Wg W W1 : World} {mb : Nat} {row : Option Nat} (h : Wg.grownBy W (some mb)) (hg : W.grownBy W1 row) (hr : ∀ k, row = some k → k = mb ∨ Wg.heap.size ≤ k) : Wg.grownBy W1 (some mb) :=
 ⟨hg.os.trans h.os, hg.tape.trans h.tape, hg.output.trans h.output, Nat.le_trans h.size hg.size, fun i hi hn => (hg.block i (Nat.lt_of_lt_of_le hi h.size) (fun e => by
  rcases hr i e.symm with h1 | h1
  ·exact hn (by rw [h1])
  ·omega)).trans (h.block i hi hn)⟩
theorem ClsIn.pushed {w Wg W W2 : World} {mb : Nat} {us : List (List UInt8)} {own : List Int} {x : Int} {v v2 : Value} (h : ClsIn w Wg mb us own v W) (hR : (Kd.int .i64).R 3 W2 w.heap.size (fun q => Wg.heap.size ≤ q) v2 (own ++ [x])) (hB : Below w.heap.size w W2) (hg : W.grownBy W2 v.ownBlock) : ClsIn w Wg mb us (own ++ [x]) v2 W2 :=
 ⟨h.map.kept hg (h.map.toF.ne_row h.own), hR, grown_trans h.grown hg (fun k hk => .inr (h.own.1 k hk)), hB⟩
theorem ClsIn.put {w Wg W W2 : World} {mb : Nat} {us : List (List UInt8)} {own : List Int} {x : List UInt8} {v : Value} (h : ClsIn w Wg mb us own v W) (hx : ¬ x ∈ us) (hM : MapN Tryz.prog 9 W2 mb (us.length + 1) (putF (numF us) (.string x) (.int .i64 (us.length : Int)))) (hg : W.grownBy W2 (some mb)) (hmb : w.heap.size ≤ mb) : ClsIn w Wg mb (us ++ [x]) own v W2 := by
 rw [numF_put hx] at hM
 exact ⟨by rw [List.length_append]; exact hM, R_past_map h.own h.map.toF hg, grown_trans h.grown hg (fun k hk => .inl (by injection hk with hk; exact hk.symm)), below_map h.below h.below.size hg hmb⟩
theorem ClsIn.whole {w Wg W : World} {mb : Nat} {vs us : List (List UInt8)} {outs : List (List Int)} {own : List Int} {vo v : Value} (ho : ClsOut w mb vs outs vo Wg) (h : ClsIn w Wg mb us own v W) : kInts.R 40 W w.heap.size (fun q => q < Wg.heap.size) vo outs :=
 Kd.R_mono (Kd.R_grown (Kd.R_bound ho.out) h.grown (fun q hq he => by
  obtain ⟨_, _, _, e', _, cells, hc⟩ := hq
  injection he with he
  subst he
  exact ho.map.toF.not_cells hc)) (fun q hq => hq.2.2.1)
theorem infoInts : (Tryz.prog.info? 40).map (fun i => (i.zero, i.size, i.bytes)) = some (some (.slice none 0 0), 1, 24) := by kernel_rfl
theorem ClsOut.pushed {w Wg W W2 : World} {mb : Nat} {us : List (List UInt8)} {outs : List (List Int)} {own : List Int} {vo v v2 : Value} (h : ClsIn w Wg mb us own v W) (ho : kInts.R 40 W w.heap.size (fun q => q < Wg.heap.size) vo outs) (hR : kInts.R 40 W2 w.heap.size (fun _ => True) v2 (outs ++ [own])) (hB : Below w.heap.size w W2) (hg : W.grownBy W2 vo.ownBlock) (hm : w.heap.size ≤ mb) : ClsOut w mb us (outs ++ [own]) v2 W2 :=
 ⟨h.map.kept hg (h.map.toF.ne_row ho), hR, hB, hm⟩
set_option maxRecDepth 100000 in
set_option maxHeartbeats 8000000 in
theorem numbers_any (T : Lib.PrintTabs) (A : Option Addr) (c : Nat) (l : List Scene) (w : World) (h : kScene.C w A l.length l) (hB : ∀ i : Nat, i < l.length → ScBd (sc l i)) (hn : l.length ≤ 1000000) (hT : QTabs T w) :
  Calls Tryz.prog 50 #[.slice A l.length c] w (NumsPost T l w) := by
 have HR := Aside0.mk h
 have HBd := Aside0.mk hB
 have HT := Aside0.mk hT
 have hus := Tryz.underlying24
 have hun := Tryz.underlying42
 have hmm := @run_makeMap Tryz.prog
 have HO0 : Aside0 (ClsOut w w.heap.size [] [] (.slice none 0 0) (w.alloc (.map #[] 0))) :=
  ⟨by rw [numF_nil]; exact MapN.made Tryz.prog 9 w, Kd.R_nil _ _ _ _ _, below_alloc (Below.refl _ _) _, Nat.le_refl _⟩
 clear h hB hT
 go_enter Tryz.func50, Tryz.ntmps50
 go_wp2
 clear hmm
 generalize w.alloc (.map #[] 0) = w0 at HO0 ⊢
 generalize hmb : w.heap.size = mb at HO0
 go_loopw [17, 5] (fun v17 v5 W => ∃ (i : Nat) (vo : Value), i ≤ l.length ∧ v17 = .int .i64 i ∧ vo = v5 ∧ Aside0 (∀ k : Nat, k < i → isC (sc l k) = true) ∧ Aside0 (ClsOut w mb (allS T (l.take i)).1 (allS T (l.take i)).2 vo W)) (fun v17 _ _ => l.length - (intOf v17).toNat)
 case atStart => exact ⟨0, _, by omega, rfl, rfl, ⟨fun k h => by omega⟩, ⟨by rw [List.take_zero]; exact HO0.out⟩⟩
 case round =>
  clear HO0
  obtain ⟨i, vo, hi, rfl, rfl, HC, HO⟩ := hrel
  by_cases hlt : i < l.length
  ·obtain ⟨ad, B, d, rfl, x0, x1, hd, hS⟩ := at_scene HR.out i hlt
   replace x0 := pw_cell_below HO.out.below x0
   replace x1 := pw_cell_below HO.out.below x1
   have HSb := Aside0.mk (HBd.out i hlt)
   have HS := Aside0.mk hS
   have HTk := Aside0.mk (take_sc hlt)
   have HId := Aside0.mk (show l.length ≤ 1000000 ∧ i < l.length ∧ isC (sc l i) = isC (sc l i) from ⟨hn, hlt, rfl⟩)
   have HVs := Aside0.mk (all_vs_len T i (l.take i) (by rw [List.length_take]; omega) (fun s hs => by
    obtain ⟨k, hk, rfl⟩ := List.getElem_of_mem hs
    have hk' : k < l.length := by rw [List.length_take] at hk; omega
    have h1 := (HBd.out k hk').2
    have e : sc l k = (l.take i)[k] := by rw [List.getElem_take]; unfold sc; rw [getD_eq _ hk']
    rw [← e]
    exact Nat.le_trans (len_rows _) h1))
   have HAll := Aside0.mk (show allS T (l.take (i + 1)) = ((ownS T (allS T (l.take i)).1 (sc l i).nodes).1, (allS T (l.take i)).2 ++ [(ownS T (allS T (l.take i)).1 (sc l i).nodes).2]) from by rw [take_sc hlt, all_snoc])
   have HOl := Aside0.mk (show (allS T (l.take i)).2.length ≤ 1000000 from by
    have : ∀ m : List Scene, (allS T m).2.length = m.length := fun m => by
     have key : ∀ (n : Nat) (m : List Scene), m.length = n → (allS T m).2.length = n := fun n => by
      induction n with
      | zero => intro m hm; obtain rfl := List.eq_nil_of_length_eq_zero hm; rfl
      | succ n ih =>
       intro m hm
       rcases snoc_cases m with rfl | ⟨m, x, rfl⟩
       ·simp at hm
       ·rw [all_snoc]
        show ((allS T m).2 ++ [_]).length = n + 1
        rw [List.length_append, ih m (by simpa using hm)]; rfl
     exact key m.length m rfl
    rw [this, List.length_take]; omega)
   clear hS hd
   obtain ⟨s, hs⟩ : ∃ s, s = sc l i := ⟨_, rfl⟩
   rw [← hs] at x0 x1 HSb HS HAll
   have HEq := Aside0.mk hs
   clear hs
   generalize allS T (l.take i) = st at HO HVs HAll HOl
   obtain ⟨vs, outs⟩ := st
   have HO : Aside0 (ClsOut w mb vs outs vo wr) := HO
   have HVs : Aside0 (vs.length ≤ i * 400000) := HVs
   have HOl : Aside0 (outs.length ≤ 1000000) := HOl
   have HAll : Aside0 (allS T (l.take (i + 1)) = ((ownS T vs s.nodes).1, outs ++ [(ownS T vs s.nodes).2])) := HAll
   have hA := below_alloc (Below.refl wr.heap.size wr) (.cells #[.slice B s.nodes.length d, .int .i64 s.root] 24)
   have q0 := box_cell wr _ rfl #[.slice B s.nodes.length d, .int .i64 s.root] 24 0 (.slice B s.nodes.length d) rfl
   have q1 := box_cell wr _ rfl #[.slice B s.nodes.length d, .int .i64 s.root] 24 1 (.int .i64 s.root) rfl
   have HO1 := Aside0.mk (HO.out.later hA)
   clear hA HO
   go_wp2_with fail
   refine (is_any B d s _ (Kd.C_below HS.out HO1.out.below) HSb.out.2).mono ?_
   rintro e wg ⟨rfl, hB1⟩
   replace q0 := pw_cell_below hB1 q0
   have HO2 := Aside0.mk (HO1.out.later hB1)
   clear hB1 HO1 x0 x1 q1
   cases hic : isC s with
   | false =>
    have HBad := Aside0.mk (show ∃ i : Nat, i < l.length ∧ isC (sc l i) = false from ⟨i, hlt, by rw [← HEq.out]; exact hic⟩)
    clear hic q0
    go_wp2
    go_ret2
    exact ⟨HO2.out.below, .inr ⟨HBad.out, rfl⟩⟩
   | true =>
    have HAh := Aside0.mk (show AheadN s.nodes from fun p hp k hk => isC_ahead (isC_right hic) hic hp hk)
    have HCi := Aside0.mk (ext_lt HC.out (show isC (sc l i) = true by rw [← HEq.out]; exact hic))
    have hnl : s.nodes.length ≤ 400000 := Nat.le_trans (len_rows _) HSb.out.2
    have HI0 : Aside0 (ClsIn w wg mb vs [] (.slice none 0 0) wg) := ⟨HO2.out.map, Kd.R_nil _ _ _ _ _, ⟨rfl, rfl, rfl, Nat.le_refl _, fun _ _ _ => rfl⟩, HO2.out.below⟩
    clear hic HC
    go_wp2
    clear q0
    go_loopw [27, 8] (fun v27 v8 W => ∃ (j : Nat) (vw : Value), j ≤ s.nodes.length ∧ v27 = .int .i64 j ∧ vw = v8 ∧ Aside0 (ClsIn w wg mb (ownS T vs (s.nodes.take j)).1 (ownS T vs (s.nodes.take j)).2 vw W)) (fun v27 _ _ => s.nodes.length - (intOf v27).toNat)
    case atStart => exact ⟨0, _, by omega, rfl, rfl, ⟨by rw [List.take_zero]; exact HI0.out⟩⟩
    case round =>
     clear HI0
     obtain ⟨j, vw, hj, rfl, rfl, HI⟩ := hrel
     by_cases hjl : j < s.nodes.length
     ·obtain ⟨an, A1, c1, A2, c2, A3, c3, rfl, y0, y1, y2, y3, hN⟩ := at_node HS.out j hjl
      replace y0 := pw_cell_below HI.out.below y0
      replace y1 := pw_cell_below HI.out.below y1
      replace y2 := pw_cell_below HI.out.below y2
      replace y3 := pw_cell_below HI.out.below y3
      have HN := Aside0.mk hN
      have HNb := Aside0.mk (HSb.out.1 j hjl)
      have HTk2 := Aside0.mk (show ownS T vs (s.nodes.take (j + 1)) = numStep T (ownS T vs (s.nodes.take j)) (nd s.nodes j) from by rw [take_nd' hjl, own_snoc])
      have HLn := Aside0.mk (show (ownS T vs (s.nodes.take j)).2.length = j from own_len T vs j (s.nodes.take j) (by rw [List.length_take]; omega))
      have HVl := Aside0.mk (show (ownS T vs (s.nodes.take j)).1.length ≤ vs.length + j from own_vs_len T vs j (s.nodes.take j) (by rw [List.length_take]; omega))
      have HVv := Aside0.mk (own_vals T vs (s.nodes.take j))
      have HKd := Aside0.mk (HAh.out j hjl)
      have HIb := Aside0.mk (show i < 1000000 ∧ j < s.nodes.length from ⟨by omega, hjl⟩)
      generalize ownS T vs (s.nodes.take j) = st at HI HTk2 HLn HVl HVv
      obtain ⟨us, own⟩ := st
      have HI : Aside0 (ClsIn w wg mb us own vw wr) := HI
      have HLn : Aside0 (own.length = j) := HLn
      have HVl : Aside0 (us.length ≤ vs.length + j) := HVl
      have HVv : Aside0 (∀ x ∈ own, 0 ≤ x ∧ x ≤ (us.length : Int)) := HVv
      have HUb := Aside0.mk (show us.length ≤ 1000000000000 from by
       have h1 := HVl.out
       have h2 := HVs.out
       have h3 := HIb.out
       have h4 : i * 400000 ≤ 1000000 * 400000 := Nat.mul_le_mul_right _ (by omega)
       omega)
      have HVi := Aside0.mk (show ∀ x ∈ own, I64 x from fun x hx => by
       have h1 := HVv.out x hx
       have h2 := HUb.out
       exact ⟨by omega, by omega⟩)
      have HKk := Aside0.mk (show ∀ k ∈ (nd s.nodes j).kids, 0 ≤ k ∧ k < (own.length : Int) from fun k hk => by
       have := HKd.out k hk
       have := HLn.out
       omega)
      obtain ⟨Ao, co, hv8⟩ := Kd.R_slice HI.out.own
      subst hv8
      have HTk3 := Aside0.mk (show numStep T (us, own) (nd s.nodes j) = (addW us (nodeW T (nd s.nodes j) own), own ++ [((addW us (nodeW T (nd s.nodes j) own)).idxOf (nodeW T (nd s.nodes j) own) : Int)]) from rfl)
      generalize hnn : nd s.nodes j = n at y0 y1 y2 y3 HN HNb HTk2 HKk HTk3
      clear hnn hN
      have hA := below_alloc (Below.refl wr.heap.size wr) (.cells #[.int .i64 n.kind, .slice A1 n.ints.length c1, .slice A2 n.texts.length c2, .slice A3 n.kids.length c3] 42)
      have HJ := Aside0.mk (HI.out.later hA)
      clear hA HI
      have HLo := Aside0.mk (Kd.R_reads' HJ.out.own)
      go_wp2_with fail
      refine (word_any T n A1 c1 A2 c2 A3 c3 Ao co own _ (HN.out.below HJ.out.below) HNb.out.1 HNb.out.2.1 HNb.out.2.2 HLo.out.2.2 HKk.out HVi.out (HT.out.below HJ.out.below)).mono ?_
      rintro e w5 ⟨rfl, hB5⟩
      have HK := Aside0.mk (HJ.out.later hB5)
      clear hB5 HJ y0 y1 y2 y3 HLo
      have HWl := Aside0.mk (keyW_of (nodeW_len T HNb.out.1 HNb.out.2.1 HNb.out.2.2 HKk.out HVi.out))
      clear HN
      generalize nodeW T n own = x at HTk3 HWl ⊢
      by_cases hin : x ∈ us
      ·have HV := Aside0.mk (numF_in hin (.int .i64 0))
       have ha : addW us x = us := by unfold addW; rw [if_pos hin]
       rw [ha] at HTk3
       have hjn := hnl
       generalize us.idxOf x = ix at HTk3 HV
       go_wp2_with (first
        | (at_lookup; refine wpList_lookup_F_ok _ rfl (.tmp 35) (.tmp 36) 133 rfl 9 3 keyW Tryz.underlying133 (zeroIW _) mb us.length (numF us) rfl HK.out.map.toF (.string ⟨x.toArray⟩) (.string x) rfl HWl.out (.int .i64 (ix : Int)) HV.out.1 true HV.out.2 ?_)
        | (at_lookup; refine wpList_lookup_F _ rfl (.tmp 47) (.tmp 48) 133 rfl 9 3 keyW Tryz.underlying133 (zeroIW _) mb us.length (numF us) rfl HK.out.map.toF (.string ⟨x.toArray⟩) (.string x) rfl HWl.out (.int .i64 (ix : Int)) HV.out.1 ?_)
        | (at_builtin; refine Kd.R_append (Kd.int .i64) (w0 := w) w.heap.size rfl (.tmp 46) (.tmp 50) 40 3 (.int .i64 0) 8 rfl Tryz.underlying40 info_int rfl (by decide) (by omega) (.slice Ao own.length co) own (ix : Int) [.int .i64 (ix : Int)] (fun q => wg.heap.size ≤ q) (fun _ => False) rfl (by go_simp) rfl (fun _ h => h.elim) (fun k hk => Nat.le_trans HK.out.grown.size hk) HK.out.own HK.out.below HK.out.below.size (by have := HLn.out; omega) ?_; intro v7 w7 hR7 hB7 hg7 _; have HL := Aside0.mk (HK.out.pushed hR7 hB7 hg7); clear hR7 hB7 hg7))
       go_roundw
       case rel =>
        refine ⟨j + 1, _, by omega, by go_num, rfl, ?_⟩
        rw [HTk2.out, HTk3.out]
        exact HL
       case measure => simp [intOf]; omega
      ·have HV := Aside0.mk (numF_out hin (.int .i64 0))
       have HIn := Aside0.mk hin
       have ha : addW us x = us ++ [x] := by unfold addW; rw [if_neg hin]
       have HV2 := Aside0.mk (numF_in (vs := us ++ [x]) (x := x) (by simp) (.int .i64 0))
       rw [ha] at HTk3
       have hjn := hnl
       have hul : us.length < maxLen := by have := HUb.out; unfold maxLen; omega
       have HMb := Aside0.mk HO2.out.ge
       clear hin ha
       generalize hix : (us ++ [x]).idxOf x = ix at HTk3 HV2
       clear hix
       go_wp2_with (first
        | (at_lookup; refine wpList_lookup_F_ok _ rfl (.tmp 35) (.tmp 36) 133 rfl 9 3 keyW Tryz.underlying133 (zeroIW _) mb us.length (numF us) rfl HK.out.map.toF (.string ⟨x.toArray⟩) (.string x) rfl HWl.out (.int .i64 0) HV.out.1 false HV.out.2.1 ?_)
        | (at_len; refine wpList_len_N _ rfl (.tmp 44) 133 rfl 9 3 Tryz.underlying133 mb us.length (numF us) rfl HK.out.map ?_)
        | (at_mapUpdate; refine wpList_update_N _ rfl (.tmp 42) (.tmp 43) _ 133 rfl 9 3 keyW Tryz.underlying133 mb us.length (numF us) rfl HK.out.map hul (.string ⟨x.toArray⟩) (.int .i64 (us.length : Int)) (.string x) rfl rfl HWl.out HV.out.2.2 ?_; intro w6 hM6 hg6; have HP := Aside0.mk (HK.out.put HIn.out hM6 hg6 HMb.out); clear hM6 hg6)
        | (at_lookup; refine wpList_lookup_F _ rfl (.tmp 47) (.tmp 48) 133 rfl 9 3 keyW Tryz.underlying133 (zeroIW _) mb (us ++ [x]).length (numF (us ++ [x])) rfl HP.out.map.toF (.string ⟨x.toArray⟩) (.string x) rfl HWl.out (.int .i64 (ix : Int)) HV2.out.1 ?_)
        | (at_builtin; refine Kd.R_append (Kd.int .i64) (w0 := w) w.heap.size rfl (.tmp 46) (.tmp 50) 40 3 (.int .i64 0) 8 rfl Tryz.underlying40 info_int rfl (by decide) (by omega) (.slice Ao own.length co) own (ix : Int) [.int .i64 (ix : Int)] (fun q => wg.heap.size ≤ q) (fun _ => False) rfl (by go_simp) rfl (fun _ h => h.elim) (fun k hk => Nat.le_trans HP.out.grown.size hk) HP.out.own HP.out.below HP.out.below.size (by have := HLn.out; omega) ?_; intro v7 w7 hR7 hB7 hg7 _; have HL := Aside0.mk (HP.out.pushed hR7 hB7 hg7); clear hR7 hB7 hg7))
       go_roundw
       case rel =>
        refine ⟨j + 1, _, by omega, by go_num, rfl, ?_⟩
        rw [HTk2.out, HTk3.out]
        exact HL
       case measure => simp [intOf]; omega
     ·obtain rfl : j = s.nodes.length := by omega
      rw [List.take_length] at HI
      have HOut := Aside0.mk (HI.out.whole HO2.out)
      have HMb := Aside0.mk HO2.out.ge
      have hol := HOl.out
      obtain ⟨Ao, co, hv8⟩ := Kd.R_slice HI.out.own
      subst hv8
      generalize ownS T vs s.nodes = st at HI HAll
      obtain ⟨us, own⟩ := st
      have HI : Aside0 (ClsIn w wg mb us own (.slice Ao own.length co) wr) := HI
      have HAll : Aside0 (allS T (l.take (i + 1)) = (us, outs ++ [own])) := HAll
      clear hjl hj HO2
      go_wp2_with (at_builtin; refine Kd.R_append kInts (w0 := w) w.heap.size rfl (.tmp 53) (.tmp 55) 87 40 (.slice none 0 0) 24 rfl Tryz.underlying87 infoInts rfl (by decide) (by omega) vo outs own [.slice Ao own.length co] (fun _ => True) (fun q => wg.heap.size ≤ q) rfl (by go_simp) ⟨_, rfl, HI.out.own⟩ (fun k hk => ⟨trivial, fun e => by have := HOut.out.1 k e.symm; omega⟩) (fun _ _ => trivial) (Kd.R_mono HOut.out (fun _ _ => trivial)) HI.out.below HI.out.below.size (by omega) ?_; intro v7 w7 hR7 hB7 hg7 _; have HL := Aside0.mk (ClsOut.pushed HI.out HOut.out hR7 hB7 hg7 HMb.out); clear hR7 hB7 hg7)
      go_roundw
      case rel =>
       refine ⟨i + 1, _, by omega, by go_num, rfl, HCi, ?_⟩
       rw [HAll.out]
       exact HL
      case measure => simp [intOf]; omega
  ·obtain rfl : i = l.length := by omega
   rw [List.take_length] at HO
   go_wp2
   go_ret2
   exact ⟨HO.out.below, .inl ⟨HC.out, _, rfl, HO.out.out⟩⟩
end Go.Proofs.YtggldnbhmebcpaaGreatDoor.L
end
section
namespace Go.Proofs.YtggldnbhmebcpaaGreatDoor.L
open Go.RowKit Go.ChangeShapes Go.WideShapes Go.Proofs.YtggldnbhmebcpaaGreatDoorW.PrintWords Go.Proofs.YtggldnbhmebcpaaGreatDoorW.PrintLast Go.Proofs.YtggldnbhmebcpaaGreatDoorW.PrintMore
attribute [local go_sem] max2_int min2_int max_two min_two max_three min_three max_four min_four
theorem all_numd {T : Lib.PrintTabs} {l : List Scene} (hA : ∀ s ∈ l, AheadN s.nodes) {i : Nat} (hi : i < l.length) : Numd T (allS T l).1 (sc l i).nodes ((allS T l).2.getD i []) := (all_spec T hA).numd i hi
end Go.Proofs.YtggldnbhmebcpaaGreatDoor.L
end
section
namespace Go.Proofs.YtggldnbhmebcpaaGreatDoor.L
open Go.RowKit Go.ChangeShapes Go.WideShapes Go.Proofs.YtggldnbhmebcpaaGreatDoorW.PrintWords Go.Proofs.YtggldnbhmebcpaaGreatDoorW.PrintLast Go.Proofs.YtggldnbhmebcpaaGreatDoorW.PrintMore
attribute [local go_sem] max2_int min2_int max_two min_two max_three min_three max_four min_four
def ownN (a b : Node) : Bool := decide (a.kind = b.kind ∧ a.ints = b.ints ∧ a.texts = b.texts)
theorem ownN_eq (a b : Node) : ownN a b = (alike a b && decide ((diffL a b).length = 0)) := by
  cases h : alike a b with
  | false =>
    refine decide_eq_false (fun hh => ?_)
    have : alike a b = true := decide_eq_true ⟨hh.1, by rw [hh.2.1], by rw [hh.2.2]⟩
    rw [h] at this; cases this
  | true =>
    have hk := (of_decide_eq_true h).1
    rw [Bool.true_and]
    unfold ownN
    refine decide_eq_decide.2 ⟨fun hh => ?_, fun hh => ?_⟩
    · rw [(diffL_nil h).2 hh.2]; rfl
    · exact ⟨hk, (diffL_nil h).1 (List.eq_nil_of_length_eq_zero hh)⟩
set_option maxRecDepth 100000 in
set_option maxHeartbeats 2000000 in
theorem own_any (a b : Node) (A1 : Option Addr) (c1 : Nat) (A2 : Option Addr) (c2 : Nat) (A3 : Option Addr) (c3 : Nat) (B1 : Option Addr) (d1 : Nat) (B2 : Option Addr) (d2 : Nat) (B3 : Option Addr) (d3 : Nat) (w : World) (h : NodeC w a A1 c1 A2 c2 A3 c3) (h' : NodeC w b B1 d1 B2 d2 B3 d3) (hs : Small a) :
    Calls Tryz.prog 84 #[.agg #[.int .i64 a.kind, .slice A1 a.ints.length c1, .slice A2 a.texts.length c2, .slice A3 a.kids.length c3], .agg #[.int .i64 b.kind, .slice B1 b.ints.length d1, .slice B2 b.texts.length d2, .slice B3 b.kids.length d3]] w fun e w' => e = .returned (.bool (ownN a b)) ∧ Below w.heap.size w w' := by
  have HA := Aside0.mk h
  have HBn := Aside0.mk h'
  have HSm := Aside0.mk hs
  have hun := Tryz.underlying42
  have HB := Aside0.mk (below_alloc (below_alloc (Below.refl w.heap.size w) (.cells #[.int .i64 a.kind, .slice A1 a.ints.length c1, .slice A2 a.texts.length c2, .slice A3 a.kids.length c3] 42)) (.cells #[.int .i64 b.kind, .slice B1 b.ints.length d1, .slice B2 b.texts.length d2, .slice B3 b.kids.length d3] 42))
  have HXa := Aside0.mk (show ((w.alloc (.cells #[.int .i64 a.kind, .slice A1 a.ints.length c1, .slice A2 a.texts.length c2, .slice A3 a.kids.length c3] 42)).alloc (.cells #[.int .i64 b.kind, .slice B1 b.ints.length d1, .slice B2 b.texts.length d2, .slice B3 b.kids.length d3] 42)).heap[w.heap.size]? = some (.cells #[.int .i64 a.kind, .slice A1 a.ints.length c1, .slice A2 a.texts.length c2, .slice A3 a.kids.length c3] 42 (0, 0)) from by
    have : (w.alloc (.cells #[.int .i64 a.kind, .slice A1 a.ints.length c1, .slice A2 a.texts.length c2, .slice A3 a.kids.length c3] 42)).heap[w.heap.size]? = some (.cells #[.int .i64 a.kind, .slice A1 a.ints.length c1, .slice A2 a.texts.length c2, .slice A3 a.kids.length c3] 42 (0, 0)) := by simpa using heap_alloc_new w _
    exact (Below.block (below_alloc (Below.refl _ _) _) _ (by simp)).trans this)
  have HXb := Aside0.mk (show ((w.alloc (.cells #[.int .i64 a.kind, .slice A1 a.ints.length c1, .slice A2 a.texts.length c2, .slice A3 a.kids.length c3] 42)).alloc (.cells #[.int .i64 b.kind, .slice B1 b.ints.length d1, .slice B2 b.texts.length d2, .slice B3 b.kids.length d3] 42)).heap[w.heap.size + 1]? = some (.cells #[.int .i64 b.kind, .slice B1 b.ints.length d1, .slice B2 b.texts.length d2, .slice B3 b.kids.length d3] 42 (0, 0)) from by
    have := heap_alloc_new (w.alloc (.cells #[.int .i64 a.kind, .slice A1 a.ints.length c1, .slice A2 a.texts.length c2, .slice A3 a.kids.length c3] 42)) (.cells #[.int .i64 b.kind, .slice B1 b.ints.length d1, .slice B2 b.texts.length d2, .slice B3 b.kids.length d3] 42)
    simpa using this)
  have a0 := (blk_cell HXa.out 0).trans rfl
  have a1 := (blk_cell HXa.out 1).trans rfl
  have a2 := (blk_cell HXa.out 2).trans rfl
  have q0 := (blk_cell HXb.out 0).trans rfl
  have q1 := (blk_cell HXb.out 1).trans rfl
  have q2 := (blk_cell HXb.out 2).trans rfl
  have a3 := (blk_cell HXa.out 3).trans rfl
  have q3 := (blk_cell HXb.out 3).trans rfl
  clear h h' hs
  go_enter Tryz.func84, Tryz.ntmps84
  go_wp2_with fail
  refine (diff_any a b A1 c1 A2 c2 A3 c3 B1 d1 B2 d2 B3 d3 _ (HA.out.below HB.out) (HBn.out.below HB.out) HSm.out).mono ?_
  rintro e w1 ⟨A, c, rfl, hR, hB⟩
  have HB1 := Aside0.mk (below_step HB.out hB)
  have hE := ownN_eq a b
  clear hR hB a0 a1 a2 a3 q0 q1 q2 q3
  cases hal : alike a b with
  | false =>
    have HE : Aside0 (ownN a b = false) := ⟨by rw [hE, hal]; rfl⟩
    clear hE hal
    go_wp2
    go_ret
    exact ⟨ret_bool HE.out.symm, HB1.out⟩
  | true =>
    by_cases hz : (diffL a b).length = 0
    · have HE : Aside0 (ownN a b = true) := ⟨by rw [hE, hal, decide_eq_true hz]; rfl⟩
      clear hE hal
      rw [hz]
      go_wp2
      go_ret
      exact ⟨ret_bool HE.out.symm, HB1.out⟩
    · have HE : Aside0 (ownN a b = false) := ⟨by rw [hE, hal, decide_eq_false hz]; rfl⟩
      obtain ⟨m, hm⟩ : ∃ m, (diffL a b).length = m + 1 := ⟨(diffL a b).length - 1, by omega⟩
      have d0 : ((m : Int) + 1 == 0) = false := by simp; omega
      clear hE hal hz
      rw [hm]
      go_wp2
      go_ret
      exact ⟨ret_bool HE.out.symm, HB1.out⟩
end Go.Proofs.YtggldnbhmebcpaaGreatDoor.L
end
section
namespace Go.Proofs.YtggldnbhmebcpaaGreatDoor.L
open Go.RowKit Go.ChangeShapes Go.WideShapes Go.Proofs.YtggldnbhmebcpaaGreatDoorW.PrintWords Go.Proofs.YtggldnbhmebcpaaGreatDoorW.PrintLast Go.Proofs.YtggldnbhmebcpaaGreatDoorW.PrintMore
attribute [local go_sem] max2_int min2_int max_two min_two max_three min_three max_four min_four
def sameN (a b : Node) : Bool := decide (a.kind = b.kind ∧ a.ints = b.ints ∧ a.texts = b.texts ∧ a.kids = b.kids)
theorem sameN_iff {a b : Node} : sameN a b = true ↔ a = b := by
  unfold sameN
  constructor
  · intro h
    have h := of_decide_eq_true h
    cases a; cases b
    simp only at h
    obtain ⟨rfl, rfl, rfl, rfl⟩ := h
    rfl
  · rintro rfl; exact decide_eq_true ⟨rfl, rfl, rfl, rfl⟩
set_option maxRecDepth 100000 in
set_option maxHeartbeats 2000000 in
theorem same_any (a b : Node) (A1 : Option Addr) (c1 : Nat) (A2 : Option Addr) (c2 : Nat) (A3 : Option Addr) (c3 : Nat) (B1 : Option Addr) (d1 : Nat) (B2 : Option Addr) (d2 : Nat) (B3 : Option Addr) (d3 : Nat) (w : World) (h : NodeC w a A1 c1 A2 c2 A3 c3) (h' : NodeC w b B1 d1 B2 d2 B3 d3) (hs : Small a) :
    Calls Tryz.prog 45 #[.agg #[.int .i64 a.kind, .slice A1 a.ints.length c1, .slice A2 a.texts.length c2, .slice A3 a.kids.length c3], .agg #[.int .i64 b.kind, .slice B1 b.ints.length d1, .slice B2 b.texts.length d2, .slice B3 b.kids.length d3]] w fun e w' => e = .returned (.bool (sameN a b)) ∧ Below w.heap.size w w' := by
  have HA := Aside0.mk h
  have HBn := Aside0.mk h'
  have HSm := Aside0.mk hs
  have hs3 := hs.2.2
  have hun := Tryz.underlying42
  have HB := Aside0.mk (below_alloc (below_alloc (Below.refl w.heap.size w) (.cells #[.int .i64 a.kind, .slice A1 a.ints.length c1, .slice A2 a.texts.length c2, .slice A3 a.kids.length c3] 42)) (.cells #[.int .i64 b.kind, .slice B1 b.ints.length d1, .slice B2 b.texts.length d2, .slice B3 b.kids.length d3] 42))
  have HXa := Aside0.mk (show ((w.alloc (.cells #[.int .i64 a.kind, .slice A1 a.ints.length c1, .slice A2 a.texts.length c2, .slice A3 a.kids.length c3] 42)).alloc (.cells #[.int .i64 b.kind, .slice B1 b.ints.length d1, .slice B2 b.texts.length d2, .slice B3 b.kids.length d3] 42)).heap[w.heap.size]? = some (.cells #[.int .i64 a.kind, .slice A1 a.ints.length c1, .slice A2 a.texts.length c2, .slice A3 a.kids.length c3] 42 (0, 0)) from by
    have : (w.alloc (.cells #[.int .i64 a.kind, .slice A1 a.ints.length c1, .slice A2 a.texts.length c2, .slice A3 a.kids.length c3] 42)).heap[w.heap.size]? = some (.cells #[.int .i64 a.kind, .slice A1 a.ints.length c1, .slice A2 a.texts.length c2, .slice A3 a.kids.length c3] 42 (0, 0)) := by simpa using heap_alloc_new w _
    exact (Below.block (below_alloc (Below.refl _ _) _) _ (by simp)).trans this)
  have HXb := Aside0.mk (show ((w.alloc (.cells #[.int .i64 a.kind, .slice A1 a.ints.length c1, .slice A2 a.texts.length c2, .slice A3 a.kids.length c3] 42)).alloc (.cells #[.int .i64 b.kind, .slice B1 b.ints.length d1, .slice B2 b.texts.length d2, .slice B3 b.kids.length d3] 42)).heap[w.heap.size + 1]? = some (.cells #[.int .i64 b.kind, .slice B1 b.ints.length d1, .slice B2 b.texts.length d2, .slice B3 b.kids.length d3] 42 (0, 0)) from by
    have := heap_alloc_new (w.alloc (.cells #[.int .i64 a.kind, .slice A1 a.ints.length c1, .slice A2 a.texts.length c2, .slice A3 a.kids.length c3] 42)) (.cells #[.int .i64 b.kind, .slice B1 b.ints.length d1, .slice B2 b.texts.length d2, .slice B3 b.kids.length d3] 42)
    simpa using this)
  have a0 := (blk_cell HXa.out 0).trans rfl
  have a1 := (blk_cell HXa.out 1).trans rfl
  have a2 := (blk_cell HXa.out 2).trans rfl
  have q0 := (blk_cell HXb.out 0).trans rfl
  have q1 := (blk_cell HXb.out 1).trans rfl
  have q2 := (blk_cell HXb.out 2).trans rfl
  have a3 := (blk_cell HXa.out 3).trans rfl
  have q3 := (blk_cell HXb.out 3).trans rfl
  clear h h' hs
  go_enter Tryz.func45, Tryz.ntmps45
  go_wp2_with fail
  refine (own_any a b A1 c1 A2 c2 A3 c3 B1 d1 B2 d2 B3 d3 _ (HA.out.below HB.out) (HBn.out.below HB.out) HSm.out).mono ?_
  rintro e w1 ⟨rfl, hB⟩
  have HB1 := Aside0.mk (below_step HB.out hB)
  replace HXa := Aside0.mk ((hB.block _ (blk_lt HXa.out)).trans HXa.out)
  replace HXb := Aside0.mk ((hB.block _ (blk_lt HXb.out)).trans HXb.out)
  replace a3 := (blk_cell HXa.out 3).trans rfl
  replace q3 := (blk_cell HXb.out 3).trans rfl
  clear hB a0 a1 a2 q0 q1 q2
  cases how : ownN a b with
  | false =>
    have HE : Aside0 (sameN a b = false) := ⟨decide_eq_false (fun hh => by
      have : ownN a b = true := decide_eq_true ⟨hh.1, hh.2.1, hh.2.2.1⟩
      rw [how] at this; cases this)⟩
    clear how
    go_wp2
    go_ret
    exact ⟨ret_bool HE.out.symm, HB1.out⟩
  | true =>
    have HO := Aside0.mk (of_decide_eq_true how)
    clear how
    by_cases hl : a.kids.length = b.kids.length
    · have HLn := Aside0.mk hl
      rw [← hl] at q3 HXb
      clear hl
      go_wp2
      go_loopw [5] (fun v5 W => ∃ i : Nat, i ≤ a.kids.length ∧ v5 = .int .i64 i ∧ Aside0 (∀ j : Nat, j < i → rd a.kids (j : Int) = rd b.kids (j : Int)) ∧ Aside0 (Below w1.heap.size w1 W)) (fun v5 _ => a.kids.length - (intOf v5).toNat)
      case atStart => exact ⟨0, by omega, rfl, ⟨fun j h => by omega⟩, ⟨Below.refl _ _⟩⟩
      case round =>
        obtain ⟨i, hi, rfl, HJ, HW⟩ := hrel
        replace a3 := pw_cell_below HW.out a3
        replace q3 := pw_cell_below HW.out q3
        by_cases hlt : i < a.kids.length
        · obtain ⟨ad, rfl, x1⟩ := at_nat (Kd.C_below HA.out.k (below_step HB1.out HW.out)) i hlt
          obtain ⟨bd, rfl, x2⟩ := at_nat (Kd.C_below HBn.out.k (below_step HB1.out HW.out)) i (by rw [← HLn.out]; exact hlt)
          by_cases he : rd a.kids (i : Int) = rd b.kids (i : Int)
          · have de : (rd a.kids (i : Int) != rd b.kids (i : Int)) = false := by simp [he]
            have HJ2 := Aside0.mk (ext_lt HJ.out he)
            have HW2 := Aside0.mk (pw_below_drewN HW.out 1)
            clear he
            go_wp2
            go_region
            go_wp2
            go_roundw
            case rel => exact ⟨i + 1, by omega, by go_num, HJ2, HW2⟩
            case measure => simp [intOf]; omega
          · have de : (rd a.kids (i : Int) != rd b.kids (i : Int)) = true := by simp [he]
            have HE : Aside0 (sameN a b = false) := ⟨decide_eq_false (fun hh => he (by rw [hh.2.2.2]))⟩
            clear he
            go_wp2
            go_region
            go_wp2
            go_ret
            exact ⟨ret_bool HE.out.symm, pw_below_drewN (below_step HB1.out HW.out) 1⟩
        · obtain rfl : i = a.kids.length := by omega
          have HE : Aside0 (sameN a b = true) := ⟨decide_eq_true ⟨HO.out.1, HO.out.2.1, HO.out.2.2, List.ext_getElem HLn.out (fun j h1 h2 => by rw [← rd_eq h1, ← rd_eq h2]; exact HJ.out j h1)⟩⟩
          go_wp2
          go_ret
          exact ⟨ret_bool HE.out.symm, below_step HB1.out HW.out⟩
    · have HE : Aside0 (sameN a b = false) := ⟨decide_eq_false (fun hh => hl (by rw [hh.2.2.2]))⟩
      have dl : (a.kids.length != b.kids.length) = true := by simp [hl]
      have dl' : ((a.kids.length : Int) != (b.kids.length : Int)) = true := by simp; omega
      clear hl
      go_wp2
      go_ret
      exact ⟨ret_bool HE.out.symm, HB1.out⟩
end Go.Proofs.YtggldnbhmebcpaaGreatDoor.L
end
section
namespace Go.Proofs.YtggldnbhmebcpaaGreatDoor.L
open Go.RowKit Go.ChangeShapes Go.WideShapes Go.Proofs.YtggldnbhmebcpaaGreatDoorW.PrintWords Go.Proofs.YtggldnbhmebcpaaGreatDoorW.PrintLast Go.Proofs.YtggldnbhmebcpaaGreatDoorW.PrintMore
attribute [local go_sem] max2_int min2_int max_two min_two max_three min_three max_four min_four
theorem nodes_ext {xs ys : List Node} (hl : xs.length = ys.length) (h : ∀ j : Nat, j < xs.length → nd xs j = nd ys j) : xs = ys := List.ext_getElem hl (fun j h1 h2 => by
  have := h j h1
  unfold nd at this
  rw [getD_eq _ h1, getD_eq _ h2] at this
  exact this)
end Go.Proofs.YtggldnbhmebcpaaGreatDoor.L
end
section
namespace Go.Proofs.YtggldnbhmebcpaaGreatDoor.L
open Go.RowKit Go.ChangeShapes Go.WideShapes Go.Proofs.YtggldnbhmebcpaaGreatDoorW.PrintWords Go.Proofs.YtggldnbhmebcpaaGreatDoorW.PrintLast Go.Proofs.YtggldnbhmebcpaaGreatDoorW.PrintMore
attribute [local go_sem] max2_int min2_int max_two min_two max_three min_three max_four min_four
open Classical in
noncomputable def sameS (s t : Scene) : Bool := decide (s = t)
theorem sameS_yes {s t : Scene} (h : s = t) : sameS s t = true := by unfold sameS; simp [h]
theorem sameS_no {s t : Scene} (h : ¬ s = t) : sameS s t = false := by unfold sameS; simp [h]
theorem scene_ext {s t : Scene} (h1 : s.nodes = t.nodes) (h2 : s.root = t.root) : s = t := by cases s; cases t; simp only at h1 h2; subst h1 h2; rfl
set_option maxRecDepth 100000 in
set_option maxHeartbeats 4000000 in
theorem sameS_any (A : Option Addr) (c : Nat) (s : Scene) (B : Option Addr) (d : Nat) (t : Scene) (w : World) (h : kNode.C w A s.nodes.length s.nodes) (h' : kNode.C w B t.nodes.length t.nodes) (hs : ∀ i : Nat, i < s.nodes.length → Small (nd s.nodes i)) :
    Calls Tryz.prog 24 #[.agg #[.slice A s.nodes.length c, .int .i64 s.root], .agg #[.slice B t.nodes.length d, .int .i64 t.root]] w fun e w' => e = .returned (.bool (sameS s t)) ∧ Below w.heap.size w w' := by
  have HA := Aside0.mk h
  have HBn := Aside0.mk h'
  have HSm := Aside0.mk hs
  have b0 := h.2.1
  have HB := Aside0.mk (below_alloc (below_alloc (Below.refl w.heap.size w) (.cells #[.slice A s.nodes.length c, .int .i64 s.root] 24)) (.cells #[.slice B t.nodes.length d, .int .i64 t.root] 24))
  have HXa := Aside0.mk (show ((w.alloc (.cells #[.slice A s.nodes.length c, .int .i64 s.root] 24)).alloc (.cells #[.slice B t.nodes.length d, .int .i64 t.root] 24)).heap[w.heap.size]? = some (.cells #[.slice A s.nodes.length c, .int .i64 s.root] 24 (0, 0)) from by
    have : (w.alloc (.cells #[.slice A s.nodes.length c, .int .i64 s.root] 24)).heap[w.heap.size]? = some (.cells #[.slice A s.nodes.length c, .int .i64 s.root] 24 (0, 0)) := by simpa using heap_alloc_new w _
    exact (Below.block (below_alloc (Below.refl _ _) _) _ (by simp)).trans this)
  have HXb := Aside0.mk (show ((w.alloc (.cells #[.slice A s.nodes.length c, .int .i64 s.root] 24)).alloc (.cells #[.slice B t.nodes.length d, .int .i64 t.root] 24)).heap[w.heap.size + 1]? = some (.cells #[.slice B t.nodes.length d, .int .i64 t.root] 24 (0, 0)) from by
    have := heap_alloc_new (w.alloc (.cells #[.slice A s.nodes.length c, .int .i64 s.root] 24)) (.cells #[.slice B t.nodes.length d, .int .i64 t.root] 24)
    simpa using this)
  have hus := Tryz.underlying24
  have a0 := (blk_cell HXa.out 0).trans rfl
  have a1 := (blk_cell HXa.out 1).trans rfl
  have q0 := (blk_cell HXb.out 0).trans rfl
  have q1 := (blk_cell HXb.out 1).trans rfl
  have hun := Tryz.underlying42
  clear h h' hs
  by_cases hr : ¬ s.root = t.root
  · have HE : Aside0 (sameS s t = false) := ⟨sameS_no (fun e => hr (by rw [e]))⟩
    have dr : (s.root != t.root) = true := by simp [hr]
    clear hr
    go_enter Tryz.func24, Tryz.ntmps24
    go_wp2
    go_ret
    exact ⟨ret_bool HE.out.symm, HB.out⟩
  replace hr := Classical.byContradiction hr
  have HRo := Aside0.mk hr
  have dr : (s.root != t.root) = false := by simp [hr]
  clear hr
  by_cases hl : s.nodes.length = t.nodes.length
  · have HL := Aside0.mk hl
    rw [← hl] at q0 HXb HXa a0 a1 q1 HB ⊢
    clear hl
    go_enter Tryz.func24, Tryz.ntmps24
    go_wp2
    go_loopw [5] (fun v5 W => ∃ i : Nat, i ≤ s.nodes.length ∧ v5 = .int .i64 i ∧ Aside0 (∀ j : Nat, j < i → nd s.nodes j = nd t.nodes j) ∧ Aside0 (Below w.heap.size w W) ∧ Aside0 (W.cell? ⟨w.heap.size, 0, none⟩ = some (.slice A s.nodes.length c) ∧ W.cell? ⟨w.heap.size + 1, 0, none⟩ = some (.slice B s.nodes.length d))) (fun v5 _ => s.nodes.length - (intOf v5).toNat)
    case atStart => exact ⟨0, by omega, rfl, ⟨fun j h => by omega⟩, HB, ⟨a0, q0⟩⟩
    case round =>
      obtain ⟨i, hi, rfl, HJ, HW, HC⟩ := hrel
      clear a0 q0
      have a0 := HC.out.1
      have q0 := HC.out.2
      by_cases hlt : i < s.nodes.length
      · obtain ⟨ad, A1, c1, A2, c2, A3, c3, rfl, x0, x1, x2, x3, hN⟩ := at_node HA.out i hlt
        obtain ⟨bd, B1, d1, B2, d2, B3, d3, rfl, y0, y1, y2, y3, hM⟩ := at_node HBn.out i (by rw [← HL.out]; exact hlt)
        replace x0 := pw_cell_below HW.out x0
        replace x1 := pw_cell_below HW.out x1
        replace x2 := pw_cell_below HW.out x2
        replace x3 := pw_cell_below HW.out x3
        replace y0 := pw_cell_below HW.out y0
        replace y1 := pw_cell_below HW.out y1
        replace y2 := pw_cell_below HW.out y2
        replace y3 := pw_cell_below HW.out y3
        have HN := Aside0.mk hN
        have HM := Aside0.mk hM
        clear hN hM
        go_wp2
        go_region_held3 (fun W => W.cell? ⟨w.heap.size, 0, none⟩ = some (.slice (some ad) s.nodes.length c) ∧ W.cell? ⟨w.heap.size + 1, 0, none⟩ = some (.slice (some bd) s.nodes.length d) ∧ W.cell? (ad.add (i * 4)) = some (.int .i64 (nd s.nodes i).kind) ∧ W.cell? ⟨(ad.add (i * 4)).block, (ad.add (i * 4)).off + 1, none⟩ = some (.slice A1 (nd s.nodes i).ints.length c1) ∧ W.cell? ⟨(ad.add (i * 4)).block, (ad.add (i * 4)).off + 2, none⟩ = some (.slice A2 (nd s.nodes i).texts.length c2) ∧ W.cell? ⟨(ad.add (i * 4)).block, (ad.add (i * 4)).off + 3, none⟩ = some (.slice A3 (nd s.nodes i).kids.length c3) ∧
            W.cell? (bd.add (i * 4)) = some (.int .i64 (nd t.nodes i).kind) ∧ W.cell? ⟨(bd.add (i * 4)).block, (bd.add (i * 4)).off + 1, none⟩ = some (.slice B1 (nd t.nodes i).ints.length d1) ∧ W.cell? ⟨(bd.add (i * 4)).block, (bd.add (i * 4)).off + 2, none⟩ = some (.slice B2 (nd t.nodes i).texts.length d2) ∧ W.cell? ⟨(bd.add (i * 4)).block, (bd.add (i * 4)).off + 3, none⟩ = some (.slice B3 (nd t.nodes i).kids.length d3))
          (first
            | (go_split_ands
               refine ⟨?_, ?_, ?_, ?_, ?_, ?_, ?_, ?_, ?_, ?_⟩
               all_goals first
                 | with_reducible assumption
                 | with_reducible exact pw_cell_below hB (by assumption)
                 | (simp [*]; done)))
          (first
            | (go_at_call 45; refine (same_any (nd s.nodes i) (nd t.nodes i) A1 c1 A2 c2 A3 c3 B1 d1 B2 d2 B3 d3 _ (HN.out.below (below_drew HW.out)) (HM.out.below (below_drew HW.out)) (HSm.out i hlt)).mono ?_; rintro e w2 ⟨rfl, hB2⟩; have hB := hB2))
        have HB2 := Aside0.mk (below_step (below_drew HW.out) hB2)
        have HC2 := Aside0.mk (And.intro (pw_cell_below hB2 (show wr.drew.cell? _ = _ from a0)) (pw_cell_below hB2 (show wr.drew.cell? _ = _ from q0)))
        clear x0 x1 x2 x3 y0 y1 y2 y3 a0 q0
        cases hc : sameN (nd s.nodes i) (nd t.nodes i) with
        | true =>
          have HJ2 := Aside0.mk (ext_lt HJ.out (sameN_iff.1 hc))
          clear hc
          go_wp2
          go_roundw
          case rel => exact ⟨i + 1, by omega, by go_num, HJ2, HB2, HC2⟩
          case measure => simp [intOf]; omega
        | false =>
          have HE : Aside0 (sameS s t = false) := ⟨sameS_no (fun e => by
            have : sameN (nd s.nodes i) (nd t.nodes i) = true := sameN_iff.2 (by rw [e])
            rw [hc] at this; cases this)⟩
          clear hc
          go_wp2
          go_ret
          exact ⟨ret_bool HE.out.symm, HB2.out⟩
      · obtain rfl : i = s.nodes.length := by omega
        have HE : Aside0 (sameS s t = true) := ⟨sameS_yes (scene_ext (nodes_ext HL.out HJ.out) HRo.out)⟩
        go_wp2
        go_ret
        exact ⟨ret_bool HE.out.symm, HW.out⟩
  · have HE : Aside0 (sameS s t = false) := ⟨sameS_no (fun e => hl (by rw [e]))⟩
    have dl : (s.nodes.length != t.nodes.length) = true := by simp [hl]
    have dl' : ((s.nodes.length : Int) != (t.nodes.length : Int)) = true := by simp; omega
    clear hl
    go_enter Tryz.func24, Tryz.ntmps24
    go_wp2
    go_ret
    exact ⟨ret_bool HE.out.symm, HB.out⟩
end Go.Proofs.YtggldnbhmebcpaaGreatDoor.L
end
section
namespace Go.Proofs.YtggldnbhmebcpaaGreatDoor.L
open Go.RowKit Go.ChangeShapes Go.WideShapes Go.Proofs.YtggldnbhmebcpaaGreatDoorW.PrintWords Go.Proofs.YtggldnbhmebcpaaGreatDoorW.PrintLast Go.Proofs.YtggldnbhmebcpaaGreatDoorW.PrintMore
attribute [local go_sem] max2_int min2_int max_two min_two max_three min_three max_four min_four
def edgesTo (ns : List Node) : Nat → Int
  | 0 => 0
  | i + 1 => IntKind.i64.wrap (edgesTo ns i + ((nd ns i).kids.length : Int))
def edgesW (ns : List Node) : Int := edgesTo ns ns.length
set_option maxRecDepth 100000 in
set_option maxHeartbeats 2000000 in
theorem edges_any (A : Option Addr) (c : Nat) (s : Scene) (w : World) (h : kNode.C w A s.nodes.length s.nodes) :
    Calls Tryz.prog 39 #[.agg #[.slice A s.nodes.length c, .int .i64 s.root]] w fun e w' => e = .returned (.int .i64 (edgesW s.nodes)) ∧ Below w.heap.size w w' := by
  have HR := Aside0.mk h
  have b0 := h.2.1
  have HB := Aside0.mk (below_alloc (Below.refl w.heap.size w) (.cells #[.slice A s.nodes.length c, .int .i64 s.root] 24))
  have k0 := box_cell w _ rfl #[.slice A s.nodes.length c, .int .i64 s.root] 24 0 _ rfl
  have hu := Tryz.underlying24
  have hun := Tryz.underlying42
  clear h
  go_enter Tryz.func39, Tryz.ntmps39
  go_wp2
  go_loopw [4, 3] (fun v4 v3 W => ∃ i : Nat, i ≤ s.nodes.length ∧ v4 = .int .i64 i ∧ v3 = .int .i64 (edgesTo s.nodes i) ∧ W = w.alloc (.cells #[.slice A s.nodes.length c, .int .i64 s.root] 24)) (fun v4 _ _ => s.nodes.length - (intOf v4).toNat)
  case atStart => exact ⟨0, by omega, rfl, rfl, by first | rfl | trivial⟩
  case round =>
    obtain ⟨i, hi, rfl, rfl, rfl⟩ := hrel
    by_cases hlt : i < s.nodes.length
    · obtain ⟨adn, A1, c1, A2, c2, A3, c3, rfl, x0, x1, x2, x3, hN⟩ := at_node HR.out i hlt
      replace x3 := pw_cell_below HB.out x3
      have HE := Aside0.mk (show edgesTo s.nodes (i + 1) = IntKind.i64.wrap (edgesTo s.nodes i + ((nd s.nodes i).kids.length : Int)) from rfl)
      clear hN x0 x1 x2
      generalize edgesTo s.nodes i = a at HE ⊢
      go_wp2
      go_roundw
      case rel => exact ⟨i + 1, by omega, by go_num, by rw [HE.out, i64_w], by first | rfl | trivial⟩
      case measure => simp [intOf]; omega
    · obtain rfl : i = s.nodes.length := by omega
      go_wp2
      go_ret
      exact ⟨rfl, HB.out⟩
end Go.Proofs.YtggldnbhmebcpaaGreatDoor.L
end
section
namespace Go.Proofs.YtggldnbhmebcpaaGreatDoor.L
open Go.RowKit Go.ChangeShapes Go.WideShapes Go.Proofs.YtggldnbhmebcpaaGreatDoorW.PrintWords Go.Proofs.YtggldnbhmebcpaaGreatDoorW.PrintLast Go.Proofs.YtggldnbhmebcpaaGreatDoorW.PrintMore
attribute [local go_sem] max2_int min2_int max_two min_two max_three min_three max_four min_four
def greatS (s : Scene) : Bool := decide (60 < s.nodes.length ∨ 300 < edgesW s.nodes ∨ ∃ j, j < s.nodes.length ∧ greatN (nd s.nodes j) = true)
set_option maxRecDepth 100000 in
set_option maxHeartbeats 2000000 in
theorem greatS_any (A : Option Addr) (c : Nat) (s : Scene) (w : World) (h : kNode.C w A s.nodes.length s.nodes) :
    Calls Tryz.prog 20 #[.agg #[.slice A s.nodes.length c, .int .i64 s.root]] w fun e w' => e = .returned (.bool (greatS s)) ∧ Below w.heap.size w w' := by
  have HR := Aside0.mk h
  have b0 := h.2.1
  have HB := Aside0.mk (below_alloc (Below.refl w.heap.size w) (.cells #[.slice A s.nodes.length c, .int .i64 s.root] 24))
  have k0 := box_cell w _ rfl #[.slice A s.nodes.length c, .int .i64 s.root] 24 0 _ rfl
  have k1 := box_cell w _ rfl #[.slice A s.nodes.length c, .int .i64 s.root] 24 1 _ rfl
  have hu := Tryz.underlying24
  have hun := Tryz.underlying42
  clear h
  by_cases h1 : 60 < s.nodes.length
  · have HE : Aside0 (greatS s = true) := ⟨decide_eq_true (.inl h1)⟩
    have d1 : decide (60 < (s.nodes.length : Int)) = true := decide_eq_true (by omega)
    clear h1
    go_enter Tryz.func20, Tryz.ntmps20
    go_wp2
    go_ret
    exact ⟨ret_bool HE.out.symm, HB.out⟩
  have H1 := Aside0.mk h1
  have d1 : decide (60 < (s.nodes.length : Int)) = false := decide_eq_false (by omega)
  clear h1
  go_enter Tryz.func20, Tryz.ntmps20
  go_wp2_with fail
  refine (edges_any A c s _ (Kd.C_below HR.out HB.out)).mono ?_
  rintro e w1 ⟨rfl, hB1⟩
  have HB1 := Aside0.mk (below_step HB.out hB1)
  replace k0 := pw_cell_below hB1 k0
  clear hB1 k1 d1
  by_cases h2 : 300 < edgesW s.nodes
  · have HE : Aside0 (greatS s = true) := ⟨decide_eq_true (.inr (.inl h2))⟩
    have d2 : decide (300 < edgesW s.nodes) = true := decide_eq_true h2
    clear h2
    go_wp2
    go_ret
    exact ⟨ret_bool HE.out.symm, HB1.out⟩
  have H2 := Aside0.mk h2
  have d2 : decide (300 < edgesW s.nodes) = false := decide_eq_false h2
  clear h2
  go_wp2
  clear d2
  go_loopw [3] (fun v3 W => ∃ i : Nat, i ≤ s.nodes.length ∧ v3 = .int .i64 i ∧ Aside0 (∀ j : Nat, j < i → ¬ greatN (nd s.nodes j) = true) ∧ Aside0 (Below w.heap.size w W ∧ W.cell? ⟨w.heap.size, 0, none⟩ = some (.slice A s.nodes.length c))) (fun v3 _ => s.nodes.length - (intOf v3).toNat)
  case atStart => exact ⟨0, by omega, rfl, ⟨fun j h => by omega⟩, ⟨HB1.out, k0⟩⟩
  case round =>
    clear k0
    obtain ⟨i, hi, rfl, HJ, HW⟩ := hrel
    have k0 := HW.out.2
    by_cases hlt : i < s.nodes.length
    · obtain ⟨adn, A1, c1, A2, c2, A3, c3, rfl, x0, x1, x2, x3, hN⟩ := at_node HR.out i hlt
      replace x0 := pw_cell_below HW.out.1 x0
      replace x1 := pw_cell_below HW.out.1 x1
      replace x2 := pw_cell_below HW.out.1 x2
      replace x3 := pw_cell_below HW.out.1 x3
      have HN := Aside0.mk hN
      clear hN
      go_wp2_with fail
      refine (great_any (nd s.nodes i) A1 c1 A2 c2 A3 c3 _ (HN.out.below HW.out.1)).mono ?_
      rintro e w2 ⟨rfl, hB2⟩
      have HB2 := Aside0.mk (And.intro (below_step HW.out.1 hB2) (pw_cell_below hB2 k0))
      clear hB2 k0 x0 x1 x2 x3
      cases hg : greatN (nd s.nodes i) with
      | true =>
        have HE : Aside0 (greatS s = true) := ⟨decide_eq_true (.inr (.inr ⟨i, hlt, hg⟩))⟩
        clear hg
        go_wp2
        go_ret
        exact ⟨ret_bool HE.out.symm, HB2.out.1⟩
      | false =>
        have HJ2 := Aside0.mk (ext_lt HJ.out (show ¬ greatN (nd s.nodes i) = true by rw [hg]; simp))
        clear hg
        go_wp2
        go_roundw
        case rel => exact ⟨i + 1, by omega, by go_num, HJ2, HB2⟩
        case measure => simp [intOf]; omega
    · obtain rfl : i = s.nodes.length := by omega
      have HE : Aside0 (greatS s = false) := ⟨decide_eq_false (fun h => by
        rcases h with h | h | ⟨j, hj, h⟩
        · exact H1.out h
        · have := H2.out; omega
        · exact HJ.out j hj h)⟩
      go_wp2
      go_ret
      exact ⟨ret_bool HE.out.symm, HW.out.1⟩
end Go.Proofs.YtggldnbhmebcpaaGreatDoor.L
end
section
namespace Go.Proofs.YtggldnbhmebcpaaGreatDoor.L
open Go.RowKit Go.ChangeShapes Go.WideShapes Go.Proofs.YtggldnbhmebcpaaGreatDoorW.PrintWords Go.Proofs.YtggldnbhmebcpaaGreatDoorW.PrintLast Go.Proofs.YtggldnbhmebcpaaGreatDoorW.PrintMore
attribute [local go_sem] max2_int min2_int max_two min_two max_three min_three max_four min_four
theorem sum_map_le {f : Nat → Nat} {b : Nat} : ∀ l : List Nat, (∀ x ∈ l, f x ≤ b) → (l.map f).sum ≤ l.length * b
  | [], _ => by simp
  | x :: l, h => by
    have h1 := sum_map_le l (fun y hy => h y (by simp [hy]))
    have h2 := h x (by simp)
    rw [List.map_cons, List.sum_cons, List.length_cons, Nat.succ_mul]
    omega
theorem rows_leB {ns : List Node} {b : Nat} (h : ∀ i : Nat, i < ns.length → (nd ns i).kids.length ≤ b) : rows ns ≤ ns.length * (b + 1) := by
  unfold rows
  have := sum_map_le (f := wt ns) (b := b + 1) (List.range ns.length) (fun x hx => by
    have := h x (List.mem_range.1 hx)
    unfold wt; omega)
  rwa [List.length_range] at this
end Go.Proofs.YtggldnbhmebcpaaGreatDoor.L
end
section
namespace Go.Proofs.YtggldnbhmebcpaaGreatDoor.L
open Go.RowKit Go.ChangeShapes Go.WideShapes Go.Proofs.YtggldnbhmebcpaaGreatDoorW.PrintWords Go.Proofs.YtggldnbhmebcpaaGreatDoorW.PrintLast Go.Proofs.YtggldnbhmebcpaaGreatDoorW.PrintMore
attribute [local go_sem] max2_int min2_int max_two min_two max_three min_three max_four min_four
theorem scK {w : World} {A : Option Addr} {c : Nat} {s : Scene} (h : kNode.C w A s.nodes.length s.nodes) (hc : s.nodes.length ≤ c) : kScene.K w s [.slice A s.nodes.length c, .int .i64 s.root] := ⟨_, _, rfl, ⟨A, c, rfl, hc, h⟩, rfl⟩
theorem sc_row2 (w : World) (g : Nat) (hg : w.heap.size = g) {a b : Scene} {x0 x1 y0 y1 : Value} (ha : kScene.K w a [x0, x1]) (hb : kScene.K w b [y0, y1]) : kScene.C (w.alloc (.cells #[x0, x1, y0, y1] 24)) (some ⟨g, 0, none⟩) 2 [a, b] := by
  subst hg
  exact C_lits kScene _ 24 _ rfl [a, b] _ ⟨_, _, (show _ = [_, _] ++ [_, _] from rfl), ha, _, _, (show _ = [_, _] ++ [] from rfl), hb, rfl⟩ (by simp) rfl
theorem at_ints {w : World} {A : Option Addr} {n : Nat} {xs : List (List Int)} (h : kInts.C w A n xs) (i : Nat) (h1 : i < n) :
    ∃ ad B d, A = some ad ∧ w.cell? (ad.add i) = some (.slice B (xs.getD i []).length d) ∧ (xs.getD i []).length ≤ d ∧ (Kd.int .i64).C w B (xs.getD i []).length (xs.getD i []) := by
  obtain ⟨ad, c, e, _, hK, hc0⟩ := Kd.C_get h [] (i : Int) (by omega) (by omega)
  have hK : kInts.K w (xs.getD i []) c := by simpa using hK
  obtain ⟨B, d, rfl, hl, hC⟩ := hK
  refine ⟨ad, B, d, e, ?_, hl, hC⟩
  have := hc0 0 _ rfl
  simpa [show kInts.sz = 1 from rfl] using this
theorem add_zero (ad : Addr) : ad.add (0 : Nat) = ad := by cases ad; simp [Addr.add]
end Go.Proofs.YtggldnbhmebcpaaGreatDoor.L
end
section
namespace Go.Proofs.YtggldnbhmebcpaaGreatDoor.L
open Go.RowKit Go.ChangeShapes Go.WideShapes Go.Proofs.YtggldnbhmebcpaaGreatDoorW.PrintWords Go.Proofs.YtggldnbhmebcpaaGreatDoorW.PrintLast Go.Proofs.YtggldnbhmebcpaaGreatDoorW.PrintMore
attribute [local go_sem] max2_int min2_int max_two min_two max_three min_three max_four min_four
theorem two_nums (T : Lib.PrintTabs) {a b : Scene} (ha : isC a = true) (hb : isC b = true) (hna : a.nodes.length ≤ 400000) (hnb : b.nodes.length ≤ 400000) :
  ∃ o1 o2 : List Int, (allS T [a, b]).2 = [o1, o2] ∧ o1.length = a.nodes.length ∧ o2.length = b.nodes.length ∧ matP (PN o1 o2) (QK a.nodes b.nodes) a.nodes.length b.nodes.length = matS a.nodes b.nodes ∧ (∀ x ∈ o1, I64 x) ∧ ∀ x ∈ o2, I64 x := by
 have ga : AheadN a.nodes := fun p hp k hk => isC_ahead (isC_right ha) ha hp hk
 have gb : AheadN b.nodes := fun p hp k hk => isC_ahead (isC_right hb) hb hp hk
 have hA : ∀ s ∈ [a, b], AheadN s.nodes := fun s hs => by
  rcases List.mem_cons.1 hs with rfl | hs
  ·exact ga
  ·rw [List.mem_singleton.1 hs]; exact gb
 have n1 := all_numd (T := T) hA (i := 0) (by simp)
 have n2 := all_numd (T := T) hA (i := 1) (by simp)
 have l1 := own_vs_len T [] a.nodes.length a.nodes rfl
 have l2 := own_vs_len T (ownS T [] a.nodes).1 b.nodes.length b.nodes rfl
 simp only [List.length_nil] at l1
 refine ⟨(ownS T [] a.nodes).2, (ownS T (ownS T [] a.nodes).1 b.nodes).2, rfl, own_len T _ _ _ rfl, own_len T _ _ _ rfl, mat_num ga gb n1 n2, fun x hx => ?_, fun x hx => ?_⟩
 ·have := own_vals T [] a.nodes x hx
  exact ⟨by omega, by omega⟩
 ·have := own_vals T (ownS T [] a.nodes).1 b.nodes x hx
  exact ⟨by omega, by omega⟩
theorem at_i {w : World} {A : Option Addr} {n : Nat} {xs : List Int} (h : (Kd.int .i64).C w A n xs) (i : Nat) (h1 : i < n) : ∃ ad, A = some ad ∧ w.cell? (ad.add i) = some (.int .i64 (rd xs (i : Int))) := by
 obtain ⟨ad, c, e, _, hK, hc0⟩ := Kd.C_get h 0 (i : Int) (by omega) (by omega)
 have hK : c = [.int .i64 (rd xs (i : Int))] := by
  rw [Int.toNat_natCast] at hK
  exact hK
 subst hK
 refine ⟨ad, e, ?_⟩
 have := hc0 0 _ rfl
 simpa [show (Kd.int .i64).sz = 1 from rfl] using this
structure MatS (w5 : World) (N mb tb cn : Nat) (full : List UInt8 → List Int) (tk out : List Int) (v : Value) (W : World) : Prop where
 free : ∃ nn f cut, nn ≤ cn ∧ FreeM w5 W N mb nn f full cut ∧ ∀ p, ∀ x ∈ (full p).take (cut p), x ∈ tk
 taken : ∃ m, m ≤ cn ∧ MapF Tryz.prog 3 W tb m (visF tk)
 out : (Kd.int .i64).R 3 W w5.heap.size (fun k => N ≤ k) v out
 tbN : N ≤ tb
 ne : mb ≠ tb
 ge : w5.heap.size ≤ N
section
variable {w5 W W1 : World} {N mb tb cn : Nat} {full : List UInt8 → List Int} {tk out : List Int} {v : Value}
theorem MatS.below (h : MatS w5 N mb tb cn full tk out v W) : Below w5.heap.size w5 W := by
 obtain ⟨nn, f, cut, h1, h2, h3⟩ := h.free
 exact h2.below
theorem MatS.later (h : MatS w5 N mb tb cn full tk out v W) (hb : Below W.heap.size W W1) : MatS w5 N mb tb cn full tk out v W1 :=
 ⟨by obtain ⟨nn, f, cut, h1, h2, h3⟩ := h.free; exact ⟨nn, f, cut, h1, h2.later hb, h3⟩, by obtain ⟨m, h1, h2⟩ := h.taken; exact ⟨m, h1, h2.below hb⟩, Kd.R_below h.out hb, h.tbN, h.ne, h.ge⟩
theorem MatS.put {g n c i : Nat} (h : MatS w5 N mb tb cn full tk out (.slice (some ⟨g, 0, none⟩) n c) W) (hi : i < n) (x : Int) : MatS w5 N mb tb cn full tk (out.set i x) (.slice (some ⟨g, 0, none⟩) n c) (W.setCell ⟨g, i, none⟩ (.int .i64 x)) := by
 obtain ⟨r1, -, r3⟩ := ints_store h.out i hi x
 have hg : N ≤ g := h.out.1 g rfl
 obtain ⟨cells, hcl⟩ := Kd.R_typed h.out g rfl
 refine ⟨?_, ?_, r1, h.tbN, h.ne, h.ge⟩
 ·obtain ⟨nn, f, cut, h1, h2, h3⟩ := h.free
  exact ⟨nn, f, cut, h1, h2.far hg r3 (fun e => by subst e; exact h2.map.not_cells hcl) _, h3⟩
 ·obtain ⟨m, h1, h2⟩ := h.taken
  exact ⟨m, h1, h2.setCell (fun e => by have e : tb = g := e; subst e; exact h2.not_cells hcl) _⟩
theorem MatS.more {cn' : Nat} (h : MatS w5 N mb tb cn full tk out v W) (hl : cn ≤ cn') : MatS w5 N mb tb cn' full tk out v W :=
 ⟨by obtain ⟨nn, f, cut, h1, h2, h3⟩ := h.free; exact ⟨nn, f, cut, by omega, h2, h3⟩, by obtain ⟨m, h1, h2⟩ := h.taken; exact ⟨m, by omega, h2⟩, h.out, h.tbN, h.ne, h.ge⟩
theorem mtake_any (h : MatS w5 N mb tb cn full tk out v W) (q : List UInt8) (hin : ∀ x ∈ full q, 0 ≤ x ∧ x ≤ 1000000) (hl : (full q).length ≤ 1000000) (hq : q.length ≤ maxLen) (hn : cn < maxLen) :
  Calls Tryz.prog 54 #[.map (some mb), .string ⟨q.toArray⟩, .map (some tb)] W (fun e W' => e = .returned (.int .i64 (firstL (full q) tk)) ∧ MatS w5 N mb tb (cn + 1) full (if 0 ≤ firstL (full q) tk then firstL (full q) tk :: tk else tk) out v W' ∧
   ∀ (g : Nat) (cs : Array Value) (t : TypeId) (fr : Nat × Nat), W.heap[g]? = some (.cells cs t fr) → W'.heap[g]? = some (.cells cs t fr)) := by
 obtain ⟨nn, f, cut, h1, h2, h3⟩ := h.free
 obtain ⟨m, g1, g2⟩ := h.taken
 refine (ftake_any h2 g2 h.ne (Nat.le_trans h.ge h.tbN) h3 q hin hl hq (by omega) (by omega)).mono ?_
 rintro e W' ⟨rfl, n', m', f', cut', a1, a2, a3, a4, a5, a6, a7⟩
 exact ⟨rfl, ⟨⟨n', f', cut', by omega, a3, a5⟩, ⟨m', by omega, a4⟩, a6 _ _ _ _ _ _ h.out, h.tbN, h.ne, h.ge⟩, a7⟩
end
theorem grow_below {W w1 : World} (hg : W.grownBy w1 none) : Below W.heap.size W w1 := ⟨hg.os, hg.tape, hg.output, hg.size, fun i hi => hg.block i hi (by simp)⟩
def nils (n : Nat) : List Int := List.replicate n 0
theorem nils_set {o : List Int} {i m : Nat} (ho : o.length = i) (hi : i < m) (x : Int) : (o ++ nils (m - i)).set i x = (o ++ [x]) ++ nils (m - (i + 1)) := by
 rw [List.set_append_right _ _ (by omega), ho, Nat.sub_self, show m - i = (m - (i + 1)) + 1 from by omega]
 show o ++ (List.replicate (m - (i + 1) + 1) 0).set 0 x = _
 rw [List.replicate_succ, List.set_cons_zero, List.append_assoc]; rfl
def MatchPost (a t : Scene) (w : World) (e : Ending) (w' : World) : Prop :=
 (isC a = true ∧ isC t = true ∧ ∃ A c, e = .returned (.tuple #[.slice A t.nodes.length c, .int .i64 0]) ∧ (Kd.int .i64).R 3 w' w.heap.size (fun _ => True) (.slice A t.nodes.length c) (matS a.nodes t.nodes) ∧ Below w.heap.size w w') ∨
 ((isC a && isC t) = false ∧ e = .returned (.tuple #[.slice none 0 0, .int .i64 16]) ∧ Below w.heap.size w w')
set_option maxRecDepth 100000 in
set_option maxHeartbeats 8000000 in
theorem match_any (T : Lib.PrintTabs) (A : Option Addr) (c : Nat) (a : Scene) (B : Option Addr) (d : Nat) (t : Scene) (w : World) (h : kNode.C w A a.nodes.length a.nodes) (hc : a.nodes.length ≤ c) (h' : kNode.C w B t.nodes.length t.nodes) (hd : t.nodes.length ≤ d)
  (hBa : ScBd a) (hBt : ScBd t) (hT : QTabs T w) :
  Calls Tryz.prog 27 #[.agg #[.slice A a.nodes.length c, .int .i64 a.root], .agg #[.slice B t.nodes.length d, .int .i64 t.root]] w (MatchPost a t w) := by
 have HR := Aside0.mk h
 have HR' := Aside0.mk h'
 have HT := Aside0.mk hT
 have HBa := Aside0.mk hBa
 have HBt := Aside0.mk hBt
 have hna : a.nodes.length ≤ 400000 := Nat.le_trans (len_rows _) hBa.2
 have hnt : t.nodes.length ≤ 400000 := Nat.le_trans (len_rows _) hBt.2
 have hA0 := below_alloc (Below.refl w.heap.size w) (.cells #[.slice A a.nodes.length c, .int .i64 a.root] 24)
 have hA1 := below_alloc (Below.refl (w.alloc (.cells #[.slice A a.nodes.length c, .int .i64 a.root] 24)).heap.size (w.alloc (.cells #[.slice A a.nodes.length c, .int .i64 a.root] 24))) (.cells #[.slice B t.nodes.length d, .int .i64 t.root] 24)
 have HB := Aside0.mk (below_step hA0 hA1)
 have k0 := pw_cell_below hA1 (box_cell w _ rfl #[.slice A a.nodes.length c, .int .i64 a.root] 24 0 (.slice A a.nodes.length c) rfl)
 have k1 := pw_cell_below hA1 (box_cell w _ rfl #[.slice A a.nodes.length c, .int .i64 a.root] 24 1 (.int .i64 a.root) rfl)
 have q0 := box_cell (w.alloc (.cells #[.slice A a.nodes.length c, .int .i64 a.root] 24)) (w.heap.size + 1) (by simp) #[.slice B t.nodes.length d, .int .i64 t.root] 24 0 (.slice B t.nodes.length d) rfl
 have q1 := box_cell (w.alloc (.cells #[.slice A a.nodes.length c, .int .i64 a.root] 24)) (w.heap.size + 1) (by simp) #[.slice B t.nodes.length d, .int .i64 t.root] 24 1 (.int .i64 t.root) rfl
 have hu := Tryz.underlying24
 have hun := Tryz.underlying42
 have hmm := @run_makeMap Tryz.prog
 have HZ := Aside0.mk (show ((w.alloc (.cells #[.slice A a.nodes.length c, .int .i64 a.root] 24)).alloc (.cells #[.slice B t.nodes.length d, .int .i64 t.root] 24)).heap.size = w.heap.size + 1 + 1 from by simp)
 clear h h' hT hA0 hA1 hBa hBt
 go_enter Tryz.func27, Tryz.ntmps27
 go_wp2_with fail
 generalize (w.alloc (.cells #[.slice A a.nodes.length c, .int .i64 a.root] 24)).alloc (.cells #[.slice B t.nodes.length d, .int .i64 t.root] 24) = w4 at HB HZ k0 k1 q0 q1 ⊢
 have HKa := Aside0.mk (fun (W : World) (hW : Below w.heap.size w W) => scK (Kd.C_below HR.out hW) hc)
 have HKb := Aside0.mk (fun (W : World) (hW : Below w.heap.size w W) => scK (Kd.C_below HR'.out hW) hd)
 have hA5 := below_alloc (Below.refl w4.heap.size w4) (.cells #[.slice A a.nodes.length c, .int .i64 a.root, .slice B t.nodes.length d, .int .i64 t.root] 24)
 refine (numbers_any T _ 2 [a, t] _ (sc_row2 w4 _ HZ.out (HKa.out w4 HB.out) (HKb.out w4 HB.out)) (fun i hi => by
  have hi : i < 2 := hi
  match i, hi with
  | 0, _ => exact HBa.out
  | 1, _ => exact HBt.out) (by simp) (HT.out.below (below_step HB.out hA5))).mono ?_
 rintro e w5 ⟨hB5, (⟨hall, v, rfl, hR5⟩ | ⟨⟨i, hi, hbad⟩, rfl⟩)⟩
 ·have hia : isC a = true := hall 0 (by simp)
  have hit : isC t = true := hall 1 (by simp)
  have HIs := Aside0.mk (And.intro hia hit)
  obtain ⟨o1, o2, he2, hl1, hl2, hmp, hw1, hw2⟩ := two_nums T hia hit hna hnt
  rw [he2] at hR5
  obtain ⟨A5, c5, hv5⟩ := Kd.R_slice hR5
  subst hv5
  have hB5 := below_step hA5 hB5
  replace k0 := pw_cell_below hB5 k0
  replace q0 := pw_cell_below hB5 q0
  have HB5 := Aside0.mk (below_step HB.out hB5)
  have HB45 := Aside0.mk hB5
  have HL5 := Aside0.mk (Kd.R_reads' hR5).2.2
  have HMp := Aside0.mk hmp
  have HW1 := Aside0.mk hw1
  have HW2 := Aside0.mk hw2
  clear hR5 hB5 hA5 HB hall hia hit he2 hmp hw1 hw2 k1 q1
  obtain ⟨al, B0, d0, rfl, x0, -, hC0⟩ := at_ints HL5.out 0 (by simp)
  obtain ⟨al', B2, d2, el, x2, -, hC2⟩ := at_ints HL5.out 1 (by simp)
  injection el with el
  subst el
  have HC0 := Aside0.mk (show (Kd.int .i64).C w5 B0 o1.length o1 from hC0)
  have HC2 := Aside0.mk (show (Kd.int .i64).C w5 B2 o2.length o2 from hC2)
  have x0 : w5.cell? al = some (.slice B0 o1.length d0) := by
   rw [add_zero al] at x0
   exact x0
  have x2 : w5.cell? (al.add (1 : Nat)) = some (.slice B2 o2.length d2) := x2
  replace x2 : w5.cell? ⟨al.block, al.off + 1, none⟩ = some (.slice B2 o2.length d2) := x2
  clear hC0 hC2 HL5
  rw [hl1] at x0 HC0
  rw [hl2] at x2 HC2
  have HRM0 := Aside0.mk (RowsM.start w5 (fun _ => []))
  have hz := HZ.out
  have hz5 := HB45.out.size
  have b0 : w.heap.size < w5.heap.size := by omega
  have b1 : w.heap.size + 1 < w5.heap.size := by omega
  clear hz hz5 HB45
  go_wp2
  clear k0
  generalize hmb : w5.heap.size = mb at b0 b1 HRM0 ⊢
  generalize w5.alloc (.map #[] 0) = W0 at HRM0 ⊢
  have HX := Aside0.mk (And.intro x0 (And.intro x2 q0))
  clear x0 x2 q0
  go_loopw [30] (fun v30 W => ∃ i : Nat, i ≤ a.nodes.length ∧ v30 = .int .i64 i ∧ Aside0 (∃ f tg, RowsM w5 W mb (2 * i) f tg (openR o1 a.nodes i))) (fun v30 _ => a.nodes.length - (intOf v30).toNat)
  case atStart => exact ⟨0, by omega, rfl, ⟨_, _, HRM0.out⟩⟩
  case round =>
   clear HRM0
   obtain ⟨i, hi, rfl, HO⟩ := hrel
   obtain ⟨f, tg, hM⟩ := HO.out
   have HM := Aside0.mk hM
   clear HO hM
   by_cases hlt : i < a.nodes.length
   ·obtain ⟨an, A1, c1, A2, c2, A3, c3, rfl, y0, y1, y2, y3, hN⟩ := at_node HR.out i hlt
    have HW := Aside0.mk (below_step HB5.out HM.out.below)
    replace y0 := pw_cell_below HW.out y0
    replace y1 := pw_cell_below HW.out y1
    replace y2 := pw_cell_below HW.out y2
    replace y3 := pw_cell_below HW.out y3
    have HN := Aside0.mk hN
    have HNb := Aside0.mk (HBa.out.1 i hlt)
    have HNx := Aside0.mk (show openR o1 a.nodes (i + 1) = updR (updR (openR o1 a.nodes i) (Lib.itoa (rd o1 (i : Int))) (i : Int)) (kindW (nd a.nodes i)) (i : Int) from rfl)
    have HLn := Aside0.mk (fun q => openR_len (nums := o1) (ns := a.nodes) (q := q) (m := i))
    have x0 := pw_cell_below HM.out.below HX.out.1
    obtain ⟨bd, rfl, n0⟩ := at_i HC0.out i hlt
    have n0 := pw_cell_below HM.out.below n0
    have HI6 := Aside0.mk (HW1.out (rd o1 (i : Int)) (rd_mem (by omega)))
    have HTw := Aside0.mk (HT.out.below HW.out)
    generalize openR o1 a.nodes i = rows at HM HNx HLn
    generalize hnn : nd a.nodes i = n at y0 y1 y2 y3 HN HNb HNx
    generalize hzz : rd o1 (i : Int) = z at n0 HI6 HNx
    clear hnn hzz hN
    have e0 := World.block_lt_of_cell? wr _ x0
    have e1 := World.block_lt_of_cell? wr _ n0
    have hna1 : 2 * i < maxLen := by unfold maxLen; omega
    have hna2 : 2 * i + 1 < maxLen := by unfold maxLen; omega
    have HNa := Aside0.mk (And.intro hna1 (And.intro hna2 hna))
    clear hna1 hna2
    go_wp2_with fail
    have HBx := Aside0.mk (blk_new wr (.cells #[.int .i64 n.kind, .slice A1 n.ints.length c1, .slice A2 n.texts.length c2, .slice A3 n.kids.length c3] 42))
    have HM1 := Aside0.mk (HM.out.later (below_alloc (Below.refl _ _) (.cells #[.int .i64 n.kind, .slice A1 n.ints.length c1, .slice A2 n.texts.length c2, .slice A3 n.kids.length c3] 42)))
    have HT1 := Aside0.mk (HTw.out.below (below_alloc (Below.refl _ _) (.cells #[.int .i64 n.kind, .slice A1 n.ints.length c1, .slice A2 n.texts.length c2, .slice A3 n.kids.length c3] 42)))
    clear y0 y1 y2 y3 x0 n0 e0 e1 HM HTw
    generalize wr.alloc (.cells #[.int .i64 n.kind, .slice A1 n.ints.length c1, .slice A2 n.texts.length c2, .slice A3 n.kids.length c3] 42) = w7 at HBx HM1 HT1 ⊢
    generalize wr.heap.size = gb at HBx ⊢
    refine (itoa_any T z w7 HI6.out HT1.out).mono ?_
    rintro e w8 ⟨rfl, hB8⟩
    have HBx8 := Aside0.mk (blk_below HBx.out hB8)
    have HM8 := Aside0.mk (HM1.out.later hB8)
    clear hB8 HM1 HBx
    go_wp2_with fail
    refine (fadd_any HM8.out (Lib.itoa z) (i : Int) (by have := itoa_len HI6.out; unfold maxLen; omega) HNa.out.1 (by have := HLn.out (Lib.itoa z); have := HNa.out.2.2; omega)).mono ?_
    rintro e w9 ⟨rfl, f', tg', hM9, hK9⟩
    have HM9 := Aside0.mk hM9
    have hbx9 := hK9 _ _ _ (by decide) HBx8.out
    have HBx9 := Aside0.mk hbx9
    have HT9 := Aside0.mk (HT.out.below (below_step HB5.out hM9.below))
    have v0 : w9.cell? ⟨gb, 0, none⟩ = some (.int .i64 n.kind) := (blk_cell hbx9 0).trans rfl
    have v1 : w9.cell? ⟨gb, 1, none⟩ = some (.slice A1 n.ints.length c1) := (blk_cell hbx9 1).trans rfl
    have v2 : w9.cell? ⟨gb, 2, none⟩ = some (.slice A2 n.texts.length c2) := (blk_cell hbx9 2).trans rfl
    have v3 : w9.cell? ⟨gb, 3, none⟩ = some (.slice A3 n.kids.length c3) := (blk_cell hbx9 3).trans rfl
    clear hM9 hK9 hbx9 HM8 HBx8
    go_wp2_with fail
    refine (mkind_any T n A1 c1 A2 c2 A3 c3 w9 HNb.out.1 HNb.out.2.2.kind HT9.out).mono ?_
    rintro e w10 ⟨rfl, hB10⟩
    have HM10 := Aside0.mk (HM9.out.later hB10)
    clear hB10 HM9 v0 v1 v2 v3
    go_wp2_with fail
    refine (fadd_any HM10.out (kindW n) (i : Int) (kindW_len HNb.out.1 HNb.out.2.2.kind) HNa.out.2.1 (by
     have h1 := HLn.out (kindW n)
     have h2 := HNa.out.2.2
     unfold updR
     split
     ·rename_i h3
      rw [List.length_append, List.length_singleton, ← h3]; omega
     ·omega)).mono ?_
    rintro e w11 ⟨rfl, f2, tg2, hM11, -⟩
    rw [← HNx.out] at hM11
    have HM11 := Aside0.mk hM11
    clear hM11 HM10
    go_wp2
    go_roundw
    case rel => exact ⟨i + 1, by omega, by go_num, ⟨_, _, HM11.out⟩⟩
    case measure => simp [intOf]; omega
   ·obtain rfl : i = a.nodes.length := by omega
    have q0 := pw_cell_below HM.out.below HX.out.2.2
    have hz := HM.out.below.size
    have c1 : w.heap.size + 1 < wr.heap.size := by omega
    have hnt' : (t.nodes.length : Int) ≤ 9223372036854775807 := by omega
    obtain ⟨N, hN⟩ : ∃ N, N = wr.heap.size := ⟨_, rfl⟩
    have HF := Aside0.mk (show MatS w5 N mb wr.heap.size (2 * a.nodes.length) (openR o1 a.nodes a.nodes.length) [] [] (.slice none 0 0) (wr.alloc (.map #[] 0)) from
     ⟨⟨_, _, _, Nat.le_refl _, hN ▸ (HM.out.free.later (below_alloc (Below.refl _ _) _)), fun p x hx => by rw [List.take_zero] at hx; cases hx⟩, ⟨0, Nat.zero_le _, by rw [visF_nil]; exact MapF.made _ _ _⟩, Kd.R_nil _ _ _ _ _, by omega, fun e => by have := HM.out.map.lt; omega, by omega⟩)
    have HBw := Aside0.mk (below_alloc HM.out.below (.map #[] 0))
    go_wp2_with (refine Kd.R_make (Kd.int .i64) (w0 := w5) w5.heap.size 3 rfl (N := 55) rfl 40 _ _ rfl (t.nodes.length : Int) rfl rfl Tryz.underlying40 (.int .i64 0) 8 info_int rfl (by decide) (by omega) 0 (ok := fun k => N ≤ k) (okp := fun _ => False) rfl (fun _ hk => hk.elim) (by show N ≤ _; simp; omega) (by omega) (by omega) HBw.out HBw.out.size ?_; intro v2 w2 ho2 hb2 hg2 hn2; rw [Int.toNat_natCast] at ho2; have q0 := pw_cell_below (grow_below hg2) (pw_cell_below (below_alloc (Below.refl _ _) (.map #[] 0)) q0); have HS2 := Aside0.mk (show MatS w5 N mb wr.heap.size (2 * a.nodes.length) (openR o1 a.nodes a.nodes.length) [] (nils t.nodes.length) v2 w2 from ⟨(HF.out.later (grow_below hg2)).free, (HF.out.later (grow_below hg2)).taken, ho2, HF.out.tbN, HF.out.ne, HF.out.ge⟩); clear ho2 hb2 hg2 hn2)
    clear q0 hmm c1 hz HF HBw
    obtain ⟨Ao, co, hv⟩ := Kd.R_slice HS2.out.out
    rw [show (nils t.nodes.length).length = t.nodes.length from by simp [nils]] at hv
    subst hv
    clear hN
    generalize wr.heap.size = tb at HS2 ⊢
    clear HM
    have HFu := Aside0.mk (fun q => And.intro (fun (x : Int) (hx : x ∈ openR o1 a.nodes a.nodes.length q) => (show 0 ≤ x ∧ x ≤ 1000000 from by have := openR_mem (nums := o1) (ns := a.nodes) (q := q) (m := a.nodes.length) x hx; omega)) (show (openR o1 a.nodes a.nodes.length q).length ≤ 1000000 from by have := openR_len (nums := o1) (ns := a.nodes) (q := q) (m := a.nodes.length); omega))
    go_loopw [59] (fun v59 W => ∃ (i : Nat) (tk : List Int), i ≤ t.nodes.length ∧ v59 = .int .i64 i ∧ Aside0 (MatS w5 N mb tb (2 * a.nodes.length + i) (openR o1 a.nodes a.nodes.length) tk (rndA (PN o1 o2) a.nodes.length i ++ nils (t.nodes.length - i)) (.slice Ao t.nodes.length co) W) ∧ Aside0 (∀ k : Nat, k < a.nodes.length → ((k : Int) ∈ tk ↔ (k : Int) ∈ rndA (PN o1 o2) a.nodes.length i))) (fun v59 _ => t.nodes.length - (intOf v59).toNat)
    case atStart => exact ⟨0, [], by omega, rfl, ⟨HS2.out⟩, ⟨fun k _ => Iff.rfl⟩⟩
    case round =>
     clear HS2
     obtain ⟨i, tk, hi, rfl, HS, HTk⟩ := hrel
     by_cases hlt : i < t.nodes.length
     ·obtain ⟨g, hgA⟩ : ∃ g, Ao = some ⟨g, 0, none⟩ := by
       obtain ⟨g, cap, e, -⟩ := Kd.R_form HS.out.out (by rw [List.length_append, A_len]; simp [nils]; omega)
       injection e with e1
       exact ⟨g, e1⟩
      subst hgA
      have x2 := pw_cell_below HS.out.below HX.out.2.1
      obtain ⟨bd, rfl, n0⟩ := at_i HC2.out i hlt
      have n0 := pw_cell_below HS.out.below n0
      have HI6 := Aside0.mk (HW2.out (rd o2 (i : Int)) (rd_mem (by omega)))
      have HTw := Aside0.mk (HT.out.below (below_step HB5.out HS.out.below))
      have HRa := Aside0.mk (roundA (ns := a.nodes) HTk.out)
      generalize hzz : rd o2 (i : Int) = z at n0 HI6 HRa
      clear hzz
      go_wp2_with fail
      clear x2 n0
      refine (itoa_any T z wr HI6.out HTw.out).mono ?_
      rintro e w8 ⟨rfl, hB8⟩
      have HS8 := Aside0.mk (HS.out.later hB8)
      clear hB8 HTw HS
      go_wp2_with fail
      refine (mtake_any HS8.out (Lib.itoa z) (HFu.out (Lib.itoa z)).1 (HFu.out (Lib.itoa z)).2 (by have := itoa_len HI6.out; unfold maxLen; omega) (by unfold maxLen; omega)).mono ?_
      rintro e w9 ⟨rfl, hS9, -⟩
      rw [HRa.out] at hS9 ⊢
      have HS10 := Aside0.mk (hS9.put (i := i) hlt (firstF (PN o1 o2 i) (rndA (PN o1 o2) a.nodes.length i) a.nodes.length))
      have hc9 := ints_cell hS9.out i hlt
      have c9 := hc9.1
      have f9 := hc9.2
      rw [nils_set (A_len i) hlt] at HS10
      have HTk2 := Aside0.mk (fun (k : Nat) (hk : k < a.nodes.length) => taken_app (x := firstF (PN o1 o2 i) (rndA (PN o1 o2) a.nodes.length i) a.nodes.length) (HTk.out k hk))
      clear hc9 hS9 HS8
      go_wp2
      go_roundw
      case rel => exact ⟨i + 1, _, by omega, by go_num, ⟨HS10.out⟩, ⟨HTk2.out⟩⟩
      case measure => simp [intOf]; omega
     ·obtain rfl : i = t.nodes.length := by omega
      have HS : Aside0 (MatS w5 N mb tb (2 * a.nodes.length + t.nodes.length) (openR o1 a.nodes a.nodes.length) tk (rndB (QK a.nodes t.nodes) a.nodes.length (rndA (PN o1 o2) a.nodes.length t.nodes.length) 0) (.slice Ao t.nodes.length co) wr) := ⟨by
       have h := HS.out
       rw [Nat.sub_self] at h
       rw [show rndA (PN o1 o2) a.nodes.length t.nodes.length ++ nils 0 = rndA (PN o1 o2) a.nodes.length t.nodes.length from List.append_nil _] at h
       exact h⟩
      have HTk : Aside0 (∀ k : Nat, k < a.nodes.length → ((k : Int) ∈ tk ↔ (k : Int) ∈ rndB (QK a.nodes t.nodes) a.nodes.length (rndA (PN o1 o2) a.nodes.length t.nodes.length) 0)) := HTk
      have hoA : (rndA (PN o1 o2) a.nodes.length t.nodes.length).length = t.nodes.length := A_len _
      have HMp2 : Aside0 (rndB (QK a.nodes t.nodes) a.nodes.length (rndA (PN o1 o2) a.nodes.length t.nodes.length) t.nodes.length = matS a.nodes t.nodes) := ⟨HMp.out⟩
      generalize rndA (PN o1 o2) a.nodes.length t.nodes.length = oA at HS HTk hoA HMp2
      have HOa := Aside0.mk hoA
      clear hoA
      have q0 := pw_cell_below HS.out.below HX.out.2.2
      go_wp2
      clear q0
      go_loopw [79] (fun v79 W => ∃ (i : Nat) (tk : List Int), i ≤ t.nodes.length ∧ v79 = .int .i64 i ∧ Aside0 (MatS w5 N mb tb (2 * a.nodes.length + t.nodes.length + i) (openR o1 a.nodes a.nodes.length) tk (rndB (QK a.nodes t.nodes) a.nodes.length oA i) (.slice Ao t.nodes.length co) W) ∧ Aside0 (∀ k : Nat, k < a.nodes.length → ((k : Int) ∈ tk ↔ (k : Int) ∈ rndB (QK a.nodes t.nodes) a.nodes.length oA i))) (fun v79 _ => t.nodes.length - (intOf v79).toNat)
      case atStart => exact ⟨0, tk, by omega, rfl, HS, HTk⟩
      case round =>
       clear HS HTk
       obtain ⟨i, tk, hi, rfl, HS, HTk⟩ := hrel
       by_cases hlt : i < t.nodes.length
       ·have hbl : (rndB (QK a.nodes t.nodes) a.nodes.length oA i).length = t.nodes.length := by rw [B_len, HOa.out]
        obtain ⟨g, hgA⟩ : ∃ g, Ao = some ⟨g, 0, none⟩ := by
         obtain ⟨g, cap, e, -⟩ := Kd.R_form HS.out.out (by rw [hbl]; omega)
         injection e with e1
         exact ⟨g, e1⟩
        subst hgA
        obtain ⟨bn, A1, c1, A2, c2, A3, c3, rfl, y0, y1, y2, y3, hN⟩ := at_node HR'.out i hlt
        have HW := Aside0.mk (below_step HB5.out HS.out.below)
        replace y0 := pw_cell_below HW.out y0
        replace y1 := pw_cell_below HW.out y1
        replace y2 := pw_cell_below HW.out y2
        replace y3 := pw_cell_below HW.out y3
        have HNb := Aside0.mk (HBt.out.1 i hlt)
        have HTw := Aside0.mk (HT.out.below HW.out)
        have HRb := Aside0.mk (roundB (na := o1) HTk.out)
        have hBs := B_step (Q := QK a.nodes t.nodes) (n := a.nodes.length) (o := oA) (m := i) (by rw [HOa.out]; exact hlt)
        have x6 := (ints_cell HS.out.out i hlt).1
        have e0 := World.block_lt_of_cell? wr _ x6
        by_cases hz : rd (rndB (QK a.nodes t.nodes) a.nodes.length oA i) (i : Int) < 0
        ·have d1 : decide (rd (rndB (QK a.nodes t.nodes) a.nodes.length oA i) (i : Int) < 0) = true := decide_eq_true hz
         rw [if_pos hz] at hBs
         have HBs := Aside0.mk hBs
         have HTk2 := Aside0.mk (fun (k : Nat) (hk : k < a.nodes.length) => taken_set (x := firstF (QK a.nodes t.nodes i) (rndB (QK a.nodes t.nodes) a.nodes.length oA i) a.nodes.length) (by rw [hbl]; exact hlt) hz (HTk.out k hk))
         clear hBs hz hN
         generalize hnn : nd t.nodes i = n at y0 y1 y2 y3 HNb HRb
         clear hnn
         go_wp2_with fail
         have HBx := Aside0.mk (blk_new wr (.cells #[.int .i64 n.kind, .slice A1 n.ints.length c1, .slice A2 n.texts.length c2, .slice A3 n.kids.length c3] 42))
         have HS1 := Aside0.mk (HS.out.later (below_alloc (Below.refl _ _) (.cells #[.int .i64 n.kind, .slice A1 n.ints.length c1, .slice A2 n.texts.length c2, .slice A3 n.kids.length c3] 42)))
         have HT1 := Aside0.mk (HTw.out.below (below_alloc (Below.refl _ _) (.cells #[.int .i64 n.kind, .slice A1 n.ints.length c1, .slice A2 n.texts.length c2, .slice A3 n.kids.length c3] 42)))
         clear y0 y1 y2 y3 x6 e0 HTw HS d1
         generalize wr.alloc (.cells #[.int .i64 n.kind, .slice A1 n.ints.length c1, .slice A2 n.texts.length c2, .slice A3 n.kids.length c3] 42) = w7 at HBx HS1 HT1 ⊢
         refine (mkind_any T n A1 c1 A2 c2 A3 c3 w7 HNb.out.1 HNb.out.2.2.kind HT1.out).mono ?_
         rintro e w8 ⟨rfl, hB8⟩
         have HS8 := Aside0.mk (HS1.out.later hB8)
         clear hB8 HS1 HT1 HBx
         go_wp2_with fail
         refine (mtake_any HS8.out (kindW n) (HFu.out (kindW n)).1 (HFu.out (kindW n)).2 (kindW_len HNb.out.1 HNb.out.2.2.kind) (by unfold maxLen; omega)).mono ?_
         rintro e w9 ⟨rfl, hS9, -⟩
         rw [HRb.out] at hS9 ⊢
         have HS10 := Aside0.mk (hS9.put (i := i) hlt (firstF (QK a.nodes t.nodes i) (rndB (QK a.nodes t.nodes) a.nodes.length oA i) a.nodes.length))
         have hc9 := ints_cell hS9.out i hlt
         have c9 := hc9.1
         have f9 := hc9.2
         rw [← HBs.out] at HS10 HTk2
         clear hc9 hS9 HS8
         go_wp2
         go_roundw
         case rel => exact ⟨i + 1, _, by omega, by go_num, ⟨HS10.out⟩, ⟨HTk2.out⟩⟩
         case measure => simp [intOf]; omega
        ·have d1 : decide (rd (rndB (QK a.nodes t.nodes) a.nodes.length oA i) (i : Int) < 0) = false := decide_eq_false hz
         rw [if_neg hz] at hBs
         have HS1 := Aside0.mk (show MatS w5 N mb tb (2 * a.nodes.length + t.nodes.length + (i + 1)) (openR o1 a.nodes a.nodes.length) tk (rndB (QK a.nodes t.nodes) a.nodes.length oA (i + 1)) (.slice (some ⟨g, 0, none⟩) t.nodes.length co) (wr.alloc (.cells #[.int .i64 (nd t.nodes i).kind, .slice A1 (nd t.nodes i).ints.length c1, .slice A2 (nd t.nodes i).texts.length c2, .slice A3 (nd t.nodes i).kids.length c3] 42)) from by
          rw [hBs]
          have h := HS.out.later (below_alloc (Below.refl _ _) (.cells #[.int .i64 (nd t.nodes i).kind, .slice A1 (nd t.nodes i).ints.length c1, .slice A2 (nd t.nodes i).texts.length c2, .slice A3 (nd t.nodes i).kids.length c3] 42))
          exact h.more (by omega))
         have HTk2 := Aside0.mk (show ∀ k : Nat, k < a.nodes.length → ((k : Int) ∈ tk ↔ (k : Int) ∈ rndB (QK a.nodes t.nodes) a.nodes.length oA (i + 1)) from by rw [hBs]; exact HTk.out)
         clear hBs hz hN HS HTk
         go_wp2
         go_roundw
         case rel => exact ⟨i + 1, _, by omega, by go_num, HS1, HTk2⟩
         case measure => simp [intOf]; omega
       ·obtain rfl : i = t.nodes.length := by omega
        rw [HMp2.out] at HS
        go_wp2
        go_ret2
        exact .inl ⟨HIs.out.1, HIs.out.2, _, _, rfl, Kd.R_mono (Kd.R_lower HS.out.out HB5.out.size) (fun _ _ => trivial), below_step HB5.out HS.out.below⟩
 ·have HBad := Aside0.mk (show (isC a && isC t) = false from by
   have hi : i < 2 := hi
   match i, hi, hbad with
   | 0, _, hbad => rw [show isC a = false from hbad]; rfl
   | 1, _, hbad => rw [show isC t = false from hbad, Bool.and_false])
  have HB5 := Aside0.mk (below_step HB.out (below_step hA5 hB5))
  clear hB5 hA5 hbad hmm k0 k1 q0 q1
  go_wp2
  go_ret2
  exact .inr ⟨HBad.out, rfl, HB5.out⟩
end Go.Proofs.YtggldnbhmebcpaaGreatDoor.L
end
section
namespace Go.Proofs.YtggldnbhmebcpaaGreatDoor.L
open Go.RowKit Go.ChangeShapes Go.WideShapes Go.Proofs.YtggldnbhmebcpaaGreatDoorW.PrintWords Go.Proofs.YtggldnbhmebcpaaGreatDoorW.PrintLast Go.Proofs.YtggldnbhmebcpaaGreatDoorW.PrintMore
attribute [local go_sem] max2_int min2_int max_two min_two max_three min_three max_four min_four
structure FitN (n : Node) : Prop where
  ints : n.ints.length ≤ 100
  texts : n.texts.length ≤ 100
  kids : n.kids.length ≤ 300
  size : ∀ x ∈ n.texts, x.size ≤ 500
  nb : NBd n
theorem FitN.small {n : Node} (h : FitN n) : Small n := ⟨by have := h.ints; omega, by have := h.texts; omega, by have := h.kids; omega⟩
def Fit (ns : List Node) : Prop := ns.length ≤ 61 ∧ ∀ i : Nat, i < ns.length → FitN (nd ns i)
theorem Fit.rows {ns : List Node} (h : Fit ns) : L.rows ns ≤ 130000 := by
  have h1 := rows_leB (ns := ns) (b := 300) (fun i hi => (h.2 i hi).kids)
  have h2 : ns.length * (300 + 1) ≤ 61 * 301 := Nat.mul_le_mul (by have := h.1; omega) (by omega)
  omega
theorem Fit.small {ns : List Node} (h : Fit ns) : ∀ i : Nat, i < ns.length → Small (nd ns i) := fun i hi => (h.2 i hi).small
theorem fit_of_great {s : Scene} (hg : greatS s = false) (hN : ∀ i : Nat, i < s.nodes.length → NBd (nd s.nodes i)) : Fit s.nodes := by
  have h1 := of_decide_eq_false hg
  refine ⟨Nat.le_succ_of_le (Nat.le_of_not_lt fun e => h1 (.inl e)), fun i hi => ?_⟩
  have h3 := of_decide_eq_false (Bool.eq_false_iff.2 (fun e => h1 (.inr (.inr ⟨i, hi, e⟩))) : greatN (nd s.nodes i) = false)
  refine ⟨Nat.le_of_not_lt fun e => h3 (.inl e), Nat.le_of_not_lt fun e => h3 (.inr (.inl e)), Nat.le_of_not_lt fun e => h3 (.inr (.inr (.inl e))), fun x hx => ?_, hN i hi⟩
  obtain ⟨j, hj, rfl⟩ := List.getElem_of_mem hx
  refine Nat.le_of_not_lt fun e => h3 (.inr (.inr (.inr ⟨j, hj, ?_⟩)))
  unfold str
  rw [getD_eq _ hj]
  exact e
end Go.Proofs.YtggldnbhmebcpaaGreatDoor.L
end
section
namespace Go.Proofs.YtggldnbhmebcpaaGreatDoor.L
open Go.RowKit Go.ChangeShapes Go.WideShapes Go.Proofs.YtggldnbhmebcpaaGreatDoorW.PrintWords Go.Proofs.YtggldnbhmebcpaaGreatDoorW.PrintLast Go.Proofs.YtggldnbhmebcpaaGreatDoorW.PrintMore
attribute [local go_sem] max2_int min2_int max_two min_two max_three min_three max_four min_four
theorem kdI_kid {base : List Int} {n p : Nat} {k : Int} (h : 0 ≤ k ∧ k < (n : Int)) : kdI (imgs base n) p k = kidI base p k := by
 obtain ⟨q, rfl⟩ : ∃ q : Nat, k = (q : Int) := ⟨k.toNat, by omega⟩
 unfold kdI kidI
 rw [imgs_rd (by omega)]
def OpM (a t : List Node) (base : List Int) (p : Nat) (o : Opn) : Prop :=
 (rd base (p : Int) < 0 ∧ o = ⟨3, 0, [], [], nd t p⟩) ∨ (∃ b : Nat, b < a.length ∧ rd base (p : Int) = (b : Int) ∧ OpOf (nd a b) (nd t p) ((nd a b).kids.map (kidI base p)) (b : Int) o)
noncomputable def dErr (a t : Scene) : Int :=
 if ¬ (typedS newTab a.nodes).1 = 0 then (typedS newTab a.nodes).1 else if ¬ (typedS newTab t.nodes).1 = 0 then (typedS newTab t.nodes).1 else if (isC a && isC t) = true then 0 else 16
def DMakePost (a t : Scene) (w : World) (e : Ending) (w' : World) : Prop :=
 (¬ dErr a t = 0 ∧ e = .returned (.tuple #[.slice none 0 0, .int .i64 (dErr a t)]) ∧ Below w.heap.size w w') ∨
 (dErr a t = 0 ∧ ∃ (l : List Opn) (A : Option Addr) (c : Nat), e = .returned (.tuple #[.slice A t.nodes.length c, .int .i64 0]) ∧ l.length = t.nodes.length ∧ kOpn.R 44 w' w.heap.size (fun _ => True) (.slice A t.nodes.length c) l ∧
  (∀ p : Nat, p < t.nodes.length → OpM a.nodes t.nodes (matS a.nodes t.nodes) p (op l p)) ∧ Below w.heap.size w w')
theorem Fit.txs {ns : List Node} (h : Fit ns) : ∀ i : Nat, i < ns.length → TextsSmall (nd ns i) := fun i hi j hj => by
 have h1 := (h.2 i hi).size (str (nd ns i).texts j) (by unfold str; rw [getD_eq _ hj]; exact List.getElem_mem hj)
 omega
theorem Fit.bd {s : Scene} (h : Fit s.nodes) : ScBd s := ⟨fun i hi => ⟨(h.2 i hi).small, fun x hx => Nat.le_trans ((h.2 i hi).size x hx) (by omega), (h.2 i hi).nb⟩, Nat.le_trans h.rows (by omega)⟩
theorem addr0 (g n : Nat) : (⟨g, 0, none⟩ : Addr).add n = ⟨g, n, none⟩ := by
 simp [Addr.add]
 omega
theorem op_app1 {l : List Opn} {o : Opn} {p : Nat} (h : p < l.length) : op (l ++ [o]) p = op l p := by
 rw [op_eq (by simp; omega), op_eq h, List.getElem_append_left h]
theorem op_app2 {l : List Opn} {o : Opn} : op (l ++ [o]) l.length = o := by
 rw [op_eq (by simp)]; simp
set_option maxRecDepth 100000 in
set_option maxHeartbeats 8000000 in
theorem dmake_any (T : Lib.PrintTabs) (A : Option Addr) (c : Nat) (a : Scene) (B : Option Addr) (d : Nat) (t : Scene) (w : World) (h : kNode.C w A a.nodes.length a.nodes) (hc : a.nodes.length ≤ c) (h' : kNode.C w B t.nodes.length t.nodes) (hd : t.nodes.length ≤ d)
  (hFa : Fit a.nodes) (hFt : Fit t.nodes) (hT : QTabs T w) :
  Calls Tryz.prog 11 #[.agg #[.slice A a.nodes.length c, .int .i64 a.root], .agg #[.slice B t.nodes.length d, .int .i64 t.root]] w (DMakePost a t w) := by
 have HR := Aside0.mk h
 have HR' := Aside0.mk h'
 have HT := Aside0.mk hT
 have HFa := Aside0.mk hFa
 have HFt := Aside0.mk hFt
 have hna : a.nodes.length ≤ 61 := hFa.1
 have hnt : t.nodes.length ≤ 61 := hFt.1
 have hA0 := below_alloc (Below.refl w.heap.size w) (.cells #[.slice A a.nodes.length c, .int .i64 a.root] 24)
 have hA1 := below_alloc (Below.refl (w.alloc (.cells #[.slice A a.nodes.length c, .int .i64 a.root] 24)).heap.size (w.alloc (.cells #[.slice A a.nodes.length c, .int .i64 a.root] 24))) (.cells #[.slice B t.nodes.length d, .int .i64 t.root] 24)
 have HB := Aside0.mk (below_step hA0 hA1)
 have k0 := pw_cell_below hA1 (box_cell w _ rfl #[.slice A a.nodes.length c, .int .i64 a.root] 24 0 (.slice A a.nodes.length c) rfl)
 have k1 := pw_cell_below hA1 (box_cell w _ rfl #[.slice A a.nodes.length c, .int .i64 a.root] 24 1 (.int .i64 a.root) rfl)
 have q0 := box_cell (w.alloc (.cells #[.slice A a.nodes.length c, .int .i64 a.root] 24)) (w.heap.size + 1) (by simp) #[.slice B t.nodes.length d, .int .i64 t.root] 24 0 (.slice B t.nodes.length d) rfl
 have q1 := box_cell (w.alloc (.cells #[.slice A a.nodes.length c, .int .i64 a.root] 24)) (w.heap.size + 1) (by simp) #[.slice B t.nodes.length d, .int .i64 t.root] 24 1 (.int .i64 t.root) rfl
 have hu := Tryz.underlying24
 have hun := Tryz.underlying42
 have huo := Tryz.underlying44
 have HZ := Aside0.mk (show ((w.alloc (.cells #[.slice A a.nodes.length c, .int .i64 a.root] 24)).alloc (.cells #[.slice B t.nodes.length d, .int .i64 t.root] 24)).heap.size = w.heap.size + 1 + 1 from by simp)
 have HEr := Aside0.mk (show dErr a t = (if ¬ (typedS newTab a.nodes).1 = 0 then (typedS newTab a.nodes).1 else if ¬ (typedS newTab t.nodes).1 = 0 then (typedS newTab t.nodes).1 else if (isC a && isC t) = true then 0 else 16) from rfl)
 clear h h' hT hA0 hA1 hFa hFt
 go_enter Tryz.func11, Tryz.ntmps11
 go_wp2
 have HKa := Aside0.mk (fun (W : World) (hW : Below w.heap.size w W) => scK (Kd.C_below HR.out hW) hc)
 have HKb := Aside0.mk (fun (W : World) (hW : Below w.heap.size w W) => scK (Kd.C_below HR'.out hW) hd)
 generalize (w.alloc (.cells #[.slice A a.nodes.length c, .int .i64 a.root] 24)).alloc (.cells #[.slice B t.nodes.length d, .int .i64 t.root] 24) = w4 at HB HZ k0 k1 q0 q1 ⊢
 have hA5 := below_alloc (Below.refl w4.heap.size w4) (.cells #[.slice A a.nodes.length c, .int .i64 a.root, .slice B t.nodes.length d, .int .i64 t.root] 24)
 have HRow := Aside0.mk (sc_row2 w4 _ HZ.out (HKa.out w4 HB.out) (HKb.out w4 HB.out))
 replace k0 := pw_cell_below hA5 k0
 replace k1 := pw_cell_below hA5 k1
 replace q0 := pw_cell_below hA5 q0
 replace q1 := pw_cell_below hA5 q1
 have HB5 := Aside0.mk (below_step HB.out hA5)
 have HZ5 := Aside0.mk (show w.heap.size + 1 < (w4.alloc (.cells #[.slice A a.nodes.length c, .int .i64 a.root, .slice B t.nodes.length d, .int .i64 t.root] 24)).heap.size from by have := HZ.out; simp; omega)
 clear hA5 HB HZ
 generalize w4.alloc (.cells #[.slice A a.nodes.length c, .int .i64 a.root, .slice B t.nodes.length d, .int .i64 t.root] 24) = w5 at HRow HB5 HZ5 k0 k1 q0 q1 ⊢
 have HK := Aside0.mk (And.intro k0 (And.intro k1 (And.intro q0 q1)))
 clear k0 k1 q0 q1
 go_loopw [23] (fun v23 W => ∃ i : Nat, i ≤ 2 ∧ v23 = .int .i64 i ∧ Aside0 (∀ j : Nat, j < i → (typedS newTab (sc [a, t] j).nodes).1 = 0) ∧ Aside0 (Below w5.heap.size w5 W)) (fun v23 _ => 2 - (intOf v23).toNat)
 case atStart => exact ⟨0, by omega, rfl, ⟨fun j hj => by omega⟩, ⟨Below.refl _ _⟩⟩
 case round =>
  obtain ⟨i, hi, rfl, HE, HO⟩ := hrel
  by_cases hlt : i < 2
  ·have hli : (i : Int) < 2 := by omega
   obtain ⟨ad, Bi, di, ead, x0, x1, hdi, hS⟩ := at_scene HRow.out i hlt
   injection ead with ead
   subst ead
   rw [addr0] at x0 x1
   replace x0 := pw_cell_below HO.out x0
   replace x1 := pw_cell_below HO.out x1
   have HSc := Aside0.mk (Kd.C_below hS HO.out)
   have HFi := Aside0.mk (show Fit (sc [a, t] i).nodes from match i, hlt with | 0, _ => HFa.out | 1, _ => HFt.out)
   have HBad := Aside0.mk (fun (hb : ¬ (typedS newTab (sc [a, t] i).nodes).1 = 0) => (show dErr a t = (typedS newTab (sc [a, t] i).nodes).1 from by
    match i, hlt, hb with
    | 0, _, hb => exact HEr.out.trans (if_pos (show ¬ (typedS newTab a.nodes).1 = 0 from hb))
    | 1, _, hb => exact HEr.out.trans ((if_neg (fun hn => hn (HE.out 0 (by omega)))).trans (if_pos (show ¬ (typedS newTab t.nodes).1 = 0 from hb)))))
   have HNext := Aside0.mk (fun (hb : (typedS newTab (sc [a, t] i).nodes).1 = 0) => ext_lt HE.out hb)
   have HOa := Aside0.mk (below_step HO.out (below_alloc (Below.refl wr.heap.size wr) (.cells #[.slice Bi (sc [a, t] i).nodes.length di, .int .i64 (sc [a, t] i).root] 24)))
   clear hS hdi HO
   generalize sc [a, t] i = s at x0 x1 HSc HFi HBad HNext HOa
   go_wp2_with fail
   refine (typed_any Bi di s _ (Kd.C_below HSc.out (below_alloc (Below.refl _ _) _)) (HT.out.utf.below (below_step HB5.out HOa.out)) HFi.out.txs).mono ?_
   rintro e w7 ⟨rfl, hB7⟩
   have HB7 := Aside0.mk (below_step HOa.out hB7)
   clear hB7 x0 x1
   by_cases hz : (typedS newTab s.nodes).1 = 0
   ·have HN2 := Aside0.mk (HNext.out hz)
    have hne : ((typedS newTab s.nodes).1 != 0) = false := by simp [hz]
    clear hz
    go_wp2
    go_roundw
    case rel => exact ⟨i + 1, by omega, by go_num, HN2, HB7⟩
    case measure => simp [intOf]; omega
   ·have HE2 := Aside0.mk (HBad.out hz)
    have hne : ((typedS newTab s.nodes).1 != 0) = true := by simp [hz]
    have HZn := Aside0.mk hz
    clear hz
    go_wp2
    go_ret2
    exact .inl ⟨by rw [HE2.out]; exact HZn.out, by rw [HE2.out]; rfl, below_step HB5.out HB7.out⟩
  ·obtain rfl : i = 2 := by omega
   have HOK := Aside0.mk (And.intro (HE.out 0 (by omega)) (HE.out 1 (by omega)))
   have k0 := pw_cell_below HO.out HK.out.1
   have k1 := pw_cell_below HO.out HK.out.2.1
   have q0 := pw_cell_below HO.out HK.out.2.2.1
   have q1 := pw_cell_below HO.out HK.out.2.2.2
   have HB6 := Aside0.mk (below_step HB5.out HO.out)
   have HZ6 := Aside0.mk (show w.heap.size + 1 < wr.heap.size from Nat.lt_of_lt_of_le HZ5.out HO.out.size)
   have HE3 := Aside0.mk (show dErr a t = (if (isC a && isC t) = true then 0 else 16) from HEr.out.trans ((if_neg (fun hn => hn HOK.out.1)).trans (if_neg (fun hn => hn HOK.out.2))))
   clear HEr HO HE
   go_wp2_with fail
   refine (is_any A c a wr (Kd.C_below HR.out HB6.out) (Nat.le_trans HFa.out.rows (by omega))).mono ?_
   rintro e w7 ⟨rfl, hB7⟩
   replace k0 := pw_cell_below hB7 k0
   replace k1 := pw_cell_below hB7 k1
   replace q0 := pw_cell_below hB7 q0
   replace q1 := pw_cell_below hB7 q1
   have HB7 := Aside0.mk (below_step HB6.out hB7)
   have HZ7 := Aside0.mk (Nat.lt_of_lt_of_le HZ6.out hB7.size)
   clear hB7 HB6 HZ6
   cases hia : isC a with
   | false =>
    rw [hia, Bool.false_and] at HE3
    clear hia
    go_wp2
    go_ret2
    exact .inl ⟨by rw [HE3.out]; decide, by rw [HE3.out]; rfl, HB7.out⟩
   | true =>
    go_wp2_with fail
    refine (is_any B d t w7 (Kd.C_below HR'.out HB7.out) (Nat.le_trans HFt.out.rows (by omega))).mono ?_
    rintro e w8 ⟨rfl, hB8⟩
    replace k0 := pw_cell_below hB8 k0
    replace k1 := pw_cell_below hB8 k1
    replace q0 := pw_cell_below hB8 q0
    replace q1 := pw_cell_below hB8 q1
    have HB8 := Aside0.mk (below_step HB7.out hB8)
    have HZ8 := Aside0.mk (Nat.lt_of_lt_of_le HZ7.out hB8.size)
    clear hB8 HB7 HZ7
    cases hit : isC t with
    | false =>
     rw [hia, hit] at HE3
     clear hia hit
     go_wp2
     go_ret2
     exact .inl ⟨by rw [HE3.out]; decide, by rw [HE3.out]; rfl, HB8.out⟩
    | true =>
     rw [hia, hit] at HE3
     have HIs := Aside0.mk (And.intro hia hit)
     clear hia hit
     go_wp2_with fail
     refine (match_any T A c a B d t w8 (Kd.C_below HR.out HB8.out) hc (Kd.C_below HR'.out HB8.out) hd HFa.out.bd HFt.out.bd (HT.out.below HB8.out)).mono ?_
     rintro e w9 (⟨-, -, Am, cm, rfl, hRm, hB9⟩ | ⟨hb, -⟩)
     rotate_left
     ·rw [HIs.out.1, HIs.out.2] at hb; cases hb
     replace k0 := pw_cell_below hB9 k0
     replace q0 := pw_cell_below hB9 q0
     have HB9 := Aside0.mk (below_step HB8.out hB9)
     have HZ9 := Aside0.mk (Nat.lt_of_lt_of_le HZ8.out hB9.size)
     have HMl := Aside0.mk (show (matS a.nodes t.nodes).length = t.nodes.length from mat_len)
     have HMo := Aside0.mk (show Once a.nodes.length (matS a.nodes t.nodes) from mat_once)
     have HL9 := Aside0.mk (show (Kd.int .i64).C w9 Am t.nodes.length (matS a.nodes t.nodes) from by have h1 := (Kd.R_reads' hRm).2.2; rwa [HMl.out] at h1)
     have HAa := Aside0.mk (show AheadN a.nodes from fun p hp k hk => isC_ahead (isC_right HIs.out.1) HIs.out.1 hp hk)
     have hn1 : 1 ≤ a.nodes.length := by have := (isC_right HIs.out.1).r0; have := (isC_right HIs.out.1).r1; omega
     clear hRm hB9 HB8 HZ8 k1 q1
     generalize hMm : matS a.nodes t.nodes = M at HMl HMo HL9
     have HMe := Aside0.mk hMm
     clear hMm
     have hzz := HZ9.out
     have hzz0 : w.heap.size < w9.heap.size := by omega
     go_wp2_with fail
     clear hzz hzz0
     have hA9 := below_alloc (Below.refl w9.heap.size w9) (.cells #[.int .i64 (-1)] 3)
     refine (repeat_int ⟨w9.heap.size, 0, none⟩ 1 (-1) a.nodes.length _ (box_cell w9 _ rfl #[.int .i64 (-1)] 3 0 _ rfl) hn1 (by omega)).mono ?_
     rintro e w10 ⟨Ai, ci, rfl, hRi, hB10⟩
     have HIm0 := Aside0.mk (show (Kd.int .i64).R 3 w10 w9.heap.size (fun _ => True) (.slice Ai a.nodes.length ci) (imgs (M.take 0) a.nodes.length) from by
      rw [List.take_zero, imgs_nil]
      rw [List.length_replicate] at hRi
      exact Kd.R_lower hRi hA9.size)
     have HB10 := Aside0.mk (below_step hA9 hB10)
     have HKq := Aside0.mk (And.intro k0 q0)
     clear hRi hB10 hA9 k0 q0
     rw [List.length_replicate]
     go_wp2
     go_loopw [57] (fun v57 W => ∃ i : Nat, i ≤ t.nodes.length ∧ v57 = .int .i64 i ∧ Aside0 ((Kd.int .i64).R 3 W w9.heap.size (fun _ => True) (.slice Ai a.nodes.length ci) (imgs (M.take i) a.nodes.length)) ∧ Aside0 (Below w9.heap.size w9 W)) (fun v57 _ => t.nodes.length - (intOf v57).toNat)
     case atStart => exact ⟨0, by omega, rfl, HIm0, HB10⟩
     case round =>
      clear HIm0 HB10
      obtain ⟨i, hi, rfl, HI, HO⟩ := hrel
      by_cases hlt : i < t.nodes.length
      ·obtain ⟨ad, rfl, x0⟩ := at_i HL9.out i hlt
       have x0 := pw_cell_below HO.out x0
       have hpl := HMo.out.pl i (by rw [HMl.out]; exact hlt)
       have HSt := Aside0.mk (imgs_step (l := M.take i) (x := rd M (i : Int)) (n := a.nodes.length) (by
        rcases hpl with h | ⟨h1, h2⟩
        ·exact .inl h
        ·exact .inr ⟨h1, h2, fun hm => by
          obtain ⟨j, hj, e⟩ := List.getElem_of_mem hm
          rw [List.length_take] at hj
          refine HMo.out.ne i j (by rw [HMl.out]; exact hlt) (by omega) (by omega) h1 ?_
          rw [← e, List.getElem_take, rd_eq (by omega)]⟩))
       rw [← take_succ_rd (by rw [HMl.out]; exact hlt), List.length_take, HMl.out, Nat.min_eq_left (Nat.le_of_lt hlt)] at HSt
       rcases hpl with hneg | ⟨hp0, hp1⟩
       ·rw [hneg] at x0
        have HI2 := Aside0.mk (show (Kd.int .i64).R 3 wr w9.heap.size (fun _ => True) (.slice Ai a.nodes.length ci) (imgs (M.take (i + 1)) a.nodes.length) from by
         rw [HSt.out, if_neg (by omega)]; exact HI.out)
        clear HSt hneg
        go_wp2
        go_roundw
        case rel => exact ⟨i + 1, by omega, by go_num, HI2, HO⟩
        case measure => simp [intOf]; omega
       ·obtain ⟨kk, hkk⟩ : ∃ kk : Nat, rd M (i : Int) = (kk : Int) := ⟨(rd M (i : Int)).toNat, by omega⟩
        rw [hkk] at x0 hp1 HSt
        have hkn : kk < a.nodes.length := by omega
        obtain ⟨g, hgA⟩ : ∃ g, Ai = some ⟨g, 0, none⟩ := by
         obtain ⟨g, cap, e, -⟩ := Kd.R_form HI.out (by rw [imgs_len]; omega)
         injection e with e1
         exact ⟨g, e1⟩
        subst hgA
        have hc6 := ints_cell HI.out kk hkn
        have c6 := hc6.1
        have f6 := hc6.2
        have hst := ints_store HI.out kk hkn (i : Int)
        have HI2 := Aside0.mk (show (Kd.int .i64).R 3 (wr.setCell ⟨g, kk, none⟩ (.int .i64 (i : Int))) w9.heap.size (fun _ => True) (.slice (some ⟨g, 0, none⟩) a.nodes.length ci) (imgs (M.take (i + 1)) a.nodes.length) from by
         rw [HSt.out, if_pos (by omega), Int.toNat_natCast]; exact hst.1)
        have HO2 := Aside0.mk (below_set HO.out hst.2.2 (j := kk) (v := .int .i64 (i : Int)))
        clear hc6 hst HSt hkk hp0 hp1
        go_wp2
        go_roundw
        case rel => exact ⟨i + 1, by omega, by go_num, HI2, HO2⟩
        case measure => simp [intOf]; omega
      ·obtain rfl : i = t.nodes.length := by omega
       rw [← HMl.out, List.take_length] at HI
       obtain ⟨w11, hw11⟩ : ∃ w11 : World, w11 = wr := ⟨_, rfl⟩
       rw [← hw11] at HI HO ⊢
       clear hw11
       have HImC := Aside0.mk (show (Kd.int .i64).C w11 Ai a.nodes.length (imgs M a.nodes.length) from by have h1 := (Kd.R_reads' HI.out).2.2; rwa [imgs_len] at h1)
       have HB11 := Aside0.mk (below_step HB9.out HO.out)
       have k0 := pw_cell_below HO.out HKq.out.1
       have q0 := pw_cell_below HO.out HKq.out.2
       have HL11 := Aside0.mk (Kd.C_below HL9.out HO.out)
       have HZ11 := Aside0.mk (Nat.lt_of_lt_of_le HZ9.out HO.out.size)
       have HK11 := Aside0.mk k0
       have HOp0 : Aside0 (kOpn.R 44 w11 w11.heap.size (fun _ => True) (.slice none 0 0) []) := ⟨Kd.R_nil _ _ _ _ _⟩
       clear HI HO k0 HKq HL9 HZ9
       go_wp2
       clear q0
       go_loopw [72, 15] (fun v72 v15 W => ∃ (i : Nat) (l : List Opn) (vo : Value), i ≤ t.nodes.length ∧ v72 = .int .i64 i ∧ vo = v15 ∧ l.length = i ∧ Aside0 (kOpn.R 44 W w11.heap.size (fun _ => True) vo l) ∧ Aside0 (Below w11.heap.size w11 W) ∧ Aside0 (∀ p : Nat, p < i → OpM a.nodes t.nodes M p (op l p))) (fun v72 _ _ => t.nodes.length - (intOf v72).toNat)
       case atStart => exact ⟨0, [], _, by omega, rfl, rfl, rfl, HOp0, ⟨Below.refl _ _⟩, ⟨fun p hp => by omega⟩⟩
       case round =>
        clear HOp0
        obtain ⟨i, l, vo, hi, rfl, rfl, hll, HI, HO, HP⟩ := hrel
        obtain ⟨Ao, co, hvo⟩ := Kd.R_slice HI.out
        subst hvo
        rw [hll] at HI ⊢
        have HLl := Aside0.mk hll
        clear hll
        by_cases hlt : i < t.nodes.length
        ·obtain ⟨bn, B1, d1, B2, d2, B3, d3, rfl, y0, y1, y2, y3, hM⟩ := at_node HR'.out i hlt
         have HW := Aside0.mk (below_step HB11.out HO.out)
         replace y0 := pw_cell_below HW.out y0
         replace y1 := pw_cell_below HW.out y1
         replace y2 := pw_cell_below HW.out y2
         replace y3 := pw_cell_below HW.out y3
         obtain ⟨ad, rfl, x0⟩ := at_i HL11.out i hlt
         have x0 := pw_cell_below HO.out x0
         have e0 := World.block_lt_of_cell? wr _ x0
         have HSm := Aside0.mk (HFt.out.small i hlt)
         have htk3 := (HFt.out.2 i hlt).kids
         have HNt := Aside0.mk hM
         have HPi := Aside0.mk (fun (o : Opn) (ho : OpM a.nodes t.nodes M i o) (p : Nat) (hp : p < i + 1) => (show OpM a.nodes t.nodes M p (op (l ++ [o]) p) from by
          by_cases hpi : p < i
          ·rw [op_app1 (by rw [HLl.out]; exact hpi)]; exact HP.out p hpi
          ·obtain rfl : p = i := by omega
           have h2 := op_app2 (l := l) (o := o)
           rw [HLl.out] at h2
           rw [h2]; exact ho))
         have HOm := Aside0.mk (fun (o : Opn) => (show OpM a.nodes t.nodes M i o = ((rd M (i : Int) < 0 ∧ o = ⟨3, 0, [], [], nd t.nodes i⟩) ∨ (∃ b : Nat, b < a.nodes.length ∧ rd M (i : Int) = (b : Int) ∧ OpOf (nd a.nodes b) (nd t.nodes i) ((nd a.nodes b).kids.map (kidI M i)) (b : Int) o)) from rfl))
         clear hM
         generalize nd t.nodes i = n at y0 y1 y2 y3 HSm htk3 HNt HOm
         have hA := below_alloc (Below.refl wr.heap.size wr) (.cells #[.int .i64 n.kind, .slice B1 n.ints.length d1, .slice B2 n.texts.length d2, .slice B3 n.kids.length d3] 42)
         have HI1 := Aside0.mk (Kd.R_below HI.out hA)
         have HO1 := Aside0.mk (below_step HO.out hA)
         have HN1 := Aside0.mk (HNt.out.below (below_step HW.out hA))
         have v0 := box_cell wr _ rfl #[.int .i64 n.kind, .slice B1 n.ints.length d1, .slice B2 n.texts.length d2, .slice B3 n.kids.length d3] 42 0 _ rfl
         have v1 := box_cell wr _ rfl #[.int .i64 n.kind, .slice B1 n.ints.length d1, .slice B2 n.texts.length d2, .slice B3 n.kids.length d3] 42 1 _ rfl
         have v2 := box_cell wr _ rfl #[.int .i64 n.kind, .slice B1 n.ints.length d1, .slice B2 n.texts.length d2, .slice B3 n.kids.length d3] 42 2 _ rfl
         have v3 := box_cell wr _ rfl #[.int .i64 n.kind, .slice B1 n.ints.length d1, .slice B2 n.texts.length d2, .slice B3 n.kids.length d3] 42 3 _ rfl
         rcases HMo.out.pl i (by rw [HMl.out]; exact hlt) with hneg | ⟨hp0, hp1⟩
         ·have HOn := Aside0.mk (HPi.out ⟨3, 0, [], [], n⟩ (by rw [HOm.out]; exact .inl ⟨by omega, rfl⟩))
          rw [hneg] at x0
          clear HOm HPi hneg
          go_wp2_with fail
          clear y0 y1 y2 y3 x0 e0 hA
          generalize wr.alloc (.cells #[.int .i64 n.kind, .slice B1 n.ints.length d1, .slice B2 n.texts.length d2, .slice B3 n.kids.length d3] 42) = w12 at HI1 HO1 HN1 v0 v1 v2 v3 ⊢
          generalize wr.heap.size = gb at v0 v1 v2 v3 ⊢
          refine (copy_any n B1 d1 B2 d2 B3 d3 w12 HN1.out HSm.out).mono ?_
          rintro e w13 ⟨_, rfl, ⟨u1, u2, u3, rfl, hMn⟩, hB13⟩
          obtain ⟨E1, f1, E2, f2, E3, f3, rfl, rfl, rfl⟩ := M_slices hMn
          have HI13 := Aside0.mk (Kd.R_below HI1.out hB13)
          have HMo3 := Aside0.mk (kOpn.M_mono (fun k hk => (show some k ≠ (Value.slice Ao i co).ownBlock from fun he => by have := Kd.R_lt HI1.out k he.symm; have := hk.2.1; omega)) (kOpn.M_lower HO1.out.size (kOpn.M_bound (kOpn_mkM (o := ⟨3, 0, [], [], n⟩) (Kd.R_nil kSet 56 w13 w12.heap.size (fun _ => True)) (Kd.R_nil kEd 48 w13 w12.heap.size (fun _ => True)) hMn))))
          have HO13 := Aside0.mk (below_step HO1.out hB13)
          clear hMn hB13 v0 v1 v2 v3
          have hl1 : (l.length + 1) * 144 ≤ 140737488355328 := by rw [HLl.out]; omega
          go_wp2_with (at_builtin; refine Kd.R_append kOpn (w0 := w11) w11.heap.size rfl (.tmp 96) (.tmp 100) 27 44 (.agg #[.int .i64 0, .int .i64 0, .slice none 0 0, .slice none 0 0, .int .i64 0, .slice none 0 0, .slice none 0 0, .slice none 0 0]) 144 rfl Tryz.underlying27 info_op rfl (by decide) (by omega) (.slice Ao i co) l ⟨3, 0, [], [], n⟩ [.int .i64 3, .int .i64 0, .slice none 0 0, .slice none 0 0, .int .i64 n.kind, .slice E1 n.ints.length f1, .slice E2 n.texts.length f2, .slice E3 n.kids.length f3] (fun _ => True) (fun k => some k ≠ (Value.slice Ao i co).ownBlock) rfl (by go_simp) HMo3.out (fun k hk => ⟨trivial, hk⟩) (fun _ _ => trivial) HI13.out HO13.out HO13.out.size hl1 ?_; intro v7 w7 hR7 hB7 _ _; have HI7 := Aside0.mk hR7; have HO7 := Aside0.mk hB7; clear hR7 hB7)
          go_roundw
          case rel => exact ⟨i + 1, l ++ [⟨3, 0, [], [], n⟩], _, by omega, by go_num, rfl, by rw [List.length_append, HLl.out]; rfl, HI7, HO7, HOn⟩
          case measure => simp [intOf]; omega
         ·obtain ⟨bb, hbb⟩ : ∃ bb : Nat, rd M (i : Int) = (bb : Int) := ⟨(rd M (i : Int)).toNat, by omega⟩
          rw [hbb] at x0 hp1
          have hbl : bb < a.nodes.length := by omega
          obtain ⟨an, A1, c1, A2, c2, A3, c3, rfl, z0, z1, z2, z3, hN⟩ := at_node HR.out bb hbl
          replace z0 := pw_cell_below hA (pw_cell_below HW.out z0)
          replace z1 := pw_cell_below hA (pw_cell_below HW.out z1)
          replace z2 := pw_cell_below hA (pw_cell_below HW.out z2)
          replace z3 := pw_cell_below hA (pw_cell_below HW.out z3)
          have k0 := pw_cell_below HO1.out HK11.out
          have HNf := Aside0.mk (hN.below (below_step HW.out hA))
          have HOn := Aside0.mk (fun (o : Opn) (ho : OpOf (nd a.nodes bb) n ((nd a.nodes bb).kids.map (kidI M i)) (bb : Int) o) => HPi.out o (by rw [HOm.out]; exact .inr ⟨bb, hbl, hbb, ho⟩))
          have HKd := Aside0.mk (show ∀ k ∈ (nd a.nodes bb).kids, 0 ≤ k ∧ k < (a.nodes.length : Int) from fun k hk => by have := HAa.out bb hbl k hk; omega)
          have HSf := Aside0.mk (HFa.out.small bb hbl)
          have hfk3 := (HFa.out.2 bb hbl).kids
          have HIm1 := Aside0.mk (Kd.C_below HImC.out HO1.out)
          clear HOm HPi hN hbb hp0 hp1
          generalize nd a.nodes bb = f at z0 z1 z2 z3 HNf HOn HKd HSf hfk3
          have HKm := Aside0.mk (show f.kids.map (kdI (imgs M a.nodes.length) i) = f.kids.map (kidI M i) from List.map_congr_left (fun k hk => kdI_kid (HKd.out k hk)))
          go_wp2
          clear y0 y1 y2 y3 x0 e0 hA
          generalize wr.alloc (.cells #[.int .i64 n.kind, .slice B1 n.ints.length d1, .slice B2 n.texts.length d2, .slice B3 n.kids.length d3] 42) = w12 at HI1 HO1 HN1 v0 v1 v2 v3 z0 z1 z2 z3 k0 HNf HIm1 ⊢
          generalize wr.heap.size = gb at v0 v1 v2 v3 ⊢
          have HOpc := Aside0.mk (show Calls Tryz.prog 29 #[.int .i64 (bb : Int), .agg #[.int .i64 f.kind, .slice A1 f.ints.length c1, .slice A2 f.texts.length c2, .slice A3 f.kids.length c3], .agg #[.int .i64 n.kind, .slice B1 n.ints.length d1, .slice B2 n.texts.length d2, .slice B3 n.kids.length d3], .slice Ai a.nodes.length ci, .int .i64 (i : Int)] w12.drew (OpPost f n (f.kids.map (kidI M i)) (bb : Int) w12.drew) from by
           have h1 := dop_any (bb : Int) f n A1 c1 A2 c2 A3 c3 B1 d1 B2 d2 B3 d3 Ai ci (imgs M a.nodes.length) i w12.drew (HNf.out.below (below_drew (Below.refl _ _))) (HN1.out.below (below_drew (Below.refl _ _))) (by rw [imgs_len]; exact Kd.C_drew HIm1.out) (by rw [imgs_len]; exact HKd.out) HSf.out (by omega) (by omega)
           rw [imgs_len, HKm.out] at h1
           exact h1)
          have v0d : w12.drew.cell? ⟨gb, 0, none⟩ = some (.int .i64 n.kind) := v0
          have v1d : w12.drew.cell? ⟨gb, 1, none⟩ = some (.slice B1 n.ints.length d1) := v1
          have v2d : w12.drew.cell? ⟨gb, 2, none⟩ = some (.slice B2 n.texts.length d2) := v2
          have v3d : w12.drew.cell? ⟨gb, 3, none⟩ = some (.slice B3 n.kids.length d3) := v3
          have z0d : w12.drew.cell? (an.add (bb * 4)) = some (.int .i64 f.kind) := z0
          have z1d : w12.drew.cell? ⟨(an.add (bb * 4)).block, (an.add (bb * 4)).off + 1, none⟩ = some (.slice A1 f.ints.length c1) := z1
          have z2d : w12.drew.cell? ⟨(an.add (bb * 4)).block, (an.add (bb * 4)).off + 2, none⟩ = some (.slice A2 f.texts.length c2) := z2
          have z3d : w12.drew.cell? ⟨(an.add (bb * 4)).block, (an.add (bb * 4)).off + 3, none⟩ = some (.slice A3 f.kids.length c3) := z3
          have k0d : w12.drew.cell? ⟨w.heap.size, 0, none⟩ = some (.slice (some an) a.nodes.length c) := k0
          have hl1 : (l.length + 1) * 144 ≤ 140737488355328 := by rw [HLl.out]; omega
          go_region_law (first
           | ((try (rw [if_pos (by rfl)])); go_simp; go_at_call 29; refine HOpc.out.mono ?_; rintro e w13 ⟨o, s1, s2, hOf, rfl, hMo, hnz, hB13⟩; rw [show o.node.kind = 0 from by rw [hnz]; rfl] at hMo; have HI13 := Aside0.mk (Kd.R_below (Kd.R_drew HI1.out) hB13); have HO13 := Aside0.mk (below_step (below_drew HO1.out) hB13); have HMo := Aside0.mk (kOpn.M_mono (fun k hk => (show some k ≠ (Value.slice Ao i co).ownBlock from fun he => by have := Kd.R_lt HI1.out k he.symm; have h2 := hk.2.1; simp at h2; omega)) (kOpn.M_lower (show w11.heap.size ≤ w12.drew.heap.size from by have := HO1.out.size; simpa using this) (kOpn.M_bound hMo))); have HOf := Aside0.mk hOf; have HNz := Aside0.mk hnz; clear hOf hMo hnz hB13; go_simp)
           | (refine Kd.R_append_step kOpn (W := w13) (w0 := w11) w11.heap.size (by rfl) (.tmp 83) (.tmp 94) 27 44 (.agg #[.int .i64 0, .int .i64 0, .slice none 0 0, .slice none 0 0, .int .i64 0, .slice none 0 0, .slice none 0 0, .slice none 0 0]) 144 rfl Tryz.underlying27 info_op rfl (by decide) (by omega) (.slice Ao i co) l o [.int .i64 o.kind, .int .i64 o.base, s1, s2, .int .i64 0, .slice none 0 0, .slice none 0 0, .slice none 0 0] (fun _ => True) (fun k => some k ≠ (Value.slice Ao i co).ownBlock) rfl rfl HMo.out (fun k hk => ⟨trivial, hk⟩) (fun _ _ => trivial) HI13.out HO13.out HO13.out.size hl1 ?_; intro v7 w7 hR7 hB7 hg7 hat7; have HI7 := Aside0.mk hR7; have HO7 := Aside0.mk hB7; clear hR7 hB7 hg7 hat7))
          all_goals
           clear v0 v1 v2 v3 v0d v1d v2d v3d z0 z1 z2 z3 z0d z1d z2d z3d k0 k0d hl1
           go_wp2
           go_roundw
           case rel => exact ⟨i + 1, l ++ [o], _, by omega, by go_num, rfl, by rw [List.length_append, HLl.out]; rfl, HI7, HO7, ⟨HOn.out o HOf.out⟩⟩
           case measure => simp [intOf]; omega
        ·obtain rfl : i = t.nodes.length := by omega
         go_wp2
         go_ret2
         exact .inr ⟨HE3.out, l, Ao, co, rfl, HLl.out, Kd.R_mono (Kd.R_lower HI.out HB11.out.size) (fun _ _ => trivial), fun p hp => by rw [HMe.out]; exact HP.out p hp, below_step HB11.out HO.out⟩
end Go.Proofs.YtggldnbhmebcpaaGreatDoor.L
end
section
namespace Go.Proofs.YtggldnbhmebcpaaGreatDoor.L
open Go.RowKit Go.ChangeShapes Go.WideShapes Go.Proofs.YtggldnbhmebcpaaGreatDoorW.PrintWords Go.Proofs.YtggldnbhmebcpaaGreatDoorW.PrintLast Go.Proofs.YtggldnbhmebcpaaGreatDoorW.PrintMore
attribute [local go_sem] max2_int min2_int max_two min_two max_three min_three max_four min_four
theorem QK_iff {a t : List Node} {i k : Nat} : QK a t i k = true ↔ alike (nd a k) (nd t i) = true := by
  unfold QK alike
  rw [decide_eq_true_iff, decide_eq_true_iff, kindW_inj]
theorem QK_alike (a t : List Node) (i k : Nat) : QK a t i k = alike (nd a k) (nd t i) := by
  cases h : alike (nd a k) (nd t i) with
  | true => exact QK_iff.2 h
  | false => exact Bool.eq_false_iff.2 (fun hh => by rw [QK_iff.1 hh] at h; cases h)
end Go.Proofs.YtggldnbhmebcpaaGreatDoor.L
end
section
namespace Go.Proofs.YtggldnbhmebcpaaGreatDoor.L
open Go.RowKit Go.ChangeShapes Go.WideShapes Go.Proofs.YtggldnbhmebcpaaGreatDoorW.PrintWords Go.Proofs.YtggldnbhmebcpaaGreatDoorW.PrintLast Go.Proofs.YtggldnbhmebcpaaGreatDoorW.PrintMore
attribute [local go_sem] max2_int min2_int max_two min_two max_three min_three max_four min_four
theorem eqA_ed (d : Nat) (w : World) (x0 y0 : Int) (x1 y1 : Int) :
    (Op.equalIn (d + 2) 48 (.agg #[.int .i64 x0, .int .i64 x1]) (.agg #[.int .i64 y0, .int .i64 y1])).run Tryz.prog w = .ok (x0 == y0 && (x1 == y1)) w := by
  refine eqA_of Tryz.underlying48 (by kernel_rfl) ?_
  refine eqf_cons (by rfl) (by go_simp; rfl) (by go_simp; rfl) (by go_simp) ?_
  exact eqf_last (by rfl) (by go_simp; rfl) (by go_simp; rfl) (by go_simp)
attribute [local go_sem high] eqA_ed
end Go.Proofs.YtggldnbhmebcpaaGreatDoor.L
end
section
namespace Go.Proofs.YtggldnbhmebcpaaGreatDoor.L
open Go.RowKit Go.ChangeShapes Go.WideShapes Go.Proofs.YtggldnbhmebcpaaGreatDoorW.PrintWords Go.Proofs.YtggldnbhmebcpaaGreatDoorW.PrintLast Go.Proofs.YtggldnbhmebcpaaGreatDoorW.PrintMore
attribute [local go_sem] max2_int min2_int max_two min_two max_three min_three max_four min_four
theorem eqA_set (d : Nat) (w : World) (x0 y0 : Bool) (x1 y1 x2 y2 : Int) (x3 y3 : ByteArray) :
    (Op.equalIn (d + 2) 56 (.agg #[.bool x0, .int .i64 x1, .int .i64 x2, .string x3]) (.agg #[.bool y0, .int .i64 y1, .int .i64 y2, .string y3])).run Tryz.prog w = .ok (x0 == y0 && (x1 == y1 && (x2 == y2 && (x3.toList == y3.toList)))) w := by
  refine eqA_of Tryz.underlying56 (by kernel_rfl) ?_
  refine eqf_cons (by rfl) (by go_simp; rfl) (by go_simp; rfl) (by go_simp) ?_
  refine eqf_cons (by rfl) (by go_simp; rfl) (by go_simp; rfl) (by go_simp) ?_
  refine eqf_cons (by rfl) (by go_simp; rfl) (by go_simp; rfl) (by go_simp) ?_
  exact eqf_last (by rfl) (by go_simp; rfl) (by go_simp; rfl) (by go_simp)
theorem eqA_set_same (d : Nat) (w : World) (x0 : Bool) (x1 x2 : Int) (x3 : ByteArray) :
    (Op.equalIn (d + 2) 56 (.agg #[.bool x0, .int .i64 x1, .int .i64 x2, .string x3]) (.agg #[.bool x0, .int .i64 x1, .int .i64 x2, .string x3])).run Tryz.prog w = .ok true w := by
  rw [eqA_set]
  simp
attribute [local go_sem high] eqA_set_same
end Go.Proofs.YtggldnbhmebcpaaGreatDoor.L
end
section
namespace Go.Proofs.YtggldnbhmebcpaaGreatDoor.L
open Go.RowKit Go.ChangeShapes Go.WideShapes Go.Proofs.YtggldnbhmebcpaaGreatDoorW.PrintWords Go.Proofs.YtggldnbhmebcpaaGreatDoorW.PrintLast Go.Proofs.YtggldnbhmebcpaaGreatDoorW.PrintMore
attribute [local go_sem] max2_int min2_int max_two min_two max_three min_three max_four min_four
theorem wrap64_in (n : Int) (h : -9223372036854775808 ≤ n ∧ n ≤ 9223372036854775807) : wrap64 n = n := by unfold wrap64; omega
end Go.Proofs.YtggldnbhmebcpaaGreatDoor.L
end
section
namespace Go.Proofs.YtggldnbhmebcpaaGreatDoor.L
open Go.RowKit Go.ChangeShapes Go.WideShapes Go.Proofs.YtggldnbhmebcpaaGreatDoorW.PrintWords Go.Proofs.YtggldnbhmebcpaaGreatDoorW.PrintLast Go.Proofs.YtggldnbhmebcpaaGreatDoorW.PrintMore
attribute [local go_sem] max2_int min2_int max_two min_two max_three min_three max_four min_four
theorem R_apart {α β : Type} {d : Kd α} {d' : Kd β} {e e' : Nat} {w : World} {b b' : Nat} {ok ok' : Nat → Prop} {v v' : Value} {xs : List α} {ys : List β} (h : d.R e w b ok v xs) (h' : d'.R e' w b' ok' v' ys) (hT : e ≠ e') (k : Nat) (hk : some k = v.ownBlock) : some k ≠ v'.ownBlock := fun hk' => by
  obtain ⟨c1, e1⟩ := Kd.R_typed h k hk.symm
  obtain ⟨c2, e2⟩ := Kd.R_typed h' k hk'.symm
  rw [e1] at e2
  injection e2 with e2
  injection e2 with _ e2
  exact hT e2
structure CnRel (w1 : World) (root : Int) (xs : List Node) (v4 : Value) (W : World) : Prop where
  below : Below w1.heap.size w1 W
  out : W.heap[w1.heap.size]? = some (.cells #[v4, .int .i64 root] 24 (0, 0))
  row : kNode.R 42 W w1.heap.size (fun _ => True) v4 xs
theorem CnRel.start (w1 : World) (root : Int) : CnRel w1 root [] (.slice none 0 0) (w1.alloc (.cells #[.slice none 0 0, .int .i64 root] 24)) :=
  ⟨below_alloc (Below.refl _ _) _, by simpa using heap_alloc_new w1 _, Kd.R_nil _ _ _ _ _⟩
theorem CnRel.later {w1 : World} {root : Int} {xs : List Node} {v4 : Value} {W W1 : World} (h : CnRel w1 root xs v4 W) (hb : Below W.heap.size W W1) : CnRel w1 root xs v4 W1 :=
  ⟨below_step h.below hb, (hb.block _ (blk_lt h.out)).trans h.out, Kd.R_below h.row hb⟩
theorem CnRel.put {w1 : World} {root : Int} {xs : List Node} {v4 v5 : Value} {ys : List Node} {W w2 : World} (h : CnRel w1 root xs v4 W) (hR : kNode.R 42 w2 w1.heap.size (fun _ => True) v5 ys) (hB : Below w1.heap.size w1 w2) (hg : W.grownBy w2 v4.ownBlock) :
    w2.heap[w1.heap.size]? = some (.cells #[v4, .int .i64 root] 24 (0, 0)) ∧ CnRel w1 root ys v5 (w2.setCell ⟨w1.heap.size, 0, none⟩ v5) := by
  have hb := blk_grown h.out hg (Kd.R_ne h.row h.out (by decide))
  refine ⟨hb, below_set hB (Nat.le_refl _), ?_, R_type hR hb (by decide) v5 0⟩
  have := blk_set hb 0 v5
  simpa using this
theorem node_off {W : World} {base : Nat} {n : Node} {v1 v2 v3 v4 : Value} {xs : List Node} (h1 : (Kd.int .i64).R 2 W base (fun _ => True) v1 n.ints) (h2 : Kd.string.R 9 W base (fun _ => True) v2 n.texts) (h3 : (Kd.int .i64).R 3 W base (fun _ => True) v3 n.kids)
    (h : kNode.R 42 W base (fun _ => True) v4 xs) : kNode.M W base (fun k => some k ≠ v4.ownBlock) n [.int .i64 n.kind, v1, v2, v3] :=
  kNode_mkM (Kd.R_mono (Kd.R_tight rfl h1) (fun k hk => R_apart h1 h (by decide) k hk)) (Kd.R_mono (Kd.R_tight rfl h2) (fun k hk => R_apart h2 h (by decide) k hk)) (Kd.R_mono (Kd.R_tight rfl h3) (fun k hk => R_apart h3 h (by decide) k hk))
end Go.Proofs.YtggldnbhmebcpaaGreatDoor.L
end
section
namespace Go.Proofs.YtggldnbhmebcpaaGreatDoor.L
open Go.RowKit Go.ChangeShapes Go.WideShapes Go.Proofs.YtggldnbhmebcpaaGreatDoorW.PrintWords Go.Proofs.YtggldnbhmebcpaaGreatDoorW.PrintLast Go.Proofs.YtggldnbhmebcpaaGreatDoorW.PrintMore
attribute [local go_sem] max2_int min2_int max_two min_two max_three min_three max_four min_four
structure PF (w : World) (g r : Nat) (cs : Array Value) (W : World) (v1 v2 v3 : Value) (l1 : List Int) (l2 : List ByteArray) (l3 : List Int) : Prop where
  below : Below w.heap.size w W
  box : W.heap[g]? = some (.cells cs 42 (0, 0))
  res : W.heap[r]? = some (.cells #[.int .i64 0, .slice none 0 0, .slice none 0 0, .slice none 0 0] 42 (0, 0))
  r1 : (Kd.int .i64).R 2 W w.heap.size (fun _ => True) v1 l1
  r2 : Kd.string.R 9 W w.heap.size (fun _ => True) v2 l2
  r3 : (Kd.int .i64).R 3 W w.heap.size (fun _ => True) v3 l3
section
variable {w : World} {g r : Nat} {cs : Array Value} {W W1 : World} {v1 v2 v3 : Value} {l1 : List Int} {l2 : List ByteArray} {l3 : List Int}
theorem PF.later (h : PF w g r cs W v1 v2 v3 l1 l2 l3) (hb : Below W.heap.size W W1) : PF w g r cs W1 v1 v2 v3 l1 l2 l3 :=
  ⟨below_step h.below hb, (hb.block _ (blk_lt h.box)).trans h.box, (hb.block _ (blk_lt h.res)).trans h.res, Kd.R_below h.r1 hb, Kd.R_below h.r2 hb, Kd.R_below h.r3 hb⟩
theorem PF.alloc (h : PF w g r cs W v1 v2 v3 l1 l2 l3) (o : Obj) : PF w g r cs (W.alloc o) v1 v2 v3 l1 l2 l3 := h.later (below_alloc (Below.refl _ _) o)
theorem PF.drew (h : PF w g r cs W v1 v2 v3 l1 l2 l3) : PF w g r cs W.drew v1 v2 v3 l1 l2 l3 := h.later (below_drew (Below.refl _ _))
theorem PF.lives (h : PF w g r cs W v1 v2 v3 l1 l2 l3) : Lives 4 r W := ⟨_, rfl, _, h.res⟩
theorem PF.cell (h : PF w g r cs W v1 v2 v3 l1 l2 l3) (i : Nat) {v : Value} (hv : cs[i]? = some v) : W.cell? ⟨g, i, none⟩ = some v := (blk_cell h.box i).trans hv
theorem PF.lit1 (h : PF w g r cs W v1 v2 v3 l1 l2 l3) (b : Nat) (hb : b = W.heap.size) : PF w g r cs (W.alloc (.cells #[] 2)) (.slice (some ⟨b, 0, none⟩) 0 0) v2 v3 [] l2 l3 := by
  subst hb
  have h' := h.alloc (.cells #[] 2)
  exact { h' with r1 := R_empty _ _ _ _ h.below.size }
theorem PF.lit1a (h : PF w g r cs W v1 v2 v3 l1 l2 l3) : PF w g r cs (W.alloc (.cells #[] 2)) (.slice (some ⟨W.heap.size, 0, none⟩) 0 0) v2 v3 [] l2 l3 := h.lit1 _ rfl
theorem PF.lit1b {o : Obj} (h : PF w g r cs (W.alloc o) v1 v2 v3 l1 l2 l3) : PF w g r cs ((W.alloc o).alloc (.cells #[] 2)) (.slice (some ⟨W.heap.size + 1, 0, none⟩) 0 0) v2 v3 [] l2 l3 := h.lit1 _ (by simp)
theorem PF.lit1c {o o' : Obj} (h : PF w g r cs ((W.alloc o).alloc o') v1 v2 v3 l1 l2 l3) : PF w g r cs (((W.alloc o).alloc o').alloc (.cells #[] 2)) (.slice (some ⟨W.heap.size + 1 + 1, 0, none⟩) 0 0) v2 v3 [] l2 l3 := h.lit1 _ (by simp)
theorem PF.app1 {b n c : Nat} {u : Value} {m : List Int} (h : PF w g r cs W (.slice (some ⟨b, 0, none⟩) n c) v2 v3 l1 l2 l3) (hR : (Kd.int .i64).R 2 W1 w.heap.size (fun _ => True) u m) (hB : Below w.heap.size w W1) (hg : W.grownBy W1 (Value.slice (some ⟨b, 0, none⟩) n c).ownBlock) : PF w g r cs W1 u v2 v3 m l2 l3 := by
  obtain ⟨cells, hc⟩ := Kd.R_typed h.r1 b rfl
  have hg' : W.grownBy W1 (some b) := hg
  refine ⟨hB, blk_grown h.box hg' (fun e => ?_), blk_grown h.res hg' (fun e => ?_), hR, Kd.R_grown1 h.r2 rfl hg (Kd.R_ne h.r2 hc (by decide)), Kd.R_grown1 h.r3 rfl hg (Kd.R_ne h.r3 hc (by decide))⟩
  · injection e with e
    have h1 := h.box
    rw [e, hc] at h1
    injection h1 with h1
    injection h1 with _ h1
    exact absurd h1 (by decide)
  · injection e with e
    have h1 := h.res
    rw [e, hc] at h1
    injection h1 with h1
    injection h1 with _ h1
    exact absurd h1 (by decide)
theorem PF.lit2 (h : PF w g r cs W v1 v2 v3 l1 l2 l3) (b : Nat) (hb : b = W.heap.size) : PF w g r cs (W.alloc (.cells #[] 9)) v1 (.slice (some ⟨b, 0, none⟩) 0 0) v3 l1 [] l3 := by
  subst hb
  have h' := h.alloc (.cells #[] 9)
  exact { h' with r2 := R_empty _ _ _ _ h.below.size }
theorem PF.lit2a (h : PF w g r cs W v1 v2 v3 l1 l2 l3) : PF w g r cs (W.alloc (.cells #[] 9)) v1 (.slice (some ⟨W.heap.size, 0, none⟩) 0 0) v3 l1 [] l3 := h.lit2 _ rfl
theorem PF.lit2b {o : Obj} (h : PF w g r cs (W.alloc o) v1 v2 v3 l1 l2 l3) : PF w g r cs ((W.alloc o).alloc (.cells #[] 9)) v1 (.slice (some ⟨W.heap.size + 1, 0, none⟩) 0 0) v3 l1 [] l3 := h.lit2 _ (by simp)
theorem PF.lit2c {o o' : Obj} (h : PF w g r cs ((W.alloc o).alloc o') v1 v2 v3 l1 l2 l3) : PF w g r cs (((W.alloc o).alloc o').alloc (.cells #[] 9)) v1 (.slice (some ⟨W.heap.size + 1 + 1, 0, none⟩) 0 0) v3 l1 [] l3 := h.lit2 _ (by simp)
theorem PF.app2 {b n c : Nat} {u : Value} {m : List ByteArray} (h : PF w g r cs W v1 (.slice (some ⟨b, 0, none⟩) n c) v3 l1 l2 l3) (hR : Kd.string.R 9 W1 w.heap.size (fun _ => True) u m) (hB : Below w.heap.size w W1) (hg : W.grownBy W1 (Value.slice (some ⟨b, 0, none⟩) n c).ownBlock) : PF w g r cs W1 v1 u v3 l1 m l3 := by
  obtain ⟨cells, hc⟩ := Kd.R_typed h.r2 b rfl
  have hg' : W.grownBy W1 (some b) := hg
  refine ⟨hB, blk_grown h.box hg' (fun e => ?_), blk_grown h.res hg' (fun e => ?_), Kd.R_grown1 h.r1 rfl hg (Kd.R_ne h.r1 hc (by decide)), hR, Kd.R_grown1 h.r3 rfl hg (Kd.R_ne h.r3 hc (by decide))⟩
  · injection e with e
    have h1 := h.box
    rw [e, hc] at h1
    injection h1 with h1
    injection h1 with _ h1
    exact absurd h1 (by decide)
  · injection e with e
    have h1 := h.res
    rw [e, hc] at h1
    injection h1 with h1
    injection h1 with _ h1
    exact absurd h1 (by decide)
theorem PF.lit3 (h : PF w g r cs W v1 v2 v3 l1 l2 l3) (b : Nat) (hb : b = W.heap.size) : PF w g r cs (W.alloc (.cells #[] 3)) v1 v2 (.slice (some ⟨b, 0, none⟩) 0 0) l1 l2 [] := by
  subst hb
  have h' := h.alloc (.cells #[] 3)
  exact { h' with r3 := R_empty _ _ _ _ h.below.size }
theorem PF.lit3a (h : PF w g r cs W v1 v2 v3 l1 l2 l3) : PF w g r cs (W.alloc (.cells #[] 3)) v1 v2 (.slice (some ⟨W.heap.size, 0, none⟩) 0 0) l1 l2 [] := h.lit3 _ rfl
theorem PF.lit3b {o : Obj} (h : PF w g r cs (W.alloc o) v1 v2 v3 l1 l2 l3) : PF w g r cs ((W.alloc o).alloc (.cells #[] 3)) v1 v2 (.slice (some ⟨W.heap.size + 1, 0, none⟩) 0 0) l1 l2 [] := h.lit3 _ (by simp)
theorem PF.lit3c {o o' : Obj} (h : PF w g r cs ((W.alloc o).alloc o') v1 v2 v3 l1 l2 l3) : PF w g r cs (((W.alloc o).alloc o').alloc (.cells #[] 3)) v1 v2 (.slice (some ⟨W.heap.size + 1 + 1, 0, none⟩) 0 0) l1 l2 [] := h.lit3 _ (by simp)
theorem PF.app3 {b n c : Nat} {u : Value} {m : List Int} (h : PF w g r cs W v1 v2 (.slice (some ⟨b, 0, none⟩) n c) l1 l2 l3) (hR : (Kd.int .i64).R 3 W1 w.heap.size (fun _ => True) u m) (hB : Below w.heap.size w W1) (hg : W.grownBy W1 (Value.slice (some ⟨b, 0, none⟩) n c).ownBlock) : PF w g r cs W1 v1 v2 u l1 l2 m := by
  obtain ⟨cells, hc⟩ := Kd.R_typed h.r3 b rfl
  have hg' : W.grownBy W1 (some b) := hg
  refine ⟨hB, blk_grown h.box hg' (fun e => ?_), blk_grown h.res hg' (fun e => ?_), Kd.R_grown1 h.r1 rfl hg (Kd.R_ne h.r1 hc (by decide)), Kd.R_grown1 h.r2 rfl hg (Kd.R_ne h.r2 hc (by decide)), hR⟩
  · injection e with e
    have h1 := h.box
    rw [e, hc] at h1
    injection h1 with h1
    injection h1 with _ h1
    exact absurd h1 (by decide)
  · injection e with e
    have h1 := h.res
    rw [e, hc] at h1
    injection h1 with h1
    injection h1 with _ h1
    exact absurd h1 (by decide)
theorem PF.step1 {ops : Array Oper} {o : Oper} {a : Act} {Q : Exit → Act → World → Prop} {Kc : Act → World → Prop} {b : Nat} {A : Option Addr} {c : Nat} {l : List Int} (s x : Operand) (h : PF w g r cs W (.slice (some ⟨b, 0, none⟩) 0 0) v2 v3 [] l2 l3) (hw : Region.wanted o (yielded ops a.tmps) = true)
    (ho : o.op = .call { callee := .builtin .append, args := #[s, x], argTypes := #[38, 38] }) (hs : a.eval s = .slice (some ⟨b, 0, none⟩) 0 0) (hx : a.eval x = .slice A l.length c) (hC : (Kd.int .i64).C w A l.length l) (hl : l.length ≤ 1000000)
    (hK : ∀ B d W1, PF w g r cs W1 (.slice B l.length d) v2 v3 l l2 l3 → Kc (a.put o.dst (.slice B l.length d)) W1) : if Region.wanted o (yielded ops a.tmps) = true then Oper.wp Tryz.prog o a W Kc Q else Kc (a.put o.dst undef) W := by
  refine Kd.R_append_rows_step (Kd.int .i64) (Rr := fun x cs => cs = [.int .i64 x]) (w0 := w) w.heap.size hw s x 38 2 (.int .i64 0) 8 ho Tryz.underlying38 info_i64 rfl (by decide) (by omega) _ [] l A l.length c (fun _ => True) (fun _ => False) hs hx h.r1 (Kd.C_below hC h.below) (fun _ _ h => h) (fun _ h => h.elim) (fun _ _ => trivial) h.below h.below.size (by simp; omega) ?_
  intro u W1 hR hB hg _
  obtain ⟨B, d, rfl⟩ := Kd.R_slice hR
  exact hK B d W1 (h.app1 hR hB hg)
theorem PF.step2 {ops : Array Oper} {o : Oper} {a : Act} {Q : Exit → Act → World → Prop} {Kc : Act → World → Prop} {b : Nat} {A : Option Addr} {c : Nat} {l : List ByteArray} (s x : Operand) (h : PF w g r cs W v1 (.slice (some ⟨b, 0, none⟩) 0 0) v3 l1 [] l3) (hw : Region.wanted o (yielded ops a.tmps) = true)
    (ho : o.op = .call { callee := .builtin .append, args := #[s, x], argTypes := #[39, 39] }) (hs : a.eval s = .slice (some ⟨b, 0, none⟩) 0 0) (hx : a.eval x = .slice A l.length c) (hC : Kd.string.C w A l.length l) (hl : l.length ≤ 1000000)
    (hK : ∀ B d W1, PF w g r cs W1 v1 (.slice B l.length d) v3 l1 l l3 → Kc (a.put o.dst (.slice B l.length d)) W1) : if Region.wanted o (yielded ops a.tmps) = true then Oper.wp Tryz.prog o a W Kc Q else Kc (a.put o.dst undef) W := by
  refine Kd.R_append_rows_step Kd.string (Rr := fun x cs => cs = [.string x]) (w0 := w) w.heap.size hw s x 39 9 (.string ByteArray.empty) 16 ho Tryz.underlying39 info_str rfl (by decide) (by omega) _ [] l A l.length c (fun _ => True) (fun _ => False) hs hx h.r2 (Kd.C_below hC h.below) (fun _ _ h => h) (fun _ h => h.elim) (fun _ _ => trivial) h.below h.below.size (by simp; omega) ?_
  intro u W1 hR hB hg _
  obtain ⟨B, d, rfl⟩ := Kd.R_slice hR
  exact hK B d W1 (h.app2 hR hB hg)
theorem PF.step3 {ops : Array Oper} {o : Oper} {a : Act} {Q : Exit → Act → World → Prop} {Kc : Act → World → Prop} {b : Nat} {A : Option Addr} {c : Nat} {l : List Int} (s x : Operand) (h : PF w g r cs W v1 v2 (.slice (some ⟨b, 0, none⟩) 0 0) l1 l2 []) (hw : Region.wanted o (yielded ops a.tmps) = true)
    (ho : o.op = .call { callee := .builtin .append, args := #[s, x], argTypes := #[40, 40] }) (hs : a.eval s = .slice (some ⟨b, 0, none⟩) 0 0) (hx : a.eval x = .slice A l.length c) (hC : (Kd.int .i64).C w A l.length l) (hl : l.length ≤ 1000000)
    (hK : ∀ B d W1, PF w g r cs W1 v1 v2 (.slice B l.length d) l1 l2 l → Kc (a.put o.dst (.slice B l.length d)) W1) : if Region.wanted o (yielded ops a.tmps) = true then Oper.wp Tryz.prog o a W Kc Q else Kc (a.put o.dst undef) W := by
  refine Kd.R_append_rows_step (Kd.int .i64) (Rr := fun x cs => cs = [.int .i64 x]) (w0 := w) w.heap.size hw s x 40 3 (.int .i64 0) 8 ho Tryz.underlying40 info_int rfl (by decide) (by omega) _ [] l A l.length c (fun _ => True) (fun _ => False) hs hx h.r3 (Kd.C_below hC h.below) (fun _ _ h => h) (fun _ h => h.elim) (fun _ _ => trivial) h.below h.below.size (by simp; omega) ?_
  intro u W1 hR hB hg _
  obtain ⟨B, d, rfl⟩ := Kd.R_slice hR
  exact hK B d W1 (h.app3 hR hB hg)
theorem PF.done {n : Node} (h : PF w g r cs W v1 v2 v3 n.ints n.texts n.kids) (hr : w.heap.size ≤ r) :
    kNode.M ((((W.setCell ⟨r, 0, none⟩ (.int .i64 n.kind)).setCell ⟨r, 1, none⟩ v1).setCell ⟨r, 2, none⟩ v2).setCell ⟨r, 3, none⟩ v3) w.heap.size (fun _ => True) n [.int .i64 n.kind, v1, v2, v3] ∧
    Below w.heap.size w ((((W.setCell ⟨r, 0, none⟩ (.int .i64 n.kind)).setCell ⟨r, 1, none⟩ v1).setCell ⟨r, 2, none⟩ v2).setCell ⟨r, 3, none⟩ v3) := by
  have hb0 := h.res
  have hb1 := blk_set hb0 0 (.int .i64 n.kind)
  have hb2 := blk_set hb1 1 v1
  have hb3 := blk_set hb2 2 v2
  refine ⟨kNode_mkM ?_ ?_ ?_, below_set4 h.below hr⟩
  · exact Kd.R_set (Kd.R_set (Kd.R_set (Kd.R_set h.r1 hb0 (by decide) _ _) hb1 (by decide) _ _) hb2 (by decide) _ _) hb3 (by decide) _ _
  · exact Kd.R_set (Kd.R_set (Kd.R_set (Kd.R_set h.r2 hb0 (by decide) _ _) hb1 (by decide) _ _) hb2 (by decide) _ _) hb3 (by decide) _ _
  · exact Kd.R_set (Kd.R_set (Kd.R_set (Kd.R_set h.r3 hb0 (by decide) _ _) hb1 (by decide) _ _) hb2 (by decide) _ _) hb3 (by decide) _ _
end
set_option maxRecDepth 100000 in
set_option maxHeartbeats 4000000 in
theorem rcopy_any (n : Node) (A1 : Option Addr) (c1 : Nat) (A2 : Option Addr) (c2 : Nat) (A3 : Option Addr) (c3 : Nat) (w : World) (h : NodeC w n A1 c1 A2 c2 A3 c3) (hs : Small n) :
    Calls Tryz.prog 31 #[.agg #[.int .i64 n.kind, .slice A1 n.ints.length c1, .slice A2 n.texts.length c2, .slice A3 n.kids.length c3]] w (CopyPost n w) := by
  have HN := Aside0.mk h
  have HS := Aside0.mk hs
  have HP : Aside0 (PF w w.heap.size (w.heap.size + 1) #[.int .i64 n.kind, .slice A1 n.ints.length c1, .slice A2 n.texts.length c2, .slice A3 n.kids.length c3] ((w.alloc (.cells #[.int .i64 n.kind, .slice A1 n.ints.length c1, .slice A2 n.texts.length c2, .slice A3 n.kids.length c3] 42)).alloc (.cells #[.int .i64 0, .slice none 0 0, .slice none 0 0, .slice none 0 0] 42)) (.slice none 0 0) (.slice none 0 0) (.slice none 0 0) [] [] []) := ⟨by
    have b1 := below_alloc (Below.refl w.heap.size w) (.cells #[.int .i64 n.kind, .slice A1 n.ints.length c1, .slice A2 n.texts.length c2, .slice A3 n.kids.length c3] 42)
    have n1 := heap_alloc_new w (.cells #[.int .i64 n.kind, .slice A1 n.ints.length c1, .slice A2 n.texts.length c2, .slice A3 n.kids.length c3] 42)
    generalize hw1 : w.alloc (.cells #[.int .i64 n.kind, .slice A1 n.ints.length c1, .slice A2 n.texts.length c2, .slice A3 n.kids.length c3] 42) = W1 at b1 n1 ⊢
    have s1 : W1.heap.size = w.heap.size + 1 := by rw [← hw1]; simp
    have b2 := below_alloc (Below.refl W1.heap.size W1) (.cells #[.int .i64 0, .slice none 0 0, .slice none 0 0, .slice none 0 0] 42)
    have n2 := heap_alloc_new W1 (.cells #[.int .i64 0, .slice none 0 0, .slice none 0 0, .slice none 0 0] 42)
    rw [s1] at n2
    exact ⟨below_step b1 b2, (b2.block _ (by omega)).trans n1, n2, Kd.R_nil _ _ _ _ _, Kd.R_nil _ _ _ _ _, Kd.R_nil _ _ _ _ _⟩⟩
  have hu := Tryz.underlying42
  clear h hs
  have hL0 := fun (W : World) (h : Lives 4 (w.heap.size + 1) W) => h.at 0 (by omega)
  have hL1 := fun (W : World) (h : Lives 4 (w.heap.size + 1) W) => h.at 1 (by omega)
  have hL2 := fun (W : World) (h : Lives 4 (w.heap.size + 1) W) => h.at 2 (by omega)
  have hL3 := fun (W : World) (h : Lives 4 (w.heap.size + 1) W) => h.at 3 (by omega)
  go_enter Tryz.func31, Tryz.ntmps31
  go_wp2_with fail
  generalize (w.alloc (.cells #[.int .i64 n.kind, .slice A1 n.ints.length c1, .slice A2 n.texts.length c2, .slice A3 n.kids.length c3] 42)).alloc (.cells #[.int .i64 0, .slice none 0 0, .slice none 0 0, .slice none 0 0] 42) = W0 at HP ⊢
  go_region_held3 (fun W => W.cell? ⟨w.heap.size, 0, none⟩ = some (.int .i64 n.kind) ∧ W.cell? ⟨w.heap.size, 1, none⟩ = some (.slice A1 n.ints.length c1) ∧ W.cell? ⟨w.heap.size, 2, none⟩ = some (.slice A2 n.texts.length c2) ∧ W.cell? ⟨w.heap.size, 3, none⟩ = some (.slice A3 n.kids.length c3) ∧ Lives 4 (w.heap.size + 1) W)
    (first
      | (go_split_ands
         refine ⟨?_, ?_, ?_, ?_, ?_⟩
         all_goals first
           | with_reducible exact HP.out.cell _ rfl
           | with_reducible exact HP.out.lives
           | with_reducible exact HP.out.drew.cell _ rfl
           | with_reducible exact HP.out.drew.lives
           | with_reducible exact (HP.out.alloc _).cell _ rfl
           | with_reducible exact (HP.out.alloc _).lives
           | with_reducible exact (HP.out.alloc _).drew.cell _ rfl
           | with_reducible exact (HP.out.alloc _).drew.lives
           | with_reducible exact ((HP.out.alloc _).alloc _).cell _ rfl
           | with_reducible exact ((HP.out.alloc _).alloc _).lives
           | with_reducible exact ((HP.out.alloc _).alloc _).drew.cell _ rfl
           | with_reducible exact ((HP.out.alloc _).alloc _).drew.lives
           | with_reducible exact (((HP.out.alloc _).alloc _).alloc _).cell _ rfl
           | with_reducible exact (((HP.out.alloc _).alloc _).alloc _).lives
           | with_reducible exact (((HP.out.alloc _).alloc _).alloc _).drew.cell _ rfl
           | with_reducible exact (((HP.out.alloc _).alloc _).alloc _).drew.lives
           | with_reducible exact far_set (far_set (far_set (far_set (by assumption) _ _ (by simp) _) _ _ (by simp) _) _ _ (by simp) _) _ _ (by simp) _
           | with_reducible exact Lives.set (Lives.set (Lives.set (Lives.set (by assumption) _ _) _ _) _ _) _ _
           | (simp; done)))
    (first
      | (refine' PF.step1 (.tmp 5) (.tmp 7) ?hP ?hw ?ho ?hs ?hx HN.out.i HS.out.1 ?_; (case hw => rfl); (case ho => rfl); (case hs => rfl); (case hx => rfl); (case hP => first | with_reducible exact HP.out | with_reducible exact (HP.out).drew | with_reducible exact HP.out.lit1a | with_reducible exact (HP.out.lit1a).drew | with_reducible exact HP.out.lit2a | with_reducible exact (HP.out.lit2a).drew | with_reducible exact HP.out.lit3a | with_reducible exact (HP.out.lit3a).drew | with_reducible exact HP.out.lit1a.lit2b | with_reducible exact (HP.out.lit1a.lit2b).drew | with_reducible exact HP.out.lit1a.lit3b | with_reducible exact (HP.out.lit1a.lit3b).drew | with_reducible exact HP.out.lit2a.lit1b | with_reducible exact (HP.out.lit2a.lit1b).drew | with_reducible exact HP.out.lit2a.lit3b | with_reducible exact (HP.out.lit2a.lit3b).drew | with_reducible exact HP.out.lit3a.lit1b | with_reducible exact (HP.out.lit3a.lit1b).drew | with_reducible exact HP.out.lit3a.lit2b | with_reducible exact (HP.out.lit3a.lit2b).drew | with_reducible exact HP.out.lit1a.lit2b.lit3c | with_reducible exact (HP.out.lit1a.lit2b.lit3c).drew | with_reducible exact HP.out.lit1a.lit3b.lit2c | with_reducible exact (HP.out.lit1a.lit3b.lit2c).drew | with_reducible exact HP.out.lit2a.lit1b.lit3c | with_reducible exact (HP.out.lit2a.lit1b.lit3c).drew | with_reducible exact HP.out.lit2a.lit3b.lit1c | with_reducible exact (HP.out.lit2a.lit3b.lit1c).drew | with_reducible exact HP.out.lit3a.lit1b.lit2c | with_reducible exact (HP.out.lit3a.lit1b.lit2c).drew | with_reducible exact HP.out.lit3a.lit2b.lit1c | with_reducible exact (HP.out.lit3a.lit2b.lit1c).drew); intro B1 d1 w1 hP; replace HP := Aside0.mk hP; clear hP)
      | (refine' PF.step2 (.tmp 9) (.tmp 11) ?hP ?hw ?ho ?hs ?hx HN.out.t HS.out.2.1 ?_; (case hw => rfl); (case ho => rfl); (case hs => rfl); (case hx => rfl); (case hP => first | with_reducible exact HP.out | with_reducible exact (HP.out).drew | with_reducible exact HP.out.lit1a | with_reducible exact (HP.out.lit1a).drew | with_reducible exact HP.out.lit2a | with_reducible exact (HP.out.lit2a).drew | with_reducible exact HP.out.lit3a | with_reducible exact (HP.out.lit3a).drew | with_reducible exact HP.out.lit1a.lit2b | with_reducible exact (HP.out.lit1a.lit2b).drew | with_reducible exact HP.out.lit1a.lit3b | with_reducible exact (HP.out.lit1a.lit3b).drew | with_reducible exact HP.out.lit2a.lit1b | with_reducible exact (HP.out.lit2a.lit1b).drew | with_reducible exact HP.out.lit2a.lit3b | with_reducible exact (HP.out.lit2a.lit3b).drew | with_reducible exact HP.out.lit3a.lit1b | with_reducible exact (HP.out.lit3a.lit1b).drew | with_reducible exact HP.out.lit3a.lit2b | with_reducible exact (HP.out.lit3a.lit2b).drew | with_reducible exact HP.out.lit1a.lit2b.lit3c | with_reducible exact (HP.out.lit1a.lit2b.lit3c).drew | with_reducible exact HP.out.lit1a.lit3b.lit2c | with_reducible exact (HP.out.lit1a.lit3b.lit2c).drew | with_reducible exact HP.out.lit2a.lit1b.lit3c | with_reducible exact (HP.out.lit2a.lit1b.lit3c).drew | with_reducible exact HP.out.lit2a.lit3b.lit1c | with_reducible exact (HP.out.lit2a.lit3b.lit1c).drew | with_reducible exact HP.out.lit3a.lit1b.lit2c | with_reducible exact (HP.out.lit3a.lit1b.lit2c).drew | with_reducible exact HP.out.lit3a.lit2b.lit1c | with_reducible exact (HP.out.lit3a.lit2b.lit1c).drew); intro B2 d2 w2 hP; replace HP := Aside0.mk hP; clear hP)
      | (refine' PF.step3 (.tmp 13) (.tmp 15) ?hP ?hw ?ho ?hs ?hx HN.out.k HS.out.2.2 ?_; (case hw => rfl); (case ho => rfl); (case hs => rfl); (case hx => rfl); (case hP => first | with_reducible exact HP.out | with_reducible exact (HP.out).drew | with_reducible exact HP.out.lit1a | with_reducible exact (HP.out.lit1a).drew | with_reducible exact HP.out.lit2a | with_reducible exact (HP.out.lit2a).drew | with_reducible exact HP.out.lit3a | with_reducible exact (HP.out.lit3a).drew | with_reducible exact HP.out.lit1a.lit2b | with_reducible exact (HP.out.lit1a.lit2b).drew | with_reducible exact HP.out.lit1a.lit3b | with_reducible exact (HP.out.lit1a.lit3b).drew | with_reducible exact HP.out.lit2a.lit1b | with_reducible exact (HP.out.lit2a.lit1b).drew | with_reducible exact HP.out.lit2a.lit3b | with_reducible exact (HP.out.lit2a.lit3b).drew | with_reducible exact HP.out.lit3a.lit1b | with_reducible exact (HP.out.lit3a.lit1b).drew | with_reducible exact HP.out.lit3a.lit2b | with_reducible exact (HP.out.lit3a.lit2b).drew | with_reducible exact HP.out.lit1a.lit2b.lit3c | with_reducible exact (HP.out.lit1a.lit2b.lit3c).drew | with_reducible exact HP.out.lit1a.lit3b.lit2c | with_reducible exact (HP.out.lit1a.lit3b.lit2c).drew | with_reducible exact HP.out.lit2a.lit1b.lit3c | with_reducible exact (HP.out.lit2a.lit1b.lit3c).drew | with_reducible exact HP.out.lit2a.lit3b.lit1c | with_reducible exact (HP.out.lit2a.lit3b.lit1c).drew | with_reducible exact HP.out.lit3a.lit1b.lit2c | with_reducible exact (HP.out.lit3a.lit1b.lit2c).drew | with_reducible exact HP.out.lit3a.lit2b.lit1c | with_reducible exact (HP.out.lit3a.lit2b.lit1c).drew); intro B3 d3 w3 hP; replace HP := Aside0.mk hP; clear hP))
  all_goals
    clear hL0 hL1 hL2 hL3
    go_wp2
    have h4 := HP.out.lives.set4 (.int .i64 n.kind) (.slice B1 n.ints.length d1) (.slice B2 n.texts.length d2) (.slice B3 n.kids.length d3)
    obtain ⟨hM, hB⟩ := HP.out.done (n := n) (Nat.le_succ _)
    exact bodyPost_ret (v := .agg #[.int .i64 n.kind, .slice B1 n.ints.length d1, .slice B2 n.texts.length d2, .slice B3 n.kids.length d3]) (by simp [results, Tryz.results31, go_sem, h4]) rfl ⟨_, rfl, ⟨_, _, _, rfl, hM⟩, hB⟩
end Go.Proofs.YtggldnbhmebcpaaGreatDoor.L
end
section
namespace Go.Proofs.YtggldnbhmebcpaaGreatDoor.L
open Go.RowKit Go.ChangeShapes Go.WideShapes Go.Proofs.YtggldnbhmebcpaaGreatDoorW.PrintWords Go.Proofs.YtggldnbhmebcpaaGreatDoorW.PrintLast Go.Proofs.YtggldnbhmebcpaaGreatDoorW.PrintMore
attribute [local go_sem] max2_int min2_int max_two min_two max_three min_three max_four min_four
def isPl (n : Nat) (k : Int) : Bool := decide (0 ≤ k ∧ k < (n : Int))
set_option maxRecDepth 100000 in
set_option maxHeartbeats 1000000 in
theorem place_any (A : Option Addr) (c n : Nat) (r k : Int) (w : World) :
    Calls Tryz.prog 17 #[.agg #[.slice A n c, .int .i64 r], .int .i64 k] w fun e w' => e = .returned (.bool (isPl n k)) ∧ Below w.heap.size w w' := by
  have HB := Aside0.mk (below_alloc (Below.refl w.heap.size w) (.cells #[.slice A n c, .int .i64 r] 24))
  have k0 := box_cell w _ rfl #[.slice A n c, .int .i64 r] 24 0 _ rfl
  have hu := Tryz.underlying24
  by_cases h0 : 0 ≤ k
  · by_cases h1 : k < (n : Int)
    · have HE : Aside0 (isPl n k = true) := ⟨decide_eq_true ⟨h0, h1⟩⟩
      have d0 : decide (0 ≤ k) = true := decide_eq_true h0
      have d1 : decide (k < (n : Int)) = true := decide_eq_true h1
      clear h0 h1
      go_enter Tryz.func17, Tryz.ntmps17
      go_wp2
      go_ret
      exact ⟨ret_bool HE.out.symm, HB.out⟩
    · have HE : Aside0 (isPl n k = false) := ⟨decide_eq_false (fun h => h1 h.2)⟩
      have d0 : decide (0 ≤ k) = true := decide_eq_true h0
      have d1 : decide (k < (n : Int)) = false := decide_eq_false h1
      clear h0 h1
      go_enter Tryz.func17, Tryz.ntmps17
      go_wp2
      go_ret
      exact ⟨ret_bool HE.out.symm, HB.out⟩
  · have HE : Aside0 (isPl n k = false) := ⟨decide_eq_false (fun h => h0 h.1)⟩
    have d0 : decide (0 ≤ k) = false := decide_eq_false h0
    clear h0
    go_enter Tryz.func17, Tryz.ntmps17
    go_wp2
    go_ret
    exact ⟨ret_bool HE.out.symm, HB.out⟩
end Go.Proofs.YtggldnbhmebcpaaGreatDoor.L
end
section
namespace Go.Proofs.YtggldnbhmebcpaaGreatDoor.L
open Go.RowKit Go.ChangeShapes Go.WideShapes Go.Proofs.YtggldnbhmebcpaaGreatDoorW.PrintWords Go.Proofs.YtggldnbhmebcpaaGreatDoorW.PrintLast Go.Proofs.YtggldnbhmebcpaaGreatDoorW.PrintMore
attribute [local go_sem] max2_int min2_int max_two min_two max_three min_three max_four min_four
theorem isPl_no {n : Nat} {k : Int} : isPl n k = !noPlace n k := by
  unfold isPl noPlace
  by_cases h0 : 0 ≤ k
  · by_cases h1 : k < (n : Int)
    · rw [decide_eq_true (And.intro h0 h1), decide_eq_false (by omega : ¬ k < 0), decide_eq_false (by omega : ¬ (n : Int) ≤ k)]; rfl
    · rw [decide_eq_false (fun h => h1 h.2), decide_eq_false (by omega : ¬ k < 0), decide_eq_true (by omega : (n : Int) ≤ k)]; rfl
  · rw [decide_eq_false (fun h => h0 h.1), decide_eq_true (by omega : k < 0)]; rfl
set_option maxRecDepth 100000 in
set_option maxHeartbeats 4000000 in
theorem rrefs_any (A : Option Addr) (c : Nat) (s : Scene) (w : World) (h : kNode.C w A s.nodes.length s.nodes) :
    Calls Tryz.prog 82 #[.agg #[.slice A s.nodes.length c, .int .i64 s.root]] w fun e w' => e = .returned (.int .i64 (refsAt s.nodes)) ∧ Below w.heap.size w w' := by
  have HR := Aside0.mk h
  have b0 := h.2.1
  have HB := Aside0.mk (below_alloc (Below.refl w.heap.size w) (.cells #[.slice A s.nodes.length c, .int .i64 s.root] 24))
  have k0 := box_cell w _ rfl #[.slice A s.nodes.length c, .int .i64 s.root] 24 0 _ rfl
  have k1 := box_cell w _ rfl #[.slice A s.nodes.length c, .int .i64 s.root] 24 1 _ rfl
  have HK := Aside0.mk (And.intro HB.out (And.intro k0 k1))
  have hu := Tryz.underlying24
  have hun := Tryz.underlying42
  clear h
  go_enter Tryz.func82, Tryz.ntmps82
  go_wp2
  clear k0 k1
  go_loopw [3] (fun v3 W => ∃ i : Nat, i ≤ s.nodes.length ∧ v3 = .int .i64 i ∧ Aside0 (∀ j, j < i → kidsBad s.nodes.length (nd s.nodes j).kids = false) ∧ Aside0 (Below w.heap.size w W ∧ W.cell? ⟨w.heap.size, 0, none⟩ = some (.slice A s.nodes.length c) ∧ W.cell? ⟨w.heap.size, 1, none⟩ = some (.int .i64 s.root))) (fun v3 _ => s.nodes.length - (intOf v3).toNat)
  case atStart => exact ⟨0, by omega, rfl, ⟨fun j h => by omega⟩, HK⟩
  case round =>
    clear HK
    obtain ⟨i, hi, rfl, HJ, HK⟩ := hrel
    have k0 := HK.out.2.1
    by_cases hlt : i < s.nodes.length
    · obtain ⟨adn, A1, c1, A2, c2, A3, c3, rfl, y0, y1, y2, y3, hN⟩ := at_node HR.out i hlt
      have HN := Aside0.mk hN.k
      have HY := Aside0.mk y3
      have b3 := hN.k.2.1
      clear hN y0 y1 y2 y3
      go_wp2
      go_loopw [4] (fun v4 W => ∃ j : Nat, j ≤ (nd s.nodes i).kids.length ∧ v4 = .int .i64 j ∧ Aside0 (∀ q, q < j → noPlace s.nodes.length (rd (nd s.nodes i).kids (q : Int)) = false) ∧ Aside0 (Below w.heap.size w W ∧ W.cell? ⟨w.heap.size, 0, none⟩ = some (.slice (some adn) s.nodes.length c) ∧ W.cell? ⟨w.heap.size, 1, none⟩ = some (.int .i64 s.root))) (fun v4 _ => (nd s.nodes i).kids.length - (intOf v4).toNat)
      case atStart => exact ⟨0, by omega, rfl, ⟨fun j h => by omega⟩, HK⟩
      case round =>
        clear HK k0
        obtain ⟨j, hj, rfl, HQ, HK⟩ := hrel
        have k0 := HK.out.2.1
        have k1 := HK.out.2.2
        have x3 := pw_cell_below HK.out.1 HY.out
        by_cases hjl : j < (nd s.nodes i).kids.length
        · obtain ⟨adk, rfl, xk⟩ := at_nat (Kd.C_below HN.out HK.out.1) j hjl
          go_wp2
          go_region_held3 (fun W => W.cell? ⟨w.heap.size, 0, none⟩ = some (.slice (some adn) s.nodes.length c) ∧ W.cell? ⟨w.heap.size, 1, none⟩ = some (.int .i64 s.root) ∧ W.cell? ⟨(adn.add (i * 4)).block, (adn.add (i * 4)).off + 3, none⟩ = some (.slice (some adk) (nd s.nodes i).kids.length c3) ∧ W.cell? (adk.add j) = some (.int .i64 (rd (nd s.nodes i).kids (j : Int))))
            (first
              | (go_split_ands
                 refine ⟨?_, ?_, ?_, ?_⟩
                 all_goals first
                   | with_reducible assumption
                   | with_reducible exact pw_cell_below hB (by assumption)
                   | (simp [*]; done)))
            (first
              | (go_at_call 17; refine (place_any (some adn) c s.nodes.length s.root (rd (nd s.nodes i).kids (j : Int)) _).mono ?_; rintro e w2 ⟨rfl, hB2⟩; have hB := hB2))
          have HK2 := Aside0.mk (And.intro (below_step (below_drew HK.out.1) hB2) (And.intro (pw_cell_below hB2 (show wr.drew.cell? _ = _ from k0)) (pw_cell_below hB2 (show wr.drew.cell? _ = _ from k1))))
          rw [isPl_no]
          clear k0 k1 x3 xk
          cases hp : noPlace s.nodes.length (rd (nd s.nodes i).kids (j : Int)) with
          | true =>
            have HE : Aside0 (refsAt s.nodes = (i : Int)) := ⟨by unfold refsAt; rw [refsFrom_at s.nodes 0 i hlt HJ.out (kidsBad_at hjl hp)]; simp⟩
            clear hp
            go_wp2
            go_ret
            exact ⟨ret_int HE.out.symm, HK2.out.1⟩
          | false =>
            have HQ2 := Aside0.mk (ext_lt HQ.out hp)
            clear hp
            go_wp2
            go_roundw
            case rel => exact ⟨j + 1, by omega, by go_num, HQ2, HK2⟩
            case measure => simp [intOf]; omega
        · obtain rfl : j = (nd s.nodes i).kids.length := by omega
          have HJ2 := Aside0.mk (ext_lt HJ.out (kidsBad_no (Nat.le_refl _) HQ.out))
          go_wp2
          go_roundw
          case rel => exact ⟨i + 1, by omega, by go_num, HJ2, HK⟩
          case measure => simp [intOf]; omega
    · obtain rfl : i = s.nodes.length := by omega
      have HE : Aside0 (refsAt s.nodes = -1) := ⟨refsFrom_no s.nodes 0 HJ.out⟩
      go_wp2
      go_ret
      exact ⟨ret_int HE.out.symm, HK.out.1⟩
end Go.Proofs.YtggldnbhmebcpaaGreatDoor.L
end
section
-- PRINTED BY print.sh 35421559b90ae4d0a3588c463048766b98c2df88dd9212a6774a882060cdf62d: not written by this session
namespace Go.Proofs.YtggldnbhmebcpaaGreatDoor.PDeltaMakes
open Go.RowKit Go.Proofs.YtggldnbhmebcpaaGreatDoorW.PrintWords Go.Proofs.YtggldnbhmebcpaaGreatDoorW.PrintLast Go.Proofs.YtggldnbhmebcpaaGreatDoorW.PrintMore
attribute [local go_sem] max2_int min2_int max_two min_two max_three min_three max_four min_four   -- for this text's walks alone
set_option linter.unusedVariables false
set_option linter.unusedSimpArgs false
def errW : Option Int → Value
 | none => .nilIface
 | some c => .iface 0 (.int .i64 c)
theorem errW_none : errW none = .nilIface := rfl
theorem errW_some (c : Int) : errW (some c) = .iface 0 (.int .i64 c) := rfl

theorem info3 : (Tryz.prog.info? 3).map (fun i => (i.zero, i.size, i.bytes)) = some (some (.int .i64 0), 1, 8) := by kernel_rfl
theorem info4 : (Tryz.prog.info? 4).map (fun i => (i.zero, i.size, i.bytes)) = some (some (.bool false), 1, 1) := by kernel_rfl
theorem info21 : (Tryz.prog.info? 21).map (fun i => (i.zero, i.size, i.bytes)) = some (some (.int .i32 0), 1, 4) := by kernel_rfl
structure S42 where
 f0 : Int
 f1 : (List Int)
 f2 : (List ByteArray)
 f3 : (List Int)
def z42 : S42 := ⟨(0 : Int), ([] : List Int), ([] : List ByteArray), ([] : List Int)⟩
def k42 : Kd S42 := Kd.iso (Kd.pair (Kd.int .i64) (Kd.pair (Kd.slice 2 (Kd.int .i64)) (Kd.pair (Kd.slice 9 Kd.string) (Kd.slice 3 (Kd.int .i64))))) (fun x : S42 => (x.f0, x.f1, x.f2, x.f3))
theorem k42_open {w : World} {x : S42} {cs : List Value} (h : k42.K w x cs) : ∃ A1 c1 A2 c2 A3 c3, cs = [.int .i64 x.f0, .slice A1 x.f1.length c1, .slice A2 x.f2.length c2, .slice A3 x.f3.length c3] ∧ x.f1.length ≤ c1 ∧ (Kd.int .i64).C w A1 x.f1.length x.f1 ∧ x.f2.length ≤ c2 ∧ Kd.string.C w A2 x.f2.length x.f2 ∧ x.f3.length ≤ c3 ∧ (Kd.int .i64).C w A3 x.f3.length x.f3 := by
 obtain ⟨_, _, rfl, rfl, ⟨_, _, rfl, ⟨A1, c1, rfl, l1, g1⟩, ⟨_, _, rfl, ⟨A2, c2, rfl, l2, g2⟩, ⟨A3, c3, rfl, l3, g3⟩⟩⟩⟩ := h
 exact ⟨A1, c1, A2, c2, A3, c3, rfl, l1, g1, l2, g2, l3, g3⟩
def rd_T42 (xs : List S42) (i : Int) : S42 := xs.getD i.toNat z42
theorem at_T42 {w : World} {A : Option Addr} {n : Nat} {xs : List S42} (h : Kd.C k42 w A n xs) (i : Int) (h0 : 0 ≤ i) (h1 : i < n) : ∃ ad A1 c1 A2 c2 A3 c3, A = some ad ∧ w.cell? (ad.add (i.toNat * 4)) = some (.int .i64 (rd_T42 xs i).f0) ∧ w.cell? ⟨(ad.add (i.toNat * 4)).block, (ad.add (i.toNat * 4)).off + 1, none⟩ = some (.slice A1 (rd_T42 xs i).f1.length c1) ∧ w.cell? ⟨(ad.add (i.toNat * 4)).block, (ad.add (i.toNat * 4)).off + 2, none⟩ = some (.slice A2 (rd_T42 xs i).f2.length c2) ∧ w.cell? ⟨(ad.add (i.toNat * 4)).block, (ad.add (i.toNat * 4)).off + 3, none⟩ = some (.slice A3 (rd_T42 xs i).f3.length c3) ∧ (rd_T42 xs i).f1.length ≤ c1 ∧ (Kd.int .i64).C w A1 (rd_T42 xs i).f1.length (rd_T42 xs i).f1 ∧ (rd_T42 xs i).f2.length ≤ c2 ∧ Kd.string.C w A2 (rd_T42 xs i).f2.length (rd_T42 xs i).f2 ∧ (rd_T42 xs i).f3.length ≤ c3 ∧ (Kd.int .i64).C w A3 (rd_T42 xs i).f3.length (rd_T42 xs i).f3 := by
 obtain ⟨ad, c, e, _, hK, hc0⟩ := Kd.C_get h z42 i h0 h1
 have hc : ∀ j u, c[j]? = some u → w.cell? (ad.add (i.toNat * 4 + j)) = some u := hc0
 obtain ⟨A1, c1, A2, c2, A3, c3, rfl, l1, g1, l2, g2, l3, g3⟩ := k42_open hK
 exact ⟨ad, A1, c1, A2, c2, A3, c3, e, hc 0 _ rfl, by rw [← add_field _ _ 1 (by omega)]; exact hc 1 _ rfl, by rw [← add_field _ _ 2 (by omega)]; exact hc 2 _ rfl, by rw [← add_field _ _ 3 (by omega)]; exact hc 3 _ rfl, l1, g1, l2, g2, l3, g3⟩

end Go.Proofs.YtggldnbhmebcpaaGreatDoor.PDeltaMakes
end
section
namespace Go.Proofs.YtggldnbhmebcpaaGreatDoor.L
open Go.RowKit Go.ChangeShapes Go.WideShapes Go.Proofs.YtggldnbhmebcpaaGreatDoorW.PrintWords Go.Proofs.YtggldnbhmebcpaaGreatDoorW.PrintLast Go.Proofs.YtggldnbhmebcpaaGreatDoorW.PrintMore
attribute [local go_sem] max2_int min2_int max_two min_two max_three min_three max_four min_four
open Go.Proofs.YtggldnbhmebcpaaGreatDoor.PDeltaMakes
def toS (n : Node) : S42 := ⟨n.kind, n.ints, n.texts, n.kids⟩
def ofS (x : S42) : Node := ⟨x.f0, x.f1, x.f2, x.f3⟩
theorem of_to (n : Node) : ofS (toS n) = n := rfl
theorem map_of_to (ns : List Node) : (ns.map toS).map ofS = ns := by
  rw [List.map_map]
  exact (List.map_congr_left (fun x _ => of_to x)).trans (List.map_id _)
theorem C_to {w : World} {A : Option Addr} {n : Nat} {ns : List Node} (h : kNode.C w A n ns) : k42.C w A n (ns.map toS) := by
  refine ⟨by rw [List.length_map]; exact h.1, h.2.1, fun hp => ?_⟩
  obtain ⟨ad, ha, hc⟩ := h.2.2 hp
  refine ⟨ad, ha, fun j p hj => ?_⟩
  rw [List.getElem?_map] at hj
  obtain ⟨x, hx, rfl⟩ := Option.map_eq_some_iff.1 hj
  exact hc j x hx
theorem C_of {w : World} {A : Option Addr} {n : Nat} {xs : List S42} (h : k42.C w A n xs) : kNode.C w A n (xs.map ofS) := by
  refine ⟨by rw [List.length_map]; exact h.1, h.2.1, fun hp => ?_⟩
  obtain ⟨ad, ha, hc⟩ := h.2.2 hp
  refine ⟨ad, ha, fun j p hj => ?_⟩
  rw [List.getElem?_map] at hj
  obtain ⟨x, hx, rfl⟩ := Option.map_eq_some_iff.1 hj
  exact hc j x hx
theorem rd_to (ns : List Node) (i : Int) : rd_T42 (ns.map toS) i = toS (nd ns i.toNat) := by
  unfold rd_T42 nd
  rw [List.getD_eq_getElem?_getD, List.getD_eq_getElem?_getD, List.getElem?_map]
  cases ns[i.toNat]? <;> rfl
theorem kids_to (ns : List Node) (i : Int) : (rd_T42 (ns.map toS) i).f3 = kids ns i := by rw [rd_to]; rfl
end Go.Proofs.YtggldnbhmebcpaaGreatDoor.L
end
section
namespace Go.Proofs.YtggldnbhmebcpaaGreatDoor.L
open Go.RowKit Go.ChangeShapes Go.WideShapes Go.Proofs.YtggldnbhmebcpaaGreatDoorW.PrintWords Go.Proofs.YtggldnbhmebcpaaGreatDoorW.PrintLast Go.Proofs.YtggldnbhmebcpaaGreatDoorW.PrintMore
attribute [local go_sem] max2_int min2_int max_two min_two max_three min_three max_four min_four
open Go.Proofs.YtggldnbhmebcpaaGreatDoor.PDeltaMakes
theorem C_len {w : World} {A : Option Addr} {xs : List S42} (h : k42.C w A xs.length xs) : kNode.C w A (xs.map ofS).length (xs.map ofS) := by rw [List.length_map]; exact C_of h
def _root_.Go.Proofs.YtggldnbhmebcpaaGreatDoor.PDeltaMakes.dioramaref09_Place.f (xs : List S42) (_ : Int) (a : Int) : Option Bool := some (isPl xs.length a)
def _root_.Go.Proofs.YtggldnbhmebcpaaGreatDoor.PDeltaMakes.dioramaref09_Refs.f (_ : Nat) (xs : List S42) (_ : Int) : Option Int := some (refsAt (xs.map ofS))
theorem _root_.Go.Proofs.YtggldnbhmebcpaaGreatDoor.PDeltaMakes.dioramaref09_Place.calls (A0_0 : Option Addr) (c0_0 : Nat) (l0_0 : List S42) (a0_1 : Int) (a1 : Int) (r : Bool) (w : World) (hr0_0 : Kd.C k42 w A0_0 l0_0.length l0_0) (hc0_0 : l0_0.length ≤ c0_0) (h : dioramaref09_Place.f l0_0 a0_1 a1 = some r) :
    Calls Tryz.prog 17 #[.agg #[.slice A0_0 l0_0.length c0_0, .int .i64 a0_1], .int .i64 a1] w fun e w' => e = .returned (.bool r) ∧ Below w.heap.size w w' := by
  obtain rfl := Option.some.inj h
  exact place_any A0_0 c0_0 l0_0.length a0_1 a1 w
theorem _root_.Go.Proofs.YtggldnbhmebcpaaGreatDoor.PDeltaMakes.dioramaref09_Refs.calls (k : Nat) (A0_0 : Option Addr) (c0_0 : Nat) (l0_0 : List S42) (a0_1 : Int) (r : Int) (w : World) (hr0_0 : Kd.C k42 w A0_0 l0_0.length l0_0) (hc0_0 : l0_0.length ≤ c0_0) (h : dioramaref09_Refs.f k l0_0 a0_1 = some r) :
    Calls Tryz.prog 82 #[.agg #[.slice A0_0 l0_0.length c0_0, .int .i64 a0_1]] w fun e w' => e = .returned (.int .i64 r) ∧ Below w.heap.size w w' := by
  obtain rfl := Option.some.inj h
  have := rrefs_any A0_0 c0_0 ⟨l0_0.map ofS, a0_1⟩ w (C_len hr0_0)
  rw [show (Scene.mk (l0_0.map ofS) a0_1).nodes.length = l0_0.length from by simp] at this
  exact this
end Go.Proofs.YtggldnbhmebcpaaGreatDoor.L
end
section
-- PRINTED BY print.sh 35421559b90ae4d0a3588c463048766b98c2df88dd9212a6774a882060cdf62d: not written by this session
namespace Go.Proofs.YtggldnbhmebcpaaGreatDoor.PDeltaMakes
open Go.RowKit Go.Proofs.YtggldnbhmebcpaaGreatDoorW.PrintWords Go.Proofs.YtggldnbhmebcpaaGreatDoorW.PrintLast Go.Proofs.YtggldnbhmebcpaaGreatDoorW.PrintMore
attribute [local go_sem] max2_int min2_int max_two min_two max_three min_three max_four min_four   -- for this text's walks alone
set_option linter.unusedVariables false
set_option linter.unusedSimpArgs false
def dioramaref09_Led.l0 : Nat → List Bool → List Int → List (S42) → Int → Option (List Bool)
 | 0, _, _, _, _ => none
 | k + 1, x5, x6, x519000, x519001 => if (x6.length : Int) > 0 then (if 0 < (x6.length : Int) then (if 1 ≤ (x6.length : Int) then ((some (x6.drop (1 : Int).toNat : List Int)).bind fun y530 => (if 0 ≤ (rd x6 0) then (if (rd x6 0) < (x5.length : Int) then (if (rdOf false x5 (rd x6 0) = true) then (dioramaref09_Led.l0 k x5 y530 x519000 x519001) else ((some (([] : List Int) : List Int)).bind fun y535 => (if y535.length + y530.length < 17592186044416 then ((some (y535 ++ y530 : List Int)).bind fun y538 => (if (rd x6 0) < (x519000.length : Int) then (if y538.length + ((rd_T42 x519000 (rd x6 0)).f3).length < 17592186044416 then (dioramaref09_Led.l0 k (x5.set ((rd x6 0) : Int).toNat true) (y538 ++ ((rd_T42 x519000 (rd x6 0)).f3)) x519000 x519001) else (none)) else (none))) else (none)))) else (none)) else (none))) else (none)) else (none)) else (some x5)
def dioramaref09_Led.f (k : Nat) (l0_0 : List (S42)) (a0_1 : Int) (a1 : Int) : Option (List Bool) := if 0 ≤ (l0_0.length : Int) then (if ((l0_0.length : Int) : Int).toNat ≤ 281474976710656 then ((some (([] : List Int) : List Int)).bind fun y522 => (if 0 ≤ a1 then (if a1 < (l0_0.length : Int) then (if y522.length + ((rd_T42 l0_0 a1).f3).length < 17592186044416 then (dioramaref09_Led.l0 k (List.replicate ((l0_0.length : Int) : Int).toNat false) (y522 ++ ((rd_T42 l0_0 a1).f3)) l0_0 a0_1) else (none)) else (none)) else (none))) else (none)) else (none)
def dioramaref09_Led.T8 : Bool × List (List Nat × List Nat) := (true, [([], []), ([], []), ([0, 1], [0, 1]), ([], []), ([3], [3]), ([], []), ([4, 5], [4, 5]), ([6], [6]), ([7], [7]), ([2, 8, 2], [2, 8]), ([9, 9, 0, 1, 2, 3, 4, 5, 6, 7, 8, 9], [1, 9])])
def dioramaref09_Led.B8 : List Nat := [0, 0, 3, 0, 8, 0, 56, 120, 248, 511, 1023]
theorem dioramaref09_Led.tab8 : rtab .any (opsOf Tryz.f83 8) = dioramaref09_Led.T8 := by kernel_rfl
theorem dioramaref09_Led.bits8 : waitsOk dioramaref09_Led.T8.2 dioramaref09_Led.B8 = true := by kernel_rfl
set_option maxHeartbeats 8000000 in
set_option maxRecDepth 100000 in
theorem dioramaref09_Led.calls (k : Nat) (A0_0 : Option Addr) (c0_0 : Nat) (l0_0 : List (S42)) (a0_1 : Int) (a1 : Int) (r : List Bool) (w : World) (hr0_0 : Kd.C k42 w A0_0 l0_0.length l0_0) (hc0_0 : l0_0.length ≤ c0_0) (h : dioramaref09_Led.f k l0_0 a0_1 a1 = some r) :
  Calls Tryz.prog 83 #[.agg #[.slice A0_0 l0_0.length c0_0, .int .i64 a0_1], .int .i64 a1] w fun e w' => ∃ v0_ : Value, e = .returned (v0_) ∧ Kd.R Kd.bool 4 w' w.heap.size (fun _ => True) v0_ r ∧ Below w.heap.size w w' := by
 have hu24 := Tryz.underlying24
 have HR0_0 := Aside0.mk hr0_0
 have HC0_0 := Aside0.mk hc0_0
 clear hr0_0 hc0_0
 have HB := Aside0.mk (Below.refl w.heap.size w)
 have H : (if 0 ≤ (l0_0.length : Int) then (if ((l0_0.length : Int) : Int).toNat ≤ 281474976710656 then ((some (([] : List Int) : List Int)).bind fun y522 => (if 0 ≤ a1 then (if a1 < (l0_0.length : Int) then (if y522.length + ((rd_T42 l0_0 a1).f3).length < 17592186044416 then (dioramaref09_Led.l0 k (List.replicate ((l0_0.length : Int) : Int).toNat false) (y522 ++ ((rd_T42 l0_0 a1).f3)) l0_0 a0_1) else (none)) else (none)) else (none))) else (none)) else (none)) = some r := h
 clear h
 by_cases c3 : 0 ≤ (l0_0.length : Int)
 ·rw [if_pos c3] at H
  have c3b0 := eq_true c3
  have c3b1 : decide (0 ≤ (l0_0.length : Int)) = true := decide_eq_true c3
  clear c3
  by_cases c4 : ((l0_0.length : Int) : Int).toNat ≤ 281474976710656
  ·rw [if_pos c4] at H
   have c4b0 := eq_true c4
   have c4b1 : decide (((l0_0.length : Int) : Int).toNat ≤ 281474976710656) = true := decide_eq_true c4
   clear c4
   obtain ⟨y519, hy519⟩ : ∃ y_ : List Bool, y_ = (List.replicate ((l0_0.length : Int) : Int).toNat false) := ⟨_, rfl⟩
   replace H : ((some (([] : List Int) : List Int)).bind fun y522 => (if 0 ≤ a1 then (if a1 < (l0_0.length : Int) then (if y522.length + ((rd_T42 l0_0 a1).f3).length < 17592186044416 then (dioramaref09_Led.l0 k y519 (y522 ++ ((rd_T42 l0_0 a1).f3)) l0_0 a0_1) else (none)) else (none)) else (none))) = some r := by first | (rw [hy519]; with_reducible exact H) | (have H2_ := (Option.bind_some _ _).symm.trans H; rw [hy519]; with_reducible exact H2_) | (have H2_ := (Option.bind_some _ _).symm.trans H; with_reducible exact H2_) | with_reducible exact H | (rw [hy519]; exact H) | exact H
   have Ny519 := Aside0.mk hy519
   clear hy519
   obtain ⟨y522, hy522⟩ : ∃ y_ : List Int, y_ = (([] : List Int)) := ⟨_, rfl⟩
   replace H : (if 0 ≤ a1 then (if a1 < (l0_0.length : Int) then (if y522.length + ((rd_T42 l0_0 a1).f3).length < 17592186044416 then (dioramaref09_Led.l0 k y519 (y522 ++ ((rd_T42 l0_0 a1).f3)) l0_0 a0_1) else (none)) else (none)) else (none)) = some r := by first | (rw [hy522]; with_reducible exact H) | (have H2_ := (Option.bind_some _ _).symm.trans H; rw [hy522]; with_reducible exact H2_) | (have H2_ := (Option.bind_some _ _).symm.trans H; with_reducible exact H2_) | with_reducible exact H | (rw [hy522]; exact H) | exact H
   have Ny522 := Aside0.mk hy522
   clear hy522
   by_cases c5 : 0 ≤ a1
   ·rw [if_pos c5] at H
    have c5b0 : decide (0 ≤ a1) = true := decide_eq_true c5
    clear c5
    by_cases c6 : a1 < (l0_0.length : Int)
    ·rw [if_pos c6] at H
     have c6b0 : decide (a1 < (l0_0.length : Int)) = true := decide_eq_true c6
     clear c6
     by_cases c7 : y522.length + ((rd_T42 l0_0 a1).f3).length < 17592186044416
     ·rw [if_pos c7] at H
      have LMc7 := Aside0.mk c7
      clear c7
      obtain ⟨y526, hy526⟩ : ∃ y_ : List Int, y_ = (y522 ++ ((rd_T42 l0_0 a1).f3)) := ⟨_, rfl⟩
      replace H : (dioramaref09_Led.l0 k y519 y526 l0_0 a0_1) = some r := by first | (rw [hy526]; with_reducible exact H) | (have H2_ := (Option.bind_some _ _).symm.trans H; rw [hy526]; with_reducible exact H2_) | (have H2_ := (Option.bind_some _ _).symm.trans H; with_reducible exact H2_) | with_reducible exact H | (rw [hy526]; exact H) | exact H
      have Ny526 := Aside0.mk hy526
      clear hy526
      have H' := Aside0.mk H
      clear H
      go_enter Tryz.func83, Tryz.ntmps83
      go_wp2_with (first | ((with_reducible refine gate_dst (N := 2) rfl ?_); refine box_event ?hg (N := 2) ?hd (cs := #[.slice A0_0 l0_0.length c0_0, .int .i64 a0_1]) (t := 24) ?hr ?_; (case hd => rfl); (case hg => rfl); (case hr => first | (go_simp; done) | (go_simp; rfl)); intro gb518 hg w8 hbox hb; have n0_ := Aside0.mk (below_step (by repeat (first | (with_reducible first | exact HB.out | apply below_alloc | apply pw_below_drewN | apply below_drew1) | exact HB.out)) hb); have n1_ := Aside0.mk (hbox); have n2_ := Aside0.mk ((by rw [hg]; exact (below_size (by repeat (first | (with_reducible first | exact HB.out | apply below_alloc | apply pw_below_drewN | apply below_drew1) | exact HB.out))) : w.heap.size ≤ gb518)); have n3_ := Aside0.mk ((by rw [hg]; exact (below_size (by repeat (first | (with_reducible first | exact HB.out | apply below_alloc | apply pw_below_drewN | apply below_drew1) | exact HB.out))) : w.heap.size ≤ gb518)); clear HB; have HB := n0_; have BK518 := n1_; have GW518 := n2_; have GE518 := n3_; clear n0_ n1_ n2_ n3_; clear hb hbox hg; have hcz9_0 : w8.cell? ⟨gb518, 0, none⟩ = some (.slice A0_0 l0_0.length c0_0) := (blk_cell BK518.out 0).trans rfl; have hcz9_1 : w8.cell? ⟨gb518, 1, none⟩ = some (.int .i64 a0_1) := (blk_cell BK518.out 1).trans rfl; have hfz9_0 := blk_frozen BK518.out 0; have hfz9_1 := blk_frozen BK518.out 1) | ((with_reducible refine gate_dst (N := 11) rfl ?_); refine Kd.R_make Kd.bool _ 4 rfl (N := 11) rfl 111 _ _ rfl (l0_0.length : Int) rfl rfl Tryz.underlying111 (.bool false) 1 info4 rfl (by decide) (by omega) false (ok := fun _ => True) (okp := fun _ => True) rfl (fun _ hk => hk) trivial (of_decide_eq_true (by first | (with_reducible assumption) | assumption)) (Nat.le_trans (Nat.mul_le_mul_right _ (of_decide_eq_true (by first | (with_reducible assumption) | assumption) : (l0_0.length : Int).toNat ≤ 281474976710656)) (by omega)) (Below.refl _ _) (Nat.le_refl _) ?_; intro v520 w10 ho11 hb hg_ hnew_; clear hg_ hnew_; (first | rw [← Ny519.out] at ho11 | (simp only [Int.reduceToNat] at ho11; rw [← Ny519.out] at ho11)); have n0_ := Aside0.mk (Kd.R_lower ho11 (below_size (by repeat (first | (with_reducible first | exact HB.out | apply below_alloc | apply pw_below_drewN | apply below_drew1 | refine below_set ?_ GE518.out) | exact HB.out)))); have n1_ := Aside0.mk (blk_below (g := gb518) (o := .cells #[.slice A0_0 l0_0.length c0_0, .int .i64 a0_1] 24 (0, 0)) (by (with_reducible repeat (first | refine blk_drewN ?_ _ | refine blk_drew ?_ | refine blk_alloc ?_ _)); exact BK518.out) hb); have n2_ := Aside0.mk (below_step (by repeat (first | (with_reducible first | exact HB.out | apply below_alloc | apply pw_below_drewN | apply below_drew1 | refine below_set ?_ GE518.out) | exact HB.out)) hb); clear BK518; clear HB; have HO521 := n0_; have BK518 := n1_; have HB := n2_; clear n0_ n1_ n2_; clear hb ho11) | ((with_reducible refine gate_dst (N := 12) rfl ?_); refine Kd.R_lit (Kd.int .i64) _ 3 ?hg (N := 12) ?hd (xs := ([] : List Int)) (inner := []) (ok := fun _ => True) (okp := fun _ => True) ?hr ?hp (fun _ hk => hk) trivial (Below.refl _ _) (Nat.le_refl _) (by simp) ?_; (case hd => rfl); (case hg => rfl); (case hr => first | (go_simp; done) | (go_simp; rfl)); (case hp => exact (Reps.none _ _)); intro v523 w12 ho13 hb hg_ hnew_; clear hg_ hnew_; (first | rw [← Ny522.out] at ho13 | (simp only [Int.reduceToNat] at ho13; rw [← Ny522.out] at ho13)); have n0_ := Aside0.mk (Kd.R_below (by (with_reducible repeat (first | apply Kd.R_alloc | apply Kd.R_drewN | apply Kd.R_drew)); exact HO521.out) hb); have n1_ := Aside0.mk (Kd.R_lower ho13 (below_size (by repeat (first | (with_reducible first | exact HB.out | apply below_alloc | apply pw_below_drewN | apply below_drew1 | refine below_set ?_ GE518.out) | exact HB.out)))); have n2_ := Aside0.mk (blk_below (g := gb518) (o := .cells #[.slice A0_0 l0_0.length c0_0, .int .i64 a0_1] 24 (0, 0)) (by (with_reducible repeat (first | refine blk_drewN ?_ _ | refine blk_drew ?_ | refine blk_alloc ?_ _)); exact BK518.out) hb); have n3_ := Aside0.mk (below_step (by repeat (first | (with_reducible first | exact HB.out | apply below_alloc | apply pw_below_drewN | apply below_drew1 | refine below_set ?_ GE518.out) | exact HB.out)) hb); clear HO521; clear BK518; clear HB; have HO521 := n0_; have HO524 := n1_; have BK518 := n2_; have HB := n3_; clear n0_ n1_ n2_ n3_; clear hb ho13; have hcz14_0 : w12.cell? ⟨gb518, 0, none⟩ = some (.slice A0_0 l0_0.length c0_0) := (blk_cell BK518.out 0).trans rfl; have hcz14_1 : w12.cell? ⟨gb518, 1, none⟩ = some (.int .i64 a0_1) := (blk_cell BK518.out 1).trans rfl; have hfz14_0 := blk_frozen BK518.out 0; have hfz14_1 := blk_frozen BK518.out 1; have p525 : 0 ≤ (a1 : Int) := of_decide_eq_true (by first | (with_reducible assumption) | assumption); have q525 : a1 < (l0_0.length : Int) := of_decide_eq_true (by first | (with_reducible assumption) | assumption); obtain ⟨ad525, A525_1, c525_1, A525_2, c525_2, A525_3, c525_3, e525, hx525_0, hx525_1, hx525_2, hx525_3, hl525_1, hi525_1, hl525_2, hi525_2, hl525_3, hi525_3⟩ := at_T42 HR0_0.out a1 p525 q525; cases e525; replace hx525_0 := (HB.out.cell (World.block_lt_of_cell? w _ hx525_0)).trans hx525_0; replace hx525_1 := (HB.out.cell (World.block_lt_of_cell? w _ hx525_1)).trans hx525_1; replace hx525_2 := (HB.out.cell (World.block_lt_of_cell? w _ hx525_2)).trans hx525_2; replace hx525_3 := (HB.out.cell (World.block_lt_of_cell? w _ hx525_3)).trans hx525_3; have HR525_1 := Aside0.mk hi525_1; have HC525_1 := Aside0.mk hl525_1; clear hi525_1 hl525_1; have HR525_2 := Aside0.mk hi525_2; have HC525_2 := Aside0.mk hl525_2; clear hi525_2 hl525_2; have HR525_3 := Aside0.mk hi525_3; have HC525_3 := Aside0.mk hl525_3; clear hi525_3 hl525_3; replace p525 := eq_true p525; replace q525 := eq_true q525) | ((with_reducible refine gate_builtin (b := .append) (xs := #[.tmp 12, .tmp 18]) rfl ?_); at_builtin; refine Kd.R_append_rows (Kd.int .i64) (w0 := w) w.heap.size rfl (.tmp 12) (.tmp 18) 40 3 (.int .i64 0) 8 rfl Tryz.underlying40 info3 rfl (by decide) (by omega) v523 y522 ((rd_T42 l0_0 a1).f3) _ _ _ (fun _ => True) (fun _ => False) rfl rfl ?aO ?aR (fun _ _ h => h) (fun _ h => h.elim) ?aF ?aB ?aS ?aL ?_; (case aR => repeat (first | exact (Kd.C_below HR525_3.out HB.out) | (with_reducible refine Kd.C_alloc ?_ _) | (with_reducible refine Kd.C_drewN ?_ _) | (with_reducible refine Kd.C_drew ?_))); (case aB => exact (by repeat (first | (with_reducible first | exact HB.out | apply below_alloc | apply pw_below_drewN | apply below_drew1 | refine below_set ?_ GE518.out) | exact HB.out))); (case aF => exact (fun _ _ => trivial)); (case aO => exact (by (with_reducible repeat (first | apply Kd.R_alloc | apply Kd.R_drewN | apply Kd.R_drew)); exact HO524.out)); (case aS => exact (below_size (by repeat (first | (with_reducible first | exact HB.out | apply below_alloc | apply pw_below_drewN | apply below_drew1 | refine below_set ?_ GE518.out) | exact HB.out)))); (case aL => have := LMc7.out; omega); intro v527 w15 ho hb hg hat; rw [← Ny526.out] at ho; have n0_ := Aside0.mk (blk_grown (g := gb518) (o := .cells #[.slice (some ad525) l0_0.length c0_0, .int .i64 a0_1] 24 (0, 0)) (by (with_reducible repeat (first | refine blk_drewN ?_ _ | refine blk_drew ?_ | refine blk_alloc ?_ _)); exact BK518.out) hg (Kd.R_ne HO524.out BK518.out (by decide))); have n1_ := Aside0.mk (Kd.R_over' (by (with_reducible repeat (first | apply Kd.R_alloc | apply Kd.R_drewN | apply Kd.R_drew)); exact HO521.out) (Kd.R_typed (by (with_reducible repeat (first | apply Kd.R_alloc | apply Kd.R_drewN | apply Kd.R_drew)); exact HO524.out)) (by decide) hg); have n2_ := Aside0.mk (hb); have n3_ := Aside0.mk (ho); clear BK518; clear HO521; clear HB; clear HO524; have BK518 := n0_; have HO521 := n1_; have HB := n2_; have HO528 := n3_; clear n0_ n1_ n2_ n3_; clear ho hb hg hat))
      go_loopg [6] k (fun kq v6 w' => ∃ (x5_1 : List Bool) (x6_1 : List Int), Aside0 (dioramaref09_Led.l0 kq x5_1 x6_1 l0_0 a0_1 = some r) ∧ Aside0 (kq ≤ k) ∧ Aside0 (Kd.R Kd.bool 4 w' w.heap.size (fun _ => True) v520 x5_1) ∧ Aside0 (Kd.Q (Kd.int .i64) 3 w' w.heap.size (fun _ => True) v6 x6_1) ∧ Aside0 (w'.heap[gb518]? = some (.cells #[(.slice (some ad525) l0_0.length c0_0), .int .i64 a0_1] 24 (0, 0))) ∧ Aside0 (Below w.heap.size w w'))
      case atStart => exact ⟨(y519), (y526), H', ⟨Nat.le_refl _⟩, ⟨by (with_reducible repeat (first | apply Kd.R_alloc | apply Kd.R_drewN | apply Kd.R_drew)); exact HO521.out⟩, ⟨Kd.Q_of_R (by (with_reducible repeat (first | apply Kd.R_alloc | apply Kd.R_drewN | apply Kd.R_drew)); exact HO528.out)⟩, ⟨by (with_reducible repeat (first | refine blk_drewN ?_ _ | refine blk_drew ?_ | refine blk_alloc ?_ _)); exact BK518.out⟩, ⟨by repeat (first | (with_reducible first | exact HB.out | apply below_alloc | apply pw_below_drewN | apply below_drew1 | refine below_set ?_ GE518.out) | exact HB.out)⟩⟩
      case round =>
       clear H'
       try clear p2
       try clear c3
       try clear c3b0
       try clear c3b1
       try clear c4
       try clear c4b0
       try clear c4b1
       try clear c5
       try clear c5b0
       try clear p5
       try clear q5
       try clear hx5
       try clear c6
       try clear c6b0
       try clear c7
       try clear c8
       try clear hcz14_0
       try clear hcz14_1
       try clear hcz9_0
       try clear hcz9_1
       try clear hfz14_0
       try clear hfz14_1
       try clear hfz9_0
       try clear hfz9_1
       try clear hx525_0
       try clear hx525_1
       try clear hx525_2
       try clear hx525_3
       try clear p525
       try clear q525
       obtain ⟨x5_1, x6_1, HA, HK1, HO_5, HO_6, BK518, HB⟩ := hrel
       cases gk with
       | zero => exact absurd HA.out (by simp [dioramaref09_Led.l0])
       | succ k1 =>
        have H := HA.out
        clear HA
        simp only [dioramaref09_Led.l0] at H
        by_cases c16 : (x6_1.length : Int) > 0
        ·rw [if_pos c16] at H
         have c16b0 : decide (0 < (x6_1.length : Int)) = true := decide_eq_true c16
         have c16b1 : decide (0 < x6_1.length) = true := decide_eq_true (by omega)
         clear c16
         by_cases c17 : 0 < (x6_1.length : Int)
         ·rw [if_pos c17] at H
          have c17b0 : decide (0 < (x6_1.length : Int)) = true := decide_eq_true c17
          have c17b1 : decide (0 < x6_1.length) = true := decide_eq_true (by omega)
          clear c17
          by_cases c18 : 1 ≤ (x6_1.length : Int)
          ·rw [if_pos c18] at H
           have c18b0 := eq_true c18
           have c18b1 : decide (1 ≤ (x6_1.length : Int)) = true := decide_eq_true c18
           clear c18
           obtain ⟨y530, hy530⟩ : ∃ y_ : List Int, y_ = (x6_1.drop (1 : Int).toNat) := ⟨_, rfl⟩
           replace H : (if 0 ≤ (rd x6_1 0) then (if (rd x6_1 0) < (x5_1.length : Int) then (if (rdOf false x5_1 (rd x6_1 0) = true) then (dioramaref09_Led.l0 k1 x5_1 y530 l0_0 a0_1) else ((some (([] : List Int) : List Int)).bind fun y535 => (if y535.length + y530.length < 17592186044416 then ((some (y535 ++ y530 : List Int)).bind fun y538 => (if (rd x6_1 0) < (l0_0.length : Int) then (if y538.length + ((rd_T42 l0_0 (rd x6_1 0)).f3).length < 17592186044416 then (dioramaref09_Led.l0 k1 (x5_1.set ((rd x6_1 0) : Int).toNat true) (y538 ++ ((rd_T42 l0_0 (rd x6_1 0)).f3)) l0_0 a0_1) else (none)) else (none))) else (none)))) else (none)) else (none)) = some r := by first | (rw [hy530]; with_reducible exact H) | (have H2_ := (Option.bind_some _ _).symm.trans H; rw [hy530]; with_reducible exact H2_) | (have H2_ := (Option.bind_some _ _).symm.trans H; with_reducible exact H2_) | with_reducible exact H | (rw [hy530]; exact H) | exact H
           have Ny530 := Aside0.mk hy530
           clear hy530
           by_cases c19 : 0 ≤ (rd x6_1 0)
           ·rw [if_pos c19] at H
            have c19b0 : decide (0 ≤ (rd x6_1 0)) = true := decide_eq_true c19
            clear c19
            by_cases c20 : (rd x6_1 0) < (x5_1.length : Int)
            ·rw [if_pos c20] at H
             have c20b0 : decide ((rd x6_1 0) < (x5_1.length : Int)) = true := decide_eq_true c20
             clear c20
             obtain ⟨bq21, hbq21⟩ : ∃ b_ : Bool, b_ = (rdOf false x5_1 (rd x6_1 0)) := ⟨_, rfl⟩
             replace H : (if (bq21 = true) then (dioramaref09_Led.l0 k1 x5_1 y530 l0_0 a0_1) else ((some (([] : List Int) : List Int)).bind fun y535 => (if y535.length + y530.length < 17592186044416 then ((some (y535 ++ y530 : List Int)).bind fun y538 => (if (rd x6_1 0) < (l0_0.length : Int) then (if y538.length + ((rd_T42 l0_0 (rd x6_1 0)).f3).length < 17592186044416 then (dioramaref09_Led.l0 k1 (x5_1.set ((rd x6_1 0) : Int).toNat true) (y538 ++ ((rd_T42 l0_0 (rd x6_1 0)).f3)) l0_0 a0_1) else (none)) else (none))) else (none)))) = some r := by rw [← hbq21] at H; exact H
             have Nbq21 := Aside0.mk hbq21
             clear hbq21
             by_cases c22 : (bq21 = true)
             ·subst c22
              have H1 : (dioramaref09_Led.l0 k1 x5_1 y530 l0_0 a0_1) = some r := by rw [if_pos rfl] at H; exact H
              clear H
              have H := H1
              clear H1
              have H' := Aside0.mk H
              clear H
              obtain ⟨Ao23, co23, eo23, _⟩ := Kd.Q_slice HO_6.out
              subst eo23
              have p529 : 0 ≤ (0 : Int) := (by omega)
              have q529 : 0 < (x6_1.length : Int) := of_decide_eq_true (by first | (with_reducible assumption) | assumption)
              obtain ⟨ad529, e529, hx529_0⟩ := Kd.at_int (Kd.Q_reads' HO_6.out).2.2 0 p529 q529
              cases e529
              have qi529 : (0 < x6_1.length) = True := eq_true (by omega)
              (try rw [show ((0 : Int)).toNat = 0 from rfl] at hx529_0)
              (try rw [Addr.add_zero'] at hx529_0)
              replace p529 := eq_true p529
              replace q529 := eq_true q529
              have q24 : (1 : Int) ≤ ((x6_1.length : Int) : Int) := of_decide_eq_true (by first | (with_reducible assumption) | assumption)
              obtain ⟨i024, hi024, _, hsz24, _⟩ := info_parts info3
              have hcut24 := cut_from (P := Tryz.prog) 40 3 .i64 Tryz.underlying40 hi024 1 hsz24 (some ad529) x6_1.length co23 1 (by omega) q24
              have hr24 := Kd.Q_drop (k := (1 : Int).toNat) HO_6.out (by omega)
              obtain ⟨A24, hA24⟩ : ∃ A1, A1 = (if co23 = (1 : Int).toNat then (some ad529) else ((some ad529) : Option Addr).map (·.add ((1 : Int).toNat * 1))) := ⟨_, rfl⟩
              obtain ⟨c24, hc24⟩ : ∃ c1, c1 = co23 - (1 : Int).toNat := ⟨_, rfl⟩
              have hy24 : y530.length = x6_1.length - (1 : Int).toNat := (by rw [Ny530.out, List.length_drop])
              rw [← Ny530.out] at hr24
              rw [← hy24, ← hA24, ← hc24] at hcut24
              replace hr24 : Kd.Q (Kd.int .i64) 3 wr w.heap.size (fun _ => True) (.slice A24 y530.length c24) y530 := (by rw [hA24, hc24, hy24]; exact hr24)
              have HE24 : Aside0 ((Value.slice A24 y530.length c24).ownBlock = (.slice (some ad529) x6_1.length co23 : Value).ownBlock) := ⟨by rw [hA24]; split <;> (cases ((some ad529) : Option Addr) <;> rfl)⟩
              clear hy24 hi024 hsz24 HO_6 hA24 hc24
              have HO532 := Aside0.mk hr24
              clear hr24
              replace q24 := eq_true q24
              obtain ⟨Ao25, co25, eo25⟩ := Kd.R_slice HO_5.out
              subst eo25
              have p533 : 0 ≤ ((rd x6_1 0) : Int) := of_decide_eq_true (by first | (with_reducible assumption) | assumption)
              have q533 : (rd x6_1 0) < (x5_1.length : Int) := of_decide_eq_true (by first | (with_reducible assumption) | assumption)
              obtain ⟨ad533, e533, hx533_0⟩ := Kd.at_bool (Kd.R_reads' HO_5.out).2.2 (rd x6_1 0) p533 q533
              (try rw [← Nbq21.out] at hx533_0)
              cases e533
              replace p533 := eq_true p533
              replace q533 := eq_true q533
              go_wp2
              go_roundg k1
              case measure => have := HK1.out; omega
              case rel => exact ⟨(x5_1), (y530), H', ⟨by have := HK1.out; omega⟩, ⟨by (with_reducible repeat (first | apply Kd.R_alloc | apply Kd.R_drewN | apply Kd.R_drew)); exact HO_5.out⟩, ⟨by (with_reducible repeat (first | apply Kd.Q_alloc | apply Kd.Q_drewN | apply Kd.Q_drew)); exact HO532.out⟩, ⟨by (with_reducible repeat (first | refine blk_drewN ?_ _ | refine blk_drew ?_ | refine blk_alloc ?_ _)); exact BK518.out⟩, ⟨by repeat (first | (with_reducible first | exact HB.out | apply below_alloc | apply pw_below_drewN | apply below_drew1 | refine below_set ?_ GE518.out) | exact HB.out)⟩⟩
             ·replace c22 := Bool.eq_false_iff.mpr c22
              subst c22
              have H1 : ((some (([] : List Int) : List Int)).bind fun y535 => (if y535.length + y530.length < 17592186044416 then ((some (y535 ++ y530 : List Int)).bind fun y538 => (if (rd x6_1 0) < (l0_0.length : Int) then (if y538.length + ((rd_T42 l0_0 (rd x6_1 0)).f3).length < 17592186044416 then (dioramaref09_Led.l0 k1 (x5_1.set ((rd x6_1 0) : Int).toNat true) (y538 ++ ((rd_T42 l0_0 (rd x6_1 0)).f3)) l0_0 a0_1) else (none)) else (none))) else (none))) = some r := by rw [if_neg (show ¬ (false = true) by decide)] at H; exact H
              clear H
              have H := H1
              clear H1
              obtain ⟨y534, hy534⟩ : ∃ y_ : List Bool, y_ = (x5_1.set ((rd x6_1 0) : Int).toNat true) := ⟨_, rfl⟩
              replace H : ((some (([] : List Int) : List Int)).bind fun y535 => (if y535.length + y530.length < 17592186044416 then ((some (y535 ++ y530 : List Int)).bind fun y538 => (if (rd x6_1 0) < (l0_0.length : Int) then (if y538.length + ((rd_T42 l0_0 (rd x6_1 0)).f3).length < 17592186044416 then (dioramaref09_Led.l0 k1 y534 (y538 ++ ((rd_T42 l0_0 (rd x6_1 0)).f3)) l0_0 a0_1) else (none)) else (none))) else (none))) = some r := by first | (rw [hy534]; with_reducible exact H) | (have H2_ := (Option.bind_some _ _).symm.trans H; rw [hy534]; with_reducible exact H2_) | (have H2_ := (Option.bind_some _ _).symm.trans H; with_reducible exact H2_) | with_reducible exact H | (rw [hy534]; exact H) | exact H
              have Ny534 := Aside0.mk hy534
              clear hy534
              obtain ⟨y535, hy535⟩ : ∃ y_ : List Int, y_ = (([] : List Int)) := ⟨_, rfl⟩
              replace H : (if y535.length + y530.length < 17592186044416 then ((some (y535 ++ y530 : List Int)).bind fun y538 => (if (rd x6_1 0) < (l0_0.length : Int) then (if y538.length + ((rd_T42 l0_0 (rd x6_1 0)).f3).length < 17592186044416 then (dioramaref09_Led.l0 k1 y534 (y538 ++ ((rd_T42 l0_0 (rd x6_1 0)).f3)) l0_0 a0_1) else (none)) else (none))) else (none)) = some r := by first | (rw [hy535]; with_reducible exact H) | (have H2_ := (Option.bind_some _ _).symm.trans H; rw [hy535]; with_reducible exact H2_) | (have H2_ := (Option.bind_some _ _).symm.trans H; with_reducible exact H2_) | with_reducible exact H | (rw [hy535]; exact H) | exact H
              have Ny535 := Aside0.mk hy535
              clear hy535
              by_cases c27 : y535.length + y530.length < 17592186044416
              ·rw [if_pos c27] at H
               have LMc27 := Aside0.mk c27
               clear c27
               obtain ⟨y538, hy538⟩ : ∃ y_ : List Int, y_ = (y535 ++ y530) := ⟨_, rfl⟩
               replace H : (if (rd x6_1 0) < (l0_0.length : Int) then (if y538.length + ((rd_T42 l0_0 (rd x6_1 0)).f3).length < 17592186044416 then (dioramaref09_Led.l0 k1 y534 (y538 ++ ((rd_T42 l0_0 (rd x6_1 0)).f3)) l0_0 a0_1) else (none)) else (none)) = some r := by first | (rw [hy538]; with_reducible exact H) | (have H2_ := (Option.bind_some _ _).symm.trans H; rw [hy538]; with_reducible exact H2_) | (have H2_ := (Option.bind_some _ _).symm.trans H; with_reducible exact H2_) | with_reducible exact H | (rw [hy538]; exact H) | exact H
               have Ny538 := Aside0.mk hy538
               clear hy538
               by_cases c28 : (rd x6_1 0) < (l0_0.length : Int)
               ·rw [if_pos c28] at H
                have c28b0 : decide ((rd x6_1 0) < (l0_0.length : Int)) = true := decide_eq_true c28
                clear c28
                by_cases c29 : y538.length + ((rd_T42 l0_0 (rd x6_1 0)).f3).length < 17592186044416
                ·rw [if_pos c29] at H
                 have LMc29 := Aside0.mk c29
                 clear c29
                 obtain ⟨y542, hy542⟩ : ∃ y_ : List Int, y_ = (y538 ++ ((rd_T42 l0_0 (rd x6_1 0)).f3)) := ⟨_, rfl⟩
                 replace H : (dioramaref09_Led.l0 k1 y534 y542 l0_0 a0_1) = some r := by first | (rw [hy542]; with_reducible exact H) | (have H2_ := (Option.bind_some _ _).symm.trans H; rw [hy542]; with_reducible exact H2_) | (have H2_ := (Option.bind_some _ _).symm.trans H; with_reducible exact H2_) | with_reducible exact H | (rw [hy542]; exact H) | exact H
                 have Ny542 := Aside0.mk hy542
                 clear hy542
                 have H' := Aside0.mk H
                 clear H
                 obtain ⟨Ao30, co30, eo30, _⟩ := Kd.Q_slice HO_6.out
                 subst eo30
                 have p529 : 0 ≤ (0 : Int) := (by omega)
                 have q529 : 0 < (x6_1.length : Int) := of_decide_eq_true (by first | (with_reducible assumption) | assumption)
                 obtain ⟨ad529, e529, hx529_0⟩ := Kd.at_int (Kd.Q_reads' HO_6.out).2.2 0 p529 q529
                 cases e529
                 have qi529 : (0 < x6_1.length) = True := eq_true (by omega)
                 (try rw [show ((0 : Int)).toNat = 0 from rfl] at hx529_0)
                 (try rw [Addr.add_zero'] at hx529_0)
                 replace p529 := eq_true p529
                 replace q529 := eq_true q529
                 have q31 : (1 : Int) ≤ ((x6_1.length : Int) : Int) := of_decide_eq_true (by first | (with_reducible assumption) | assumption)
                 obtain ⟨i031, hi031, _, hsz31, _⟩ := info_parts info3
                 have hcut31 := cut_from (P := Tryz.prog) 40 3 .i64 Tryz.underlying40 hi031 1 hsz31 (some ad529) x6_1.length co30 1 (by omega) q31
                 have hr31 := Kd.Q_drop (k := (1 : Int).toNat) HO_6.out (by omega)
                 obtain ⟨A31, hA31⟩ : ∃ A1, A1 = (if co30 = (1 : Int).toNat then (some ad529) else ((some ad529) : Option Addr).map (·.add ((1 : Int).toNat * 1))) := ⟨_, rfl⟩
                 obtain ⟨c31, hc31⟩ : ∃ c1, c1 = co30 - (1 : Int).toNat := ⟨_, rfl⟩
                 have hy31 : y530.length = x6_1.length - (1 : Int).toNat := (by rw [Ny530.out, List.length_drop])
                 rw [← Ny530.out] at hr31
                 rw [← hy31, ← hA31, ← hc31] at hcut31
                 replace hr31 : Kd.Q (Kd.int .i64) 3 wr w.heap.size (fun _ => True) (.slice A31 y530.length c31) y530 := (by rw [hA31, hc31, hy31]; exact hr31)
                 have HE31 : Aside0 ((Value.slice A31 y530.length c31).ownBlock = (.slice (some ad529) x6_1.length co30 : Value).ownBlock) := ⟨by rw [hA31]; split <;> (cases ((some ad529) : Option Addr) <;> rfl)⟩
                 clear hy31 hi031 hsz31 HO_6 hA31 hc31
                 have HO532 := Aside0.mk hr31
                 clear hr31
                 replace q31 := eq_true q31
                 obtain ⟨Ao32, co32, eo32⟩ := Kd.R_slice HO_5.out
                 subst eo32
                 have p533 : 0 ≤ ((rd x6_1 0) : Int) := of_decide_eq_true (by first | (with_reducible assumption) | assumption)
                 have q533 : (rd x6_1 0) < (x5_1.length : Int) := of_decide_eq_true (by first | (with_reducible assumption) | assumption)
                 obtain ⟨ad533, e533, hx533_0⟩ := Kd.at_bool (Kd.R_reads' HO_5.out).2.2 (rd x6_1 0) p533 q533
                 (try rw [← Nbq21.out] at hx533_0)
                 cases e533
                 replace p533 := eq_true p533
                 replace q533 := eq_true q533
                 have p26 : 0 ≤ ((rd x6_1 0) : Int) := of_decide_eq_true (by first | (with_reducible assumption) | assumption)
                 have q26 : ((rd x6_1 0) : Int) < ((x5_1.length : Int) : Int) := of_decide_eq_true (by first | (with_reducible assumption) | assumption)
                 obtain ⟨go26, co26, eo26, gb26, gl26, cl26, HG26⟩ := Kd.R_form HO_5.out (by omega)
                 (first | cases eo26 | (injection eo26 with ea_ en_ ec_; (first | subst ea_ | (injection ea_ with ea_; subst ea_)); subst ec_; clear en_))
                 have GB26 := Aside0.mk gb26
                 have GG26 := Aside0.mk HG26
                 clear gb26 gl26 HG26
                 (first | simp only [add_plain] at hx533_0 | skip)
                 obtain ⟨hx26_0, hf26_0⟩ := Kd.R_celln false HO_5.out ((rd x6_1 0) : Int) p26 q26
                 replace p26 := eq_true p26
                 replace q26 := eq_true q26
                 have HP33 := Kd.R_putg HO_5.out ((rd x6_1 0) : Int) true
                 try go_wp2_with (first | ((with_reducible refine gate_store (t := 4) (p := 35) rfl ?_); refine store_event (t := 4) (p := 35) (v := ?vo_w34) (w1 := (wr.setCell ⟨go26, ((rd x6_1 0) : Int).toNat, none⟩ (.bool true))) ?hg ?ho ?hn ?hr ?_; (case ho => rfl); (case hg => rfl); (case hn => rfl); (case hr => first | (go_simp; done) | (go_simp; rfl)); intro w34 hw; have hg : wr.grownBy w34 (some go26) := (by rw [hw]; exact HP33.2); have hp_ : Kd.R Kd.bool 4 w34 w.heap.size (fun _ => True) (.slice (some ⟨go26, 0, none⟩) x5_1.length co32) y534 := (by rw [hw, Ny534.out]; exact HP33.1); clear HP33; have n0_ := Aside0.mk (hp_); have n1_ := Aside0.mk (Kd.Q_over' (v := (.slice (some ⟨go26, 0, none⟩) x5_1.length co32)) (by (with_reducible repeat (first | apply Kd.Q_alloc | apply Kd.Q_drewN | apply Kd.Q_drew)); exact HO532.out) (Kd.R_typed HO_5.out) (by decide) hg); have n2_ := Aside0.mk (blk_grown (g := gb518) (o := .cells #[.slice (some ad525) l0_0.length c0_0, .int .i64 a0_1] 24 (0, 0)) (by (with_reducible repeat (first | refine blk_drewN ?_ _ | refine blk_drew ?_ | refine blk_alloc ?_ _)); exact BK518.out) hg (Kd.R_ne HO_5.out BK518.out (by decide))); have n3_ := Aside0.mk ((by rw [hw]; exact below_set (HB.out) GB26.out : Below w.heap.size w w34)); clear HO_5; clear HO532; clear BK518; clear HB; have HO_5 := n0_; have HO532 := n1_; have BK518 := n2_; have HB := n3_; clear n0_ n1_ n2_ n3_; clear hg hw hp_))
                 have n0_ := Aside0.mk (Kd.R_drew HO_5.out)
                 have n1_ := Aside0.mk (Kd.Q_drew HO532.out)
                 have n2_ := Aside0.mk (blk_drew BK518.out)
                 have n3_ := Aside0.mk (below_drew1 HB.out)
                 clear HO_5
                 clear HO532
                 clear BK518
                 clear HB
                 have HO_5 := n0_
                 have HO532 := n1_
                 have BK518 := n2_
                 have HB := n3_
                 clear n0_ n1_ n2_ n3_
                 have p541 : 0 ≤ ((rd x6_1 0) : Int) := of_decide_eq_true (by first | (with_reducible assumption) | assumption)
                 have q541 : (rd x6_1 0) < (l0_0.length : Int) := of_decide_eq_true (by first | (with_reducible assumption) | assumption)
                 obtain ⟨ad541, A541_1, c541_1, A541_2, c541_2, A541_3, c541_3, e541, hx541_0, hx541_1, hx541_2, hx541_3, hl541_1, hi541_1, hl541_2, hi541_2, hl541_3, hi541_3⟩ := at_T42 HR0_0.out (rd x6_1 0) p541 q541
                 have hw541_3 := hx541_3
                 have hw541_2 := hx541_2
                 have hw541_1 := hx541_1
                 have hw541_0 := hx541_0
                 obtain rfl : ad525 = ad541 := (by injection e541)
                 replace hx541_0 := (HB.out.cell (World.block_lt_of_cell? w _ hx541_0)).trans hx541_0
                 replace hx541_1 := (HB.out.cell (World.block_lt_of_cell? w _ hx541_1)).trans hx541_1
                 replace hx541_2 := (HB.out.cell (World.block_lt_of_cell? w _ hx541_2)).trans hx541_2
                 replace hx541_3 := (HB.out.cell (World.block_lt_of_cell? w _ hx541_3)).trans hx541_3
                 have HR541_1 := Aside0.mk hi541_1
                 have HC541_1 := Aside0.mk hl541_1
                 clear hi541_1 hl541_1
                 have HR541_2 := Aside0.mk hi541_2
                 have HC541_2 := Aside0.mk hl541_2
                 clear hi541_2 hl541_2
                 have HR541_3 := Aside0.mk hi541_3
                 have HC541_3 := Aside0.mk hl541_3
                 clear hi541_3 hl541_3
                 replace p541 := eq_true p541
                 replace q541 := eq_true q541
                 refine start_ (n := 11) (S := fun w' => w'.cell? ⟨gb518, 0, none⟩ = some (.slice (some ad525) l0_0.length c0_0) ∧ w'.cell? ⟨gb518, 1, none⟩ = some (.int .i64 a0_1) ∧ w'.cell? (ad525.add (((rd x6_1 0)).toNat * 4)) = some (.int .i64 ((rd_T42 l0_0 (rd x6_1 0)).f0)) ∧ w'.cell? ⟨(ad525.add (((rd x6_1 0)).toNat * 4)).block, (ad525.add (((rd x6_1 0)).toNat * 4)).off + 1, none⟩ = some (.slice A541_1 ((rd_T42 l0_0 (rd x6_1 0)).f1).length c541_1) ∧ w'.cell? ⟨(ad525.add (((rd x6_1 0)).toNat * 4)).block, (ad525.add (((rd x6_1 0)).toNat * 4)).off + 2, none⟩ = some (.slice A541_2 ((rd_T42 l0_0 (rd x6_1 0)).f2).length c541_2) ∧ w'.cell? ⟨(ad525.add (((rd x6_1 0)).toNat * 4)).block, (ad525.add (((rd x6_1 0)).toNat * 4)).off + 3, none⟩ = some (.slice A541_3 ((rd_T42 l0_0 (rd x6_1 0)).f3).length c541_3)) (ds := []) #[false, false, false, false, false, false, false, false, false, false, false] (by kernel_rfl) rfl rfl ⟨(blk_cell BK518.out 0).trans rfl, (blk_cell BK518.out 1).trans rfl, ((HB.out.cell (World.block_lt_of_cell? w _ hw541_0)).trans hw541_0), ((HB.out.cell (World.block_lt_of_cell? w _ hw541_1)).trans hw541_1), ((HB.out.cell (World.block_lt_of_cell? w _ hw541_2)).trans hw541_2), ((HB.out.cell (World.block_lt_of_cell? w _ hw541_3)).trans hw541_3)⟩ (fun hHeld => ?_); refine with_tabW dioramaref09_Led.tab8 dioramaref09_Led.bits8 (fun HT_ HW_ => ?_)
                 generalize w34.drew = w35 at HO_5 HO532 BK518 HB HR541_1 HR541_2 HR541_3 hx541_0 hx541_1 hx541_2 hx541_3 hHeld ⊢
                 refine pure_ (i := 1) (N := some 37) (v := ?_) (a' := ?_) #[false, true, false, false, false, false, false, false, false, false, false] rfl rfl (any_of HT_.out (by kernel_rfl)) (fun _ _ _ h => h) (Or.inl ⟨by rfl, ?_⟩) ?_ ?_
                 rotate_left
                 ·intro w'
                  go_simp
                  with_reducible rfl
                 rotate_left
                 ·simp only [Act.put, List.setIfInBounds_toArray, List.set_cons_zero, List.set_cons_succ, i64_w, i32_w]
                  rfl
                 refine pure_ (i := 3) (N := some 39) (v := ?_) (a' := ?_) #[false, true, false, true, false, false, false, false, false, false, false] rfl rfl (any_of HT_.out (by kernel_rfl)) (fun _ _ _ h => h) (Or.inl ⟨by rfl, ?_⟩) ?_ ?_
                 rotate_left
                 ·intro w'
                  go_simp
                  with_reducible rfl
                 rotate_left
                 ·simp only [Act.put, List.setIfInBounds_toArray, List.set_cons_zero, List.set_cons_succ, i64_w, i32_w]
                  rfl
                 refine pure_ (i := 5) (N := some 41) (v := ?_) (a' := ?_) #[false, true, false, true, false, true, false, false, false, false, false] rfl rfl (any_of HT_.out (by kernel_rfl)) (fun _ _ _ h => h) (Or.inl ⟨by rfl, ?_⟩) ?_ ?_
                 rotate_left
                 ·intro w'
                  go_simp
                  with_reducible rfl
                 rotate_left
                 ·simp only [Act.put, List.setIfInBounds_toArray, List.set_cons_zero, List.set_cons_succ, i64_w, i32_w]
                  rfl
                 refine take_ (i := 4) (N := some 40) (v := ?_) (a' := ?_) #[false, true, false, true, true, true, false, false, false, false, false] rfl rfl (take_ofW HT_.out HW_.out (by kernel_rfl)) (fun _ _ _ h => h) (Or.inl ⟨by rfl, ?_⟩) hHeld ?_ ?_
                 rotate_left
                 ·rintro w' ⟨s0, s1, s2, s3, s4, s5⟩
                  go_simp
                  with_reducible rfl
                 rotate_left
                 ·simp only [Act.put, List.setIfInBounds_toArray, List.set_cons_zero, List.set_cons_succ, i64_w, i32_w]
                  rfl
                 refine pure_ (i := 6) (N := some 42) (v := ?_) (a' := ?_) #[false, true, false, true, true, true, true, false, false, false, false] rfl rfl (any_of HT_.out (by kernel_rfl)) (fun _ _ _ h => h) (Or.inl ⟨by rfl, ?_⟩) ?_ ?_
                 rotate_left
                 ·intro w'
                  go_simp
                  with_reducible rfl
                 rotate_left
                 ·simp only [Act.put, List.setIfInBounds_toArray, List.set_cons_zero, List.set_cons_succ, i64_w, i32_w]
                  rfl
                 refine pure_ (i := 7) (N := some 43) (v := ?_) (a' := ?_) #[false, true, false, true, true, true, true, true, false, false, false] rfl rfl (any_of HT_.out (by kernel_rfl)) (fun _ _ _ h => h) (Or.inl ⟨by rfl, ?_⟩) ?_ ?_
                 rotate_left
                 ·intro w'
                  go_simp
                  with_reducible rfl
                 rotate_left
                 ·simp only [Act.put, List.setIfInBounds_toArray, List.set_cons_zero, List.set_cons_succ, i64_w, i32_w]
                  rfl
                 refine take_ (i := 8) (N := some 44) (v := ?_) (a' := ?_) #[false, true, false, true, true, true, true, true, true, false, false] rfl rfl (take_ofW HT_.out HW_.out (by kernel_rfl)) (fun _ _ _ h => h) (Or.inl ⟨by rfl, ?_⟩) hHeld ?_ ?_
                 rotate_left
                 ·rintro w' ⟨s0, s1, s2, s3, s4, s5⟩
                  go_simp
                  with_reducible rfl
                 rotate_left
                 ·simp only [Act.put, List.setIfInBounds_toArray, List.set_cons_zero, List.set_cons_succ, i64_w, i32_w]
                  rfl
                 refine one_ (i := 0) (N := some 36) #[true, true, false, true, true, true, true, true, true, false, false] rfl rfl (one_of HT_.out (by kernel_rfl)) (by decide) (fun K hK => ?_)
                 refine Kd.R_lit_step (Kd.int .i64) _ 3 ?hg (N := 36) ?hd (xs := ([] : List Int)) (inner := []) (ok := fun _ => True) (okp := fun _ => True) ?hr ?hp (fun _ hk => hk) trivial (Below.refl _ _) (Nat.le_refl _) (by simp) ?_; (case hd => rfl); (case hg => rfl); (case hr => first | (go_simp; done) | (go_simp; rfl)); (case hp => exact (Reps.none _ _))
                 intro v536 w36 ho37 hb hg_ hnew_
                 clear hg_ hnew_
                 (first | rw [← Ny535.out] at ho37 | (simp only [Int.reduceToNat] at ho37; rw [← Ny535.out] at ho37))
                 have n0_ := Aside0.mk (Kd.R_below (by (with_reducible repeat (first | apply Kd.R_alloc | apply Kd.R_drewN | apply Kd.R_drew)); exact HO_5.out) hb)
                 have n1_ := Aside0.mk (Kd.Q_elder' (by (with_reducible repeat (first | apply Kd.Q_alloc | apply Kd.Q_drewN | apply Kd.Q_drew)); exact HO532.out) (Kd.R_base ho37) hb)
                 have n2_ := Aside0.mk (Kd.R_lower (Kd.R_new' ho37 (Kd.Q_lt (by (with_reducible repeat (first | apply Kd.Q_alloc | apply Kd.Q_drewN | apply Kd.Q_drew)); exact HO532.out))) (below_size (by repeat (first | (with_reducible first | exact HB.out | apply below_alloc | apply pw_below_drewN | apply below_drew1 | refine below_set ?_ GE518.out) | exact HB.out))))
                 have n3_ := Aside0.mk (blk_below (g := gb518) (o := .cells #[.slice (some ad525) l0_0.length c0_0, .int .i64 a0_1] 24 (0, 0)) (by (with_reducible repeat (first | refine blk_drewN ?_ _ | refine blk_drew ?_ | refine blk_alloc ?_ _)); exact BK518.out) hb)
                 have n4_ := Aside0.mk (below_step (by repeat (first | (with_reducible first | exact HB.out | apply below_alloc | apply pw_below_drewN | apply below_drew1 | refine below_set ?_ GE518.out) | exact HB.out)) hb)
                 clear HO_5
                 clear HO532
                 clear BK518
                 clear HB
                 have HO_5 := n0_
                 have HO532 := n1_
                 have HO537 := n2_
                 have BK518 := n3_
                 have HB := n4_
                 clear n0_ n1_ n2_ n3_ n4_
                 clear hb ho37
                 refine hK.out _ _ ⟨(blk_cell BK518.out 0).trans rfl, (blk_cell BK518.out 1).trans rfl, ((HB.out.cell (World.block_lt_of_cell? w _ hw541_0)).trans hw541_0), ((HB.out.cell (World.block_lt_of_cell? w _ hw541_1)).trans hw541_1), ((HB.out.cell (World.block_lt_of_cell? w _ hw541_2)).trans hw541_2), ((HB.out.cell (World.block_lt_of_cell? w _ hw541_3)).trans hw541_3)⟩ (fun hHeld => ?_)
                 clear hK K
                 refine norm_ (a' := ?_) ?_ ?_
                 rotate_left
                 ·show Act.put _ (some 36) _ = _
                  simp only [Act.put, List.setIfInBounds_toArray, List.set_cons_zero, List.set_cons_succ, i64_w, i32_w]
                  rfl
                 refine one_ (i := 2) (N := some 38) #[true, true, true, true, true, true, true, true, true, false, false] rfl rfl (one_of HT_.out (by kernel_rfl)) (by decide) (fun K hK => ?_)
                 refine Kd.R_append_rows_step (Kd.int .i64) (w0 := w) w.heap.size (by rfl) (.tmp 36) (.tmp 37) 40 3 (.int .i64 0) 8 rfl Tryz.underlying40 info3 rfl (by decide) (by omega) v536 y535 y530 _ _ _ (fun k_ => some k_ ≠ (.slice A31 y530.length c31 : Value).ownBlock) (fun _ => False) rfl rfl ?aO ?aR (fun _ _ h => h) (fun _ h => h.elim) ?aF ?aB ?aS ?aL ?_
                 (case aR => repeat (first | exact (Kd.Q_reads' HO532.out).2.2 | (with_reducible refine Kd.C_alloc ?_ _) | (with_reducible refine Kd.C_drewN ?_ _) | (with_reducible refine Kd.C_drew ?_)))
                 (case aB => exact (by repeat (first | (with_reducible first | exact HB.out | apply below_alloc | apply pw_below_drewN | apply below_drew1 | refine below_set ?_ GE518.out) | exact HB.out)))
                 (case aF => exact (fun k_ hk => Kd.fresh' (Kd.Q_lt (by (with_reducible repeat (first | apply Kd.Q_alloc | apply Kd.Q_drewN | apply Kd.Q_drew)); exact HO532.out)) k_ hk))
                 (case aO => exact (by (with_reducible repeat (first | apply Kd.R_alloc | apply Kd.R_drewN | apply Kd.R_drew)); exact Kd.R_mono HO537.out (fun _ hk => hk.2)))
                 (case aS => exact (below_size (by repeat (first | (with_reducible first | exact HB.out | apply below_alloc | apply pw_below_drewN | apply below_drew1 | refine below_set ?_ GE518.out) | exact HB.out))))
                 (case aL => have := LMc27.out; omega)
                 intro v539 w38 ho hb hg hat
                 rw [← Ny538.out] at ho
                 have n0_ := Aside0.mk (Kd.R_over' (by (with_reducible repeat (first | apply Kd.R_alloc | apply Kd.R_drewN | apply Kd.R_drew)); exact HO_5.out) (Kd.R_typed (by (with_reducible repeat (first | apply Kd.R_alloc | apply Kd.R_drewN | apply Kd.R_drew)); exact HO537.out)) (by decide) hg)
                 have n1_ := Aside0.mk (Kd.Q_after (ok := (fun _ => True)) (by (with_reducible repeat (first | apply Kd.Q_alloc | apply Kd.Q_drewN | apply Kd.Q_drew)); exact HO532.out) hg hat)
                 have n2_ := Aside0.mk (blk_grown (g := gb518) (o := .cells #[.slice (some ad525) l0_0.length c0_0, .int .i64 a0_1] 24 (0, 0)) (by (with_reducible repeat (first | refine blk_drewN ?_ _ | refine blk_drew ?_ | refine blk_alloc ?_ _)); exact BK518.out) hg (Kd.R_ne HO537.out BK518.out (by decide)))
                 have n3_ := Aside0.mk (hb)
                 have n4_ := Aside0.mk (ho)
                 clear HO_5
                 clear HO532
                 clear BK518
                 clear HB
                 clear HO537
                 have HO_5 := n0_
                 have HO532 := n1_
                 have BK518 := n2_
                 have HB := n3_
                 have HO540 := n4_
                 clear n0_ n1_ n2_ n3_ n4_
                 clear ho hb hg hat
                 refine hK.out _ _ ⟨(blk_cell BK518.out 0).trans rfl, (blk_cell BK518.out 1).trans rfl, ((HB.out.cell (World.block_lt_of_cell? w _ hw541_0)).trans hw541_0), ((HB.out.cell (World.block_lt_of_cell? w _ hw541_1)).trans hw541_1), ((HB.out.cell (World.block_lt_of_cell? w _ hw541_2)).trans hw541_2), ((HB.out.cell (World.block_lt_of_cell? w _ hw541_3)).trans hw541_3)⟩ (fun hHeld => ?_)
                 clear hK K
                 refine norm_ (a' := ?_) ?_ ?_
                 rotate_left
                 ·show Act.put _ (some 38) _ = _
                  simp only [Act.put, List.setIfInBounds_toArray, List.set_cons_zero, List.set_cons_succ, i64_w, i32_w]
                  rfl
                 refine one_ (i := 9) (N := some 45) #[true, true, true, true, true, true, true, true, true, true, false] rfl rfl (one_of HT_.out (by kernel_rfl)) (by decide) (fun K hK => ?_)
                 refine Kd.R_append_rows_step (Kd.int .i64) (w0 := w) w.heap.size (by rfl) (.tmp 38) (.tmp 44) 40 3 (.int .i64 0) 8 rfl Tryz.underlying40 info3 rfl (by decide) (by omega) v539 y538 ((rd_T42 l0_0 (rd x6_1 0)).f3) _ _ _ (fun k_ => some k_ ≠ (.slice A31 y530.length c31 : Value).ownBlock) (fun _ => False) rfl rfl ?aO ?aR (fun _ _ h => h) (fun _ h => h.elim) ?aF ?aB ?aS ?aL ?_
                 (case aR => repeat (first | exact (Kd.C_below HR541_3.out HB.out) | (with_reducible refine Kd.C_alloc ?_ _) | (with_reducible refine Kd.C_drewN ?_ _) | (with_reducible refine Kd.C_drew ?_)))
                 (case aB => exact (by repeat (first | (with_reducible first | exact HB.out | apply below_alloc | apply pw_below_drewN | apply below_drew1 | refine below_set ?_ GE518.out) | exact HB.out)))
                 (case aF => exact (fun k_ hk => Kd.fresh' (Kd.Q_lt (by (with_reducible repeat (first | apply Kd.Q_alloc | apply Kd.Q_drewN | apply Kd.Q_drew)); exact HO532.out)) k_ hk))
                 (case aO => exact (by (with_reducible repeat (first | apply Kd.R_alloc | apply Kd.R_drewN | apply Kd.R_drew)); exact HO540.out))
                 (case aS => exact (below_size (by repeat (first | (with_reducible first | exact HB.out | apply below_alloc | apply pw_below_drewN | apply below_drew1 | refine below_set ?_ GE518.out) | exact HB.out))))
                 (case aL => have := LMc29.out; omega)
                 intro v543 w39 ho hb hg hat
                 rw [← Ny542.out] at ho
                 have n0_ := Aside0.mk (Kd.R_over' (by (with_reducible repeat (first | apply Kd.R_alloc | apply Kd.R_drewN | apply Kd.R_drew)); exact HO_5.out) (Kd.R_typed (by (with_reducible repeat (first | apply Kd.R_alloc | apply Kd.R_drewN | apply Kd.R_drew)); exact HO540.out)) (by decide) hg)
                 have n1_ := Aside0.mk (Kd.Q_after (ok := (fun _ => True)) (by (with_reducible repeat (first | apply Kd.Q_alloc | apply Kd.Q_drewN | apply Kd.Q_drew)); exact HO532.out) hg hat)
                 have n2_ := Aside0.mk (blk_grown (g := gb518) (o := .cells #[.slice (some ad525) l0_0.length c0_0, .int .i64 a0_1] 24 (0, 0)) (by (with_reducible repeat (first | refine blk_drewN ?_ _ | refine blk_drew ?_ | refine blk_alloc ?_ _)); exact BK518.out) hg (Kd.R_ne HO540.out BK518.out (by decide)))
                 have n3_ := Aside0.mk (hb)
                 have n4_ := Aside0.mk (ho)
                 clear HO_5
                 clear HO532
                 clear BK518
                 clear HB
                 clear HO540
                 have HO_5 := n0_
                 have HO532 := n1_
                 have BK518 := n2_
                 have HB := n3_
                 have HO544 := n4_
                 clear n0_ n1_ n2_ n3_ n4_
                 clear ho hb hg hat
                 refine hK.out _ _ ⟨(blk_cell BK518.out 0).trans rfl, (blk_cell BK518.out 1).trans rfl, ((HB.out.cell (World.block_lt_of_cell? w _ hw541_0)).trans hw541_0), ((HB.out.cell (World.block_lt_of_cell? w _ hw541_1)).trans hw541_1), ((HB.out.cell (World.block_lt_of_cell? w _ hw541_2)).trans hw541_2), ((HB.out.cell (World.block_lt_of_cell? w _ hw541_3)).trans hw541_3)⟩ (fun hHeld => ?_)
                 clear hK K
                 refine norm_ (a' := ?_) ?_ ?_
                 rotate_left
                 ·show Act.put _ (some 45) _ = _
                  simp only [Act.put, List.setIfInBounds_toArray, List.set_cons_zero, List.set_cons_succ, i64_w, i32_w]
                  rfl
                 refine pure_ (i := 10) (N := some 6) (v := ?_) (a' := ?_) #[true, true, true, true, true, true, true, true, true, true, true] rfl rfl (any_of HT_.out (by kernel_rfl)) (fun _ _ _ h => h) (Or.inl ⟨by rfl, ?_⟩) ?_ ?_
                 rotate_left
                 ·intro w'
                  go_simp
                  with_reducible rfl
                 rotate_left
                 ·simp only [Act.put, List.setIfInBounds_toArray, List.set_cons_zero, List.set_cons_succ, i64_w, i32_w]
                  rfl
                 refine done_ (done_of HT_.out (by kernel_rfl)) ?_
                 try go_wp2
                 go_roundg k1
                 case measure => have := HK1.out; omega
                 case rel => exact ⟨(y534), (y542), H', ⟨by have := HK1.out; omega⟩, ⟨by (with_reducible repeat (first | apply Kd.R_alloc | apply Kd.R_drewN | apply Kd.R_drew)); exact HO_5.out⟩, ⟨Kd.Q_of_R (by (with_reducible repeat (first | apply Kd.R_alloc | apply Kd.R_drewN | apply Kd.R_drew)); exact Kd.R_mono HO544.out (fun _ hk => trivial))⟩, ⟨by (with_reducible repeat (first | refine blk_drewN ?_ _ | refine blk_drew ?_ | refine blk_alloc ?_ _)); exact BK518.out⟩, ⟨by repeat (first | (with_reducible first | exact HB.out | apply below_alloc | apply pw_below_drewN | apply below_drew1 | refine below_set ?_ GE518.out) | exact HB.out)⟩⟩
                ·rw [if_neg c29] at H
                 exact absurd H (by simp)
               ·rw [if_neg c28] at H
                exact absurd H (by simp)
              ·rw [if_neg c27] at H
               exact absurd H (by simp)
            ·rw [if_neg c20] at H
             exact absurd H (by simp)
           ·rw [if_neg c19] at H
            exact absurd H (by simp)
          ·rw [if_neg c18] at H
           exact absurd H (by simp)
         ·rw [if_neg c17] at H
          exact absurd H (by simp)
        ·rw [if_neg c16] at H
         have c16b0 : decide (0 < (x6_1.length : Int)) = false := decide_eq_false c16
         have c16b1 : decide (0 < x6_1.length) = false := decide_eq_false (by omega)
         clear c16
         obtain rfl := Option.some.inj H
         obtain ⟨Ao40, co40, eo40, _⟩ := Kd.Q_slice HO_6.out
         subst eo40
         go_wp2
         go_ret
         exact ⟨_, by first | rfl | (simp [errW_none, errW_some] <;> rfl) | (simp [*, errW_none, errW_some] <;> rfl), by (with_reducible repeat (first | apply Kd.R_alloc | apply Kd.R_drewN | apply Kd.R_drew)); exact HO_5.out, by repeat (first | (with_reducible first | exact HB.out | apply below_alloc | apply pw_below_drewN | apply below_drew1 | refine below_set ?_ GE518.out) | exact HB.out)⟩
     ·rw [if_neg c7] at H
      exact absurd H (by simp)
    ·rw [if_neg c6] at H
     exact absurd H (by simp)
   ·rw [if_neg c5] at H
    exact absurd H (by simp)
  ·rw [if_neg c4] at H
   exact absurd H (by simp)
 ·rw [if_neg c3] at H
  exact absurd H (by simp)

end Go.Proofs.YtggldnbhmebcpaaGreatDoor.PDeltaMakes
end
section
-- PRINTED BY print.sh 35421559b90ae4d0a3588c463048766b98c2df88dd9212a6774a882060cdf62d: not written by this session
namespace Go.Proofs.YtggldnbhmebcpaaGreatDoor.PDeltaMakes
open Go.RowKit Go.Proofs.YtggldnbhmebcpaaGreatDoorW.PrintWords Go.Proofs.YtggldnbhmebcpaaGreatDoorW.PrintLast Go.Proofs.YtggldnbhmebcpaaGreatDoorW.PrintMore
attribute [local go_sem] max2_int min2_int max_two min_two max_three min_three max_four min_four   -- for this text's walks alone
set_option linter.unusedVariables false
set_option linter.unusedSimpArgs false
mutual
def dioramaref09_Check.l0 : Nat → Int → List (S42) → Int → Option (Int × Int)
 | 0, _, _, _ => none
 | k + 1, x5, x546000, x546001 => if x5 < (x546000.length : Int) then ((dioramaref09_Led.f k x546000 x546001 x5).bind fun t548 => (if 0 ≤ x5 then (if x5 < (t548.length : Int) then (if rdOf false t548 x5 = true then (some (14, x5)) else (dioramaref09_Check.l0 k (wrap64 (x5 + 1)) x546000 x546001)) else (none)) else (none))) else ((dioramaref09_Led.f k x546000 x546001 x546001).bind fun t552 => (dioramaref09_Check.l1 k t552 0 x546000 x546001))
def dioramaref09_Check.l1 : Nat → List Bool → Int → List (S42) → Int → Option (Int × Int)
 | 0, _, _, _, _ => none
 | k + 1, x6, x7, x546000, x546001 => if x7 < (x546000.length : Int) then (if x7 = x546001 then (dioramaref09_Check.l1 k x6 (wrap64 (x7 + 1)) x546000 x546001) else (if 0 ≤ x7 then (if x7 < (x6.length : Int) then (if rdOf false x6 x7 = true then (dioramaref09_Check.l1 k x6 (wrap64 (x7 + 1)) x546000 x546001) else (some (15, x7))) else (none)) else (none))) else (some (0, 0))
end
def dioramaref09_Check.f (k : Nat) (l0_0 : List (S42)) (a0_1 : Int) : Option (Int × Int) := (dioramaref09_Place.f l0_0 a0_1 a0_1).bind fun t546 => (if t546 = true then ((dioramaref09_Refs.f k l0_0 a0_1).bind fun t547 => (if t547 ≥ 0 then (some (13, t547)) else (dioramaref09_Check.l0 k 0 l0_0 a0_1))) else (some (13, (-1))))
set_option maxHeartbeats 8000000 in
set_option maxRecDepth 100000 in
theorem dioramaref09_Check.calls (k : Nat) (A0_0 : Option Addr) (c0_0 : Nat) (l0_0 : List (S42)) (a0_1 : Int) (r1 : Int) (r2 : Int) (w : World) (hr0_0 : Kd.C k42 w A0_0 l0_0.length l0_0) (hc0_0 : l0_0.length ≤ c0_0) (h : dioramaref09_Check.f k l0_0 a0_1 = some (r1, r2)) :
  Calls Tryz.prog 44 #[.agg #[.slice A0_0 l0_0.length c0_0, .int .i64 a0_1]] w fun e w' => e = .returned (.tuple #[.int .i64 r1, .int .i64 r2]) ∧ Below w.heap.size w w' := by
 have hu24 := Tryz.underlying24
 have HR0_0 := Aside0.mk hr0_0
 have HC0_0 := Aside0.mk hc0_0
 clear hr0_0 hc0_0
 have HB := Aside0.mk (Below.refl w.heap.size w)
 have H : ((dioramaref09_Place.f l0_0 a0_1 a0_1).bind fun t546 => (if t546 = true then ((dioramaref09_Refs.f k l0_0 a0_1).bind fun t547 => (if t547 ≥ 0 then (some (13, t547)) else (dioramaref09_Check.l0 k 0 l0_0 a0_1))) else (some (13, (-1))))) = some (r1, r2) := h
 clear h
 replace H := Option.bind_eq_some_iff.mp H
 obtain ⟨t546, A20, H⟩ := H
 replace H : (if t546 = true then ((dioramaref09_Refs.f k l0_0 a0_1).bind fun t547 => (if t547 ≥ 0 then (some (13, t547)) else (dioramaref09_Check.l0 k 0 l0_0 a0_1))) else (some (13, (-1)))) = some (r1, r2) := H
 have A2 := Aside0.mk A20
 clear A20
 by_cases c3 : t546 = true
 ·subst c3
  have H1 : ((dioramaref09_Refs.f k l0_0 a0_1).bind fun t547 => (if t547 ≥ 0 then (some (13, t547)) else (dioramaref09_Check.l0 k 0 l0_0 a0_1))) = some (r1, r2) := by rw [if_pos rfl] at H; exact H
  clear H
  have H := H1
  clear H1
  replace H := Option.bind_eq_some_iff.mp H
  obtain ⟨t547, A40, H⟩ := H
  replace H : (if t547 ≥ 0 then (some (13, t547)) else (dioramaref09_Check.l0 k 0 l0_0 a0_1)) = some (r1, r2) := H
  have A4 := Aside0.mk A40
  clear A40
  by_cases c5 : t547 ≥ 0
  ·rw [if_pos c5] at H
   have c5b0 : decide (0 ≤ t547) = true := decide_eq_true c5
   clear c5
   simp only [Option.some.injEq, Prod.mk.injEq] at H
   obtain ⟨rfl, rfl⟩ := H
   go_enter Tryz.func44, Tryz.ntmps44
   go_wp2_with (first | ((with_reducible refine gate_dst (N := 1) rfl ?_); refine box_event ?hg (N := 1) ?hd (cs := #[.slice A0_0 l0_0.length c0_0, .int .i64 a0_1]) (t := 24) ?hr ?_; (case hd => rfl); (case hg => rfl); (case hr => first | (go_simp; done) | (go_simp; rfl)); intro gb545 hg w6 hbox hb; have n0_ := Aside0.mk (below_step (by repeat (first | (with_reducible first | exact HB.out | apply below_alloc | apply pw_below_drewN | apply below_drew1) | exact HB.out)) hb); have n1_ := Aside0.mk (hbox); have n2_ := Aside0.mk ((by rw [hg]; exact (below_size (by repeat (first | (with_reducible first | exact HB.out | apply below_alloc | apply pw_below_drewN | apply below_drew1) | exact HB.out))) : w.heap.size ≤ gb545)); have n3_ := Aside0.mk ((by rw [hg]; exact (below_size (by repeat (first | (with_reducible first | exact HB.out | apply below_alloc | apply pw_below_drewN | apply below_drew1) | exact HB.out))) : w.heap.size ≤ gb545)); clear HB; have HB := n0_; have BK545 := n1_; have GW545 := n2_; have GE545 := n3_; clear n0_ n1_ n2_ n3_; clear hb hbox hg; have hcz7_0 : w6.cell? ⟨gb545, 0, none⟩ = some (.slice A0_0 l0_0.length c0_0) := (blk_cell BK545.out 0).trans rfl; have hcz7_1 : w6.cell? ⟨gb545, 1, none⟩ = some (.int .i64 a0_1) := (blk_cell BK545.out 1).trans rfl; have hfz7_0 := blk_frozen BK545.out 0; have hfz7_1 := blk_frozen BK545.out 1) | ((with_reducible refine gate_callee (f := 17) rfl ?_); refine goesL_ (some 11) rfl rfl Tryz.func17 (by kernel_rfl) rfl #[.agg #[.slice A0_0 l0_0.length c0_0, .int .i64 a0_1], .int .i64 a0_1] rfl (by (try simp only [List.map_toArray, List.map_cons, List.map_nil]); first | done | rfl | (simp only [List.length_drop, List.length_take]; rfl)) ?_; (with_reducible refine (dioramaref09_Place.calls _ _ l0_0 a0_1 a0_1 true _ ?side1 ?side2 A2.out).mono ?_); (case side1 => repeat (first | exact (Kd.C_below HR0_0.out HB.out) | (with_reducible refine Kd.C_alloc ?_ _) | (with_reducible refine Kd.C_drewN ?_ _) | (with_reducible refine Kd.C_drew ?_))); (case side2 => exact HC0_0.out); rintro e w8 ⟨rfl, hb⟩; refine ⟨_, rfl, ?_⟩; have n0_ := Aside0.mk (blk_below (g := gb545) (o := .cells #[.slice A0_0 l0_0.length c0_0, .int .i64 a0_1] 24 (0, 0)) (by (with_reducible repeat (first | refine blk_drewN ?_ _ | refine blk_drew ?_ | refine blk_alloc ?_ _)); exact BK545.out) hb); have n1_ := Aside0.mk (below_step (by repeat (first | (with_reducible first | exact HB.out | apply below_alloc | apply pw_below_drewN | apply below_drew1 | refine below_set ?_ GE545.out) | exact HB.out)) hb); clear BK545; clear HB; have BK545 := n0_; have HB := n1_; clear n0_ n1_; (try clear hb); (try clear hb2); (try clear hk); (try clear hi); have hcz9_0 : w8.cell? ⟨gb545, 0, none⟩ = some (.slice A0_0 l0_0.length c0_0) := (blk_cell BK545.out 0).trans rfl; have hcz9_1 : w8.cell? ⟨gb545, 1, none⟩ = some (.int .i64 a0_1) := (blk_cell BK545.out 1).trans rfl; have hfz9_0 := blk_frozen BK545.out 0; have hfz9_1 := blk_frozen BK545.out 1) | ((with_reducible refine gate_callee (f := 82) rfl ?_); refine goesL_ (some 14) rfl rfl Tryz.func82 (by kernel_rfl) rfl #[.agg #[.slice A0_0 l0_0.length c0_0, .int .i64 a0_1]] rfl (by (try simp only [List.map_toArray, List.map_cons, List.map_nil]); first | done | rfl | (simp only [List.length_drop, List.length_take]; rfl)) ?_; (with_reducible refine (dioramaref09_Refs.calls k _ _ l0_0 a0_1 t547 _ ?side1 ?side2 A4.out).mono ?_); (case side1 => repeat (first | exact (Kd.C_below HR0_0.out HB.out) | (with_reducible refine Kd.C_alloc ?_ _) | (with_reducible refine Kd.C_drewN ?_ _) | (with_reducible refine Kd.C_drew ?_))); (case side2 => exact HC0_0.out); rintro e w10 ⟨rfl, hb⟩; refine ⟨_, rfl, ?_⟩; have n0_ := Aside0.mk (blk_below (g := gb545) (o := .cells #[.slice A0_0 l0_0.length c0_0, .int .i64 a0_1] 24 (0, 0)) (by (with_reducible repeat (first | refine blk_drewN ?_ _ | refine blk_drew ?_ | refine blk_alloc ?_ _)); exact BK545.out) hb); have n1_ := Aside0.mk (below_step (by repeat (first | (with_reducible first | exact HB.out | apply below_alloc | apply pw_below_drewN | apply below_drew1 | refine below_set ?_ GE545.out) | exact HB.out)) hb); clear BK545; clear HB; have BK545 := n0_; have HB := n1_; clear n0_ n1_; (try clear hb); (try clear hb2); (try clear hk); (try clear hi)))
   go_ret2
   exact ⟨by first | rfl | (simp [errW_none, errW_some] <;> rfl) | (simp [*, errW_none, errW_some] <;> rfl), by repeat (first | (with_reducible first | exact HB.out | apply below_alloc | apply pw_below_drewN | apply below_drew1 | refine below_set ?_ GE545.out) | exact HB.out)⟩
  ·rw [if_neg c5] at H
   have c5b0 : decide (0 ≤ t547) = false := decide_eq_false c5
   clear c5
   have H' := Aside0.mk H
   clear H
   go_enter Tryz.func44, Tryz.ntmps44
   go_wp2_with (first | ((with_reducible refine gate_dst (N := 1) rfl ?_); refine box_event ?hg (N := 1) ?hd (cs := #[.slice A0_0 l0_0.length c0_0, .int .i64 a0_1]) (t := 24) ?hr ?_; (case hd => rfl); (case hg => rfl); (case hr => first | (go_simp; done) | (go_simp; rfl)); intro gb545 hg w11 hbox hb; have n0_ := Aside0.mk (below_step (by repeat (first | (with_reducible first | exact HB.out | apply below_alloc | apply pw_below_drewN | apply below_drew1) | exact HB.out)) hb); have n1_ := Aside0.mk (hbox); have n2_ := Aside0.mk ((by rw [hg]; exact (below_size (by repeat (first | (with_reducible first | exact HB.out | apply below_alloc | apply pw_below_drewN | apply below_drew1) | exact HB.out))) : w.heap.size ≤ gb545)); have n3_ := Aside0.mk ((by rw [hg]; exact (below_size (by repeat (first | (with_reducible first | exact HB.out | apply below_alloc | apply pw_below_drewN | apply below_drew1) | exact HB.out))) : w.heap.size ≤ gb545)); clear HB; have HB := n0_; have BK545 := n1_; have GW545 := n2_; have GE545 := n3_; clear n0_ n1_ n2_ n3_; clear hb hbox hg; have hcz12_0 : w11.cell? ⟨gb545, 0, none⟩ = some (.slice A0_0 l0_0.length c0_0) := (blk_cell BK545.out 0).trans rfl; have hcz12_1 : w11.cell? ⟨gb545, 1, none⟩ = some (.int .i64 a0_1) := (blk_cell BK545.out 1).trans rfl; have hfz12_0 := blk_frozen BK545.out 0; have hfz12_1 := blk_frozen BK545.out 1) | ((with_reducible refine gate_callee (f := 17) rfl ?_); refine goesL_ (some 11) rfl rfl Tryz.func17 (by kernel_rfl) rfl #[.agg #[.slice A0_0 l0_0.length c0_0, .int .i64 a0_1], .int .i64 a0_1] rfl (by (try simp only [List.map_toArray, List.map_cons, List.map_nil]); first | done | rfl | (simp only [List.length_drop, List.length_take]; rfl)) ?_; (with_reducible refine (dioramaref09_Place.calls _ _ l0_0 a0_1 a0_1 true _ ?side1 ?side2 A2.out).mono ?_); (case side1 => repeat (first | exact (Kd.C_below HR0_0.out HB.out) | (with_reducible refine Kd.C_alloc ?_ _) | (with_reducible refine Kd.C_drewN ?_ _) | (with_reducible refine Kd.C_drew ?_))); (case side2 => exact HC0_0.out); rintro e w13 ⟨rfl, hb⟩; refine ⟨_, rfl, ?_⟩; have n0_ := Aside0.mk (blk_below (g := gb545) (o := .cells #[.slice A0_0 l0_0.length c0_0, .int .i64 a0_1] 24 (0, 0)) (by (with_reducible repeat (first | refine blk_drewN ?_ _ | refine blk_drew ?_ | refine blk_alloc ?_ _)); exact BK545.out) hb); have n1_ := Aside0.mk (below_step (by repeat (first | (with_reducible first | exact HB.out | apply below_alloc | apply pw_below_drewN | apply below_drew1 | refine below_set ?_ GE545.out) | exact HB.out)) hb); clear BK545; clear HB; have BK545 := n0_; have HB := n1_; clear n0_ n1_; (try clear hb); (try clear hb2); (try clear hk); (try clear hi); have hcz14_0 : w13.cell? ⟨gb545, 0, none⟩ = some (.slice A0_0 l0_0.length c0_0) := (blk_cell BK545.out 0).trans rfl; have hcz14_1 : w13.cell? ⟨gb545, 1, none⟩ = some (.int .i64 a0_1) := (blk_cell BK545.out 1).trans rfl; have hfz14_0 := blk_frozen BK545.out 0; have hfz14_1 := blk_frozen BK545.out 1) | ((with_reducible refine gate_callee (f := 82) rfl ?_); refine goesL_ (some 14) rfl rfl Tryz.func82 (by kernel_rfl) rfl #[.agg #[.slice A0_0 l0_0.length c0_0, .int .i64 a0_1]] rfl (by (try simp only [List.map_toArray, List.map_cons, List.map_nil]); first | done | rfl | (simp only [List.length_drop, List.length_take]; rfl)) ?_; (with_reducible refine (dioramaref09_Refs.calls k _ _ l0_0 a0_1 t547 _ ?side1 ?side2 A4.out).mono ?_); (case side1 => repeat (first | exact (Kd.C_below HR0_0.out HB.out) | (with_reducible refine Kd.C_alloc ?_ _) | (with_reducible refine Kd.C_drewN ?_ _) | (with_reducible refine Kd.C_drew ?_))); (case side2 => exact HC0_0.out); rintro e w15 ⟨rfl, hb⟩; refine ⟨_, rfl, ?_⟩; have n0_ := Aside0.mk (blk_below (g := gb545) (o := .cells #[.slice A0_0 l0_0.length c0_0, .int .i64 a0_1] 24 (0, 0)) (by (with_reducible repeat (first | refine blk_drewN ?_ _ | refine blk_drew ?_ | refine blk_alloc ?_ _)); exact BK545.out) hb); have n1_ := Aside0.mk (below_step (by repeat (first | (with_reducible first | exact HB.out | apply below_alloc | apply pw_below_drewN | apply below_drew1 | refine below_set ?_ GE545.out) | exact HB.out)) hb); clear BK545; clear HB; have BK545 := n0_; have HB := n1_; clear n0_ n1_; (try clear hb); (try clear hb2); (try clear hk); (try clear hi)))
   go_loopg [5] k (fun kq v5 w' => ∃ (x5_1 : Int), v5 = .int .i64 x5_1 ∧ Aside0 (dioramaref09_Check.l0 kq x5_1 l0_0 a0_1 = some (r1, r2)) ∧ Aside0 (kq ≤ k) ∧ Aside0 (w'.heap[gb545]? = some (.cells #[(.slice A0_0 l0_0.length c0_0), .int .i64 a0_1] 24 (0, 0))) ∧ Aside0 (Below w.heap.size w w'))
   case atStart => exact ⟨(0), (by first | rfl | (simp; done) | (simp [*]; done)), H', ⟨Nat.le_refl _⟩, ⟨by (with_reducible repeat (first | refine blk_drewN ?_ _ | refine blk_drew ?_ | refine blk_alloc ?_ _)); exact BK545.out⟩, ⟨by repeat (first | (with_reducible first | exact HB.out | apply below_alloc | apply pw_below_drewN | apply below_drew1 | refine below_set ?_ GE545.out) | exact HB.out)⟩⟩
   case round =>
    clear H'
    try clear c1
    try clear p2
    try clear c3
    try clear c4
    try clear c5
    try clear c5b0
    try clear c8
    try clear hcz12_0
    try clear hcz12_1
    try clear hcz14_0
    try clear hcz14_1
    try clear hcz7_0
    try clear hcz7_1
    try clear hcz9_0
    try clear hcz9_1
    try clear hfz12_0
    try clear hfz12_1
    try clear hfz14_0
    try clear hfz14_1
    try clear hfz7_0
    try clear hfz7_1
    try clear hfz9_0
    try clear hfz9_1
    obtain ⟨x5_1, rfl, HA, HK1, BK545, HB⟩ := hrel
    cases gk with
    | zero => exact absurd HA.out (by simp [dioramaref09_Check.l0])
    | succ k1 =>
     have H := HA.out
     clear HA
     simp only [dioramaref09_Check.l0] at H
     by_cases c16 : x5_1 < (l0_0.length : Int)
     ·rw [if_pos c16] at H
      have c16b0 : decide (x5_1 < (l0_0.length : Int)) = true := decide_eq_true c16
      clear c16
      replace H := Option.bind_eq_some_iff.mp H
      obtain ⟨t548, A170, H⟩ := H
      replace H : (if 0 ≤ x5_1 then (if x5_1 < (t548.length : Int) then (if rdOf false t548 x5_1 = true then (some (14, x5_1)) else (dioramaref09_Check.l0 k1 (wrap64 (x5_1 + 1)) l0_0 a0_1)) else (none)) else (none)) = some (r1, r2) := H
      have A17 := Aside0.mk A170
      clear A170
      by_cases c18 : 0 ≤ x5_1
      ·rw [if_pos c18] at H
       have c18b0 : decide (0 ≤ x5_1) = true := decide_eq_true c18
       clear c18
       by_cases c19 : x5_1 < (t548.length : Int)
       ·rw [if_pos c19] at H
        have c19b0 : decide (x5_1 < (t548.length : Int)) = true := decide_eq_true c19
        clear c19
        obtain ⟨bq20, hbq20⟩ : ∃ b_ : Bool, b_ = (rdOf false t548 x5_1) := ⟨_, rfl⟩
        replace H : (if bq20 = true then (some (14, x5_1)) else (dioramaref09_Check.l0 k1 (wrap64 (x5_1 + 1)) l0_0 a0_1)) = some (r1, r2) := by rw [← hbq20] at H; exact H
        have Nbq20 := Aside0.mk hbq20
        clear hbq20
        by_cases c21 : bq20 = true
        ·subst c21
         have H1 : (some (14, x5_1)) = some (r1, r2) := by rw [if_pos rfl] at H; exact H
         clear H
         have H := H1
         clear H1
         simp only [Option.some.injEq, Prod.mk.injEq] at H
         obtain ⟨rfl, rfl⟩ := H
         have hcz22_0 : wr.cell? ⟨gb545, 0, none⟩ = some (.slice A0_0 l0_0.length c0_0) := (blk_cell BK545.out 0).trans rfl
         have hcz22_1 : wr.cell? ⟨gb545, 1, none⟩ = some (.int .i64 a0_1) := (blk_cell BK545.out 1).trans rfl
         have hfz22_0 := blk_frozen BK545.out 0
         have hfz22_1 := blk_frozen BK545.out 1
         go_wp2_with (first | ((with_reducible refine gate_callee (f := 83) rfl ?_); refine goesL_ (some 27) rfl rfl Tryz.func83 (by kernel_rfl) rfl #[.agg #[.slice A0_0 l0_0.length c0_0, .int .i64 a0_1], .int .i64 x5_1] rfl (by (try simp only [List.map_toArray, List.map_cons, List.map_nil]); first | done | rfl | (simp only [List.length_drop, List.length_take]; rfl)) ?_; (with_reducible refine (dioramaref09_Led.calls k1 _ _ l0_0 a0_1 x5_1 t548 _ ?side1 ?side2 A17.out).mono ?_); (case side1 => repeat (first | exact (Kd.C_below HR0_0.out HB.out) | (with_reducible refine Kd.C_alloc ?_ _) | (with_reducible refine Kd.C_drewN ?_ _) | (with_reducible refine Kd.C_drew ?_))); (case side2 => exact HC0_0.out); rintro e w23 ⟨v549, rfl, ho0, hb⟩; refine ⟨_, rfl, ?_⟩; have n0_ := Aside0.mk (Kd.R_lower ho0 (below_size (by repeat (first | (with_reducible first | exact HB.out | apply below_alloc | apply pw_below_drewN | apply below_drew1 | refine below_set ?_ GE545.out) | exact HB.out)))); have n1_ := Aside0.mk (blk_below (g := gb545) (o := .cells #[.slice A0_0 l0_0.length c0_0, .int .i64 a0_1] 24 (0, 0)) (by (with_reducible repeat (first | refine blk_drewN ?_ _ | refine blk_drew ?_ | refine blk_alloc ?_ _)); exact BK545.out) hb); have n2_ := Aside0.mk (below_step (by repeat (first | (with_reducible first | exact HB.out | apply below_alloc | apply pw_below_drewN | apply below_drew1 | refine below_set ?_ GE545.out) | exact HB.out)) hb); clear BK545; clear HB; have HO550 := n0_; have BK545 := n1_; have HB := n2_; clear n0_ n1_ n2_; (try clear hb); (try clear hb2); (try clear hk); (try clear hi); (try clear ho0); obtain ⟨Ao24, co24, eo24⟩ := Kd.R_slice HO550.out; subst eo24; have p551 : 0 ≤ (x5_1 : Int) := of_decide_eq_true (by first | (with_reducible assumption) | assumption); have q551 : x5_1 < (t548.length : Int) := of_decide_eq_true (by first | (with_reducible assumption) | assumption); obtain ⟨ad551, e551, hx551_0⟩ := Kd.at_bool (Kd.R_reads' HO550.out).2.2 x5_1 p551 q551; (try rw [← Nbq20.out] at hx551_0); cases e551; replace p551 := eq_true p551; replace q551 := eq_true q551))
         go_ret2
         exact ⟨by first | rfl | (simp [errW_none, errW_some] <;> rfl) | (simp [*, errW_none, errW_some] <;> rfl), by repeat (first | (with_reducible first | exact HB.out | apply below_alloc | apply pw_below_drewN | apply below_drew1 | refine below_set ?_ GE545.out) | exact HB.out)⟩
        ·replace c21 := Bool.eq_false_iff.mpr c21
         subst c21
         have H1 : (dioramaref09_Check.l0 k1 (wrap64 (x5_1 + 1)) l0_0 a0_1) = some (r1, r2) := by rw [if_neg (show ¬ (false = true) by decide)] at H; exact H
         clear H
         have H := H1
         clear H1
         have H' := Aside0.mk H
         clear H
         have hcz25_0 : wr.cell? ⟨gb545, 0, none⟩ = some (.slice A0_0 l0_0.length c0_0) := (blk_cell BK545.out 0).trans rfl
         have hcz25_1 : wr.cell? ⟨gb545, 1, none⟩ = some (.int .i64 a0_1) := (blk_cell BK545.out 1).trans rfl
         have hfz25_0 := blk_frozen BK545.out 0
         have hfz25_1 := blk_frozen BK545.out 1
         go_wp2_with (first | ((with_reducible refine gate_callee (f := 83) rfl ?_); refine goesL_ (some 27) rfl rfl Tryz.func83 (by kernel_rfl) rfl #[.agg #[.slice A0_0 l0_0.length c0_0, .int .i64 a0_1], .int .i64 x5_1] rfl (by (try simp only [List.map_toArray, List.map_cons, List.map_nil]); first | done | rfl | (simp only [List.length_drop, List.length_take]; rfl)) ?_; (with_reducible refine (dioramaref09_Led.calls k1 _ _ l0_0 a0_1 x5_1 t548 _ ?side1 ?side2 A17.out).mono ?_); (case side1 => repeat (first | exact (Kd.C_below HR0_0.out HB.out) | (with_reducible refine Kd.C_alloc ?_ _) | (with_reducible refine Kd.C_drewN ?_ _) | (with_reducible refine Kd.C_drew ?_))); (case side2 => exact HC0_0.out); rintro e w26 ⟨v549, rfl, ho0, hb⟩; refine ⟨_, rfl, ?_⟩; have n0_ := Aside0.mk (Kd.R_lower ho0 (below_size (by repeat (first | (with_reducible first | exact HB.out | apply below_alloc | apply pw_below_drewN | apply below_drew1 | refine below_set ?_ GE545.out) | exact HB.out)))); have n1_ := Aside0.mk (blk_below (g := gb545) (o := .cells #[.slice A0_0 l0_0.length c0_0, .int .i64 a0_1] 24 (0, 0)) (by (with_reducible repeat (first | refine blk_drewN ?_ _ | refine blk_drew ?_ | refine blk_alloc ?_ _)); exact BK545.out) hb); have n2_ := Aside0.mk (below_step (by repeat (first | (with_reducible first | exact HB.out | apply below_alloc | apply pw_below_drewN | apply below_drew1 | refine below_set ?_ GE545.out) | exact HB.out)) hb); clear BK545; clear HB; have HO550 := n0_; have BK545 := n1_; have HB := n2_; clear n0_ n1_ n2_; (try clear hb); (try clear hb2); (try clear hk); (try clear hi); (try clear ho0); obtain ⟨Ao27, co27, eo27⟩ := Kd.R_slice HO550.out; subst eo27; have p551 : 0 ≤ (x5_1 : Int) := of_decide_eq_true (by first | (with_reducible assumption) | assumption); have q551 : x5_1 < (t548.length : Int) := of_decide_eq_true (by first | (with_reducible assumption) | assumption); obtain ⟨ad551, e551, hx551_0⟩ := Kd.at_bool (Kd.R_reads' HO550.out).2.2 x5_1 p551 q551; (try rw [← Nbq20.out] at hx551_0); cases e551; replace p551 := eq_true p551; replace q551 := eq_true q551))
         go_roundg k1
         case measure => have := HK1.out; omega
         case rel => exact ⟨(wrap64 (x5_1 + 1)), (by first | rfl | (simp; done) | (simp [*]; done)), H', ⟨by have := HK1.out; omega⟩, ⟨by (with_reducible repeat (first | refine blk_drewN ?_ _ | refine blk_drew ?_ | refine blk_alloc ?_ _)); exact BK545.out⟩, ⟨by repeat (first | (with_reducible first | exact HB.out | apply below_alloc | apply pw_below_drewN | apply below_drew1 | refine below_set ?_ GE545.out) | exact HB.out)⟩⟩
       ·rw [if_neg c19] at H
        exact absurd H (by simp)
      ·rw [if_neg c18] at H
       exact absurd H (by simp)
     ·rw [if_neg c16] at H
      have c16b0 : decide (x5_1 < (l0_0.length : Int)) = false := decide_eq_false c16
      clear c16
      replace H := Option.bind_eq_some_iff.mp H
      obtain ⟨t552, A280, H⟩ := H
      replace H : (dioramaref09_Check.l1 k1 t552 0 l0_0 a0_1) = some (r1, r2) := H
      have A28 := Aside0.mk A280
      clear A280
      have H' := Aside0.mk H
      clear H
      have hcz29_0 : wr.cell? ⟨gb545, 0, none⟩ = some (.slice A0_0 l0_0.length c0_0) := (blk_cell BK545.out 0).trans rfl
      have hcz29_1 : wr.cell? ⟨gb545, 1, none⟩ = some (.int .i64 a0_1) := (blk_cell BK545.out 1).trans rfl
      have hfz29_0 := blk_frozen BK545.out 0
      have hfz29_1 := blk_frozen BK545.out 1
      go_wp2_with (first | ((with_reducible refine gate_callee (f := 83) rfl ?_); refine goesL_ (some 35) rfl rfl Tryz.func83 (by kernel_rfl) rfl #[.agg #[.slice A0_0 l0_0.length c0_0, .int .i64 a0_1], .int .i64 a0_1] rfl (by (try simp only [List.map_toArray, List.map_cons, List.map_nil]); first | done | rfl | (simp only [List.length_drop, List.length_take]; rfl)) ?_; (with_reducible refine (dioramaref09_Led.calls k1 _ _ l0_0 a0_1 a0_1 t552 _ ?side1 ?side2 A28.out).mono ?_); (case side1 => repeat (first | exact (Kd.C_below HR0_0.out HB.out) | (with_reducible refine Kd.C_alloc ?_ _) | (with_reducible refine Kd.C_drewN ?_ _) | (with_reducible refine Kd.C_drew ?_))); (case side2 => exact HC0_0.out); rintro e w30 ⟨v553, rfl, ho0, hb⟩; refine ⟨_, rfl, ?_⟩; have n0_ := Aside0.mk (Kd.R_lower ho0 (below_size (by repeat (first | (with_reducible first | exact HB.out | apply below_alloc | apply pw_below_drewN | apply below_drew1 | refine below_set ?_ GE545.out) | exact HB.out)))); have n1_ := Aside0.mk (blk_below (g := gb545) (o := .cells #[.slice A0_0 l0_0.length c0_0, .int .i64 a0_1] 24 (0, 0)) (by (with_reducible repeat (first | refine blk_drewN ?_ _ | refine blk_drew ?_ | refine blk_alloc ?_ _)); exact BK545.out) hb); have n2_ := Aside0.mk (below_step (by repeat (first | (with_reducible first | exact HB.out | apply below_alloc | apply pw_below_drewN | apply below_drew1 | refine below_set ?_ GE545.out) | exact HB.out)) hb); clear BK545; clear HB; have HO554 := n0_; have BK545 := n1_; have HB := n2_; clear n0_ n1_ n2_; (try clear hb); (try clear hb2); (try clear hk); (try clear hi); (try clear ho0)))
      go_loopg [7] k1 (fun kq v7 w' => ∃ (x7_2 : Int), v7 = .int .i64 x7_2 ∧ Aside0 (dioramaref09_Check.l1 kq t552 x7_2 l0_0 a0_1 = some (r1, r2)) ∧ Aside0 (kq ≤ k1) ∧ Aside0 (Kd.R Kd.bool 4 w' w.heap.size (fun _ => True) v553 t552) ∧ Aside0 (w'.heap[gb545]? = some (.cells #[(.slice A0_0 l0_0.length c0_0), .int .i64 a0_1] 24 (0, 0))) ∧ Aside0 (Below w.heap.size w w'))
      case atStart => exact ⟨(0), (by first | rfl | (simp; done) | (simp [*]; done)), H', ⟨Nat.le_refl _⟩, ⟨by (with_reducible repeat (first | apply Kd.R_alloc | apply Kd.R_drewN | apply Kd.R_drew)); exact HO554.out⟩, ⟨by (with_reducible repeat (first | refine blk_drewN ?_ _ | refine blk_drew ?_ | refine blk_alloc ?_ _)); exact BK545.out⟩, ⟨by repeat (first | (with_reducible first | exact HB.out | apply below_alloc | apply pw_below_drewN | apply below_drew1 | refine below_set ?_ GE545.out) | exact HB.out)⟩⟩
      case round =>
       clear H'
       try clear c1
       try clear c2
       try clear p2
       try clear q2
       try clear c3
       try clear c4
       try clear c5
       try clear c5b0
       try clear p5
       try clear q5
       try clear hx5
       try clear p6
       try clear c8
       try clear c16
       try clear c16b0
       try clear c17
       try clear c18
       try clear c18b0
       try clear c19
       try clear c19b0
       try clear q20
       try clear c21
       try clear hcz12_0
       try clear hcz12_1
       try clear hcz14_0
       try clear hcz14_1
       try clear hcz22_0
       try clear hcz22_1
       try clear hcz25_0
       try clear hcz25_1
       try clear hcz29_0
       try clear hcz29_1
       try clear hcz7_0
       try clear hcz7_1
       try clear hcz9_0
       try clear hcz9_1
       try clear hfz12_0
       try clear hfz12_1
       try clear hfz14_0
       try clear hfz14_1
       try clear hfz22_0
       try clear hfz22_1
       try clear hfz25_0
       try clear hfz25_1
       try clear hfz29_0
       try clear hfz29_1
       try clear hfz7_0
       try clear hfz7_1
       try clear hfz9_0
       try clear hfz9_1
       try clear hx551_0
       try clear p2
       try clear p551
       try clear q551
       obtain ⟨x7_2, rfl, HA, HK2, HO_6, BK545, HB⟩ := hrel
       cases gk with
       | zero => exact absurd HA.out (by simp [dioramaref09_Check.l1])
       | succ k2 =>
        have H := HA.out
        clear HA
        simp only [dioramaref09_Check.l1] at H
        by_cases c31 : x7_2 < (l0_0.length : Int)
        ·rw [if_pos c31] at H
         have c31b0 : decide (x7_2 < (l0_0.length : Int)) = true := decide_eq_true c31
         clear c31
         by_cases c32 : x7_2 = a0_1
         ·rw [if_pos c32] at H
          have c32b0 : (x7_2 == a0_1) = true := beq_iff_eq.mpr c32
          have c32b1 : (x7_2 != a0_1) = false := bne_eq_false_iff_eq.mpr c32
          clear c32
          have H' := Aside0.mk H
          clear H
          have hcz33_0 : wr.cell? ⟨gb545, 0, none⟩ = some (.slice A0_0 l0_0.length c0_0) := (blk_cell BK545.out 0).trans rfl
          have hcz33_1 : wr.cell? ⟨gb545, 1, none⟩ = some (.int .i64 a0_1) := (blk_cell BK545.out 1).trans rfl
          have hfz33_0 := blk_frozen BK545.out 0
          have hfz33_1 := blk_frozen BK545.out 1
          go_wp2
          go_roundg k2
          case measure => have := HK1.out; have := HK2.out; omega
          case rel => exact ⟨(wrap64 (x7_2 + 1)), (by first | rfl | (simp; done) | (simp [*]; done)), H', ⟨by have := HK1.out; have := HK2.out; omega⟩, ⟨by (with_reducible repeat (first | apply Kd.R_alloc | apply Kd.R_drewN | apply Kd.R_drew)); exact HO_6.out⟩, ⟨by (with_reducible repeat (first | refine blk_drewN ?_ _ | refine blk_drew ?_ | refine blk_alloc ?_ _)); exact BK545.out⟩, ⟨by repeat (first | (with_reducible first | exact HB.out | apply below_alloc | apply pw_below_drewN | apply below_drew1 | refine below_set ?_ GE545.out) | exact HB.out)⟩⟩
         ·rw [if_neg c32] at H
          have c32b0 : (x7_2 == a0_1) = false := beq_eq_false_iff_ne.mpr c32
          have c32b1 : (x7_2 != a0_1) = true := bne_iff_ne.mpr c32
          by_cases c34 : 0 ≤ x7_2
          ·rw [if_pos c34] at H
           have c34b0 : decide (0 ≤ x7_2) = true := decide_eq_true c34
           clear c34
           by_cases c35 : x7_2 < (t552.length : Int)
           ·rw [if_pos c35] at H
            have c35b0 : decide (x7_2 < (t552.length : Int)) = true := decide_eq_true c35
            clear c35
            obtain ⟨bq36, hbq36⟩ : ∃ b_ : Bool, b_ = (rdOf false t552 x7_2) := ⟨_, rfl⟩
            replace H : (if bq36 = true then (dioramaref09_Check.l1 k2 t552 (wrap64 (x7_2 + 1)) l0_0 a0_1) else (some (15, x7_2))) = some (r1, r2) := by rw [← hbq36] at H; exact H
            have Nbq36 := Aside0.mk hbq36
            clear hbq36
            by_cases c37 : bq36 = true
            ·subst c37
             have H1 : (dioramaref09_Check.l1 k2 t552 (wrap64 (x7_2 + 1)) l0_0 a0_1) = some (r1, r2) := by rw [if_pos rfl] at H; exact H
             clear H
             have H := H1
             clear H1
             have H' := Aside0.mk H
             clear H
             have hcz38_0 : wr.cell? ⟨gb545, 0, none⟩ = some (.slice A0_0 l0_0.length c0_0) := (blk_cell BK545.out 0).trans rfl
             have hcz38_1 : wr.cell? ⟨gb545, 1, none⟩ = some (.int .i64 a0_1) := (blk_cell BK545.out 1).trans rfl
             have hfz38_0 := blk_frozen BK545.out 0
             have hfz38_1 := blk_frozen BK545.out 1
             obtain ⟨Ao39, co39, eo39⟩ := Kd.R_slice HO_6.out
             subst eo39
             have p555 : 0 ≤ (x7_2 : Int) := of_decide_eq_true (by first | (with_reducible assumption) | assumption)
             have q555 : x7_2 < (t552.length : Int) := of_decide_eq_true (by first | (with_reducible assumption) | assumption)
             obtain ⟨ad555, e555, hx555_0⟩ := Kd.at_bool (Kd.R_reads' HO_6.out).2.2 x7_2 p555 q555
             (try rw [← Nbq36.out] at hx555_0)
             cases e555
             replace p555 := eq_true p555
             replace q555 := eq_true q555
             go_wp2
             go_roundg k2
             case measure => have := HK1.out; have := HK2.out; omega
             case rel => exact ⟨(wrap64 (x7_2 + 1)), (by first | rfl | (simp; done) | (simp [*]; done)), H', ⟨by have := HK1.out; have := HK2.out; omega⟩, ⟨by (with_reducible repeat (first | apply Kd.R_alloc | apply Kd.R_drewN | apply Kd.R_drew)); exact HO_6.out⟩, ⟨by (with_reducible repeat (first | refine blk_drewN ?_ _ | refine blk_drew ?_ | refine blk_alloc ?_ _)); exact BK545.out⟩, ⟨by repeat (first | (with_reducible first | exact HB.out | apply below_alloc | apply pw_below_drewN | apply below_drew1 | refine below_set ?_ GE545.out) | exact HB.out)⟩⟩
            ·replace c37 := Bool.eq_false_iff.mpr c37
             subst c37
             have H1 : (some (15, x7_2)) = some (r1, r2) := by rw [if_neg (show ¬ (false = true) by decide)] at H; exact H
             clear H
             have H := H1
             clear H1
             simp only [Option.some.injEq, Prod.mk.injEq] at H
             obtain ⟨rfl, rfl⟩ := H
             have hcz40_0 : wr.cell? ⟨gb545, 0, none⟩ = some (.slice A0_0 l0_0.length c0_0) := (blk_cell BK545.out 0).trans rfl
             have hcz40_1 : wr.cell? ⟨gb545, 1, none⟩ = some (.int .i64 a0_1) := (blk_cell BK545.out 1).trans rfl
             have hfz40_0 := blk_frozen BK545.out 0
             have hfz40_1 := blk_frozen BK545.out 1
             obtain ⟨Ao41, co41, eo41⟩ := Kd.R_slice HO_6.out
             subst eo41
             have p555 : 0 ≤ (x7_2 : Int) := of_decide_eq_true (by first | (with_reducible assumption) | assumption)
             have q555 : x7_2 < (t552.length : Int) := of_decide_eq_true (by first | (with_reducible assumption) | assumption)
             obtain ⟨ad555, e555, hx555_0⟩ := Kd.at_bool (Kd.R_reads' HO_6.out).2.2 x7_2 p555 q555
             (try rw [← Nbq36.out] at hx555_0)
             cases e555
             replace p555 := eq_true p555
             replace q555 := eq_true q555
             go_wp2
             go_ret2
             exact ⟨by first | rfl | (simp [errW_none, errW_some] <;> rfl) | (simp [*, errW_none, errW_some] <;> rfl), by repeat (first | (with_reducible first | exact HB.out | apply below_alloc | apply pw_below_drewN | apply below_drew1 | refine below_set ?_ GE545.out) | exact HB.out)⟩
           ·rw [if_neg c35] at H
            exact absurd H (by simp)
          ·rw [if_neg c34] at H
           exact absurd H (by simp)
        ·rw [if_neg c31] at H
         have c31b0 : decide (x7_2 < (l0_0.length : Int)) = false := decide_eq_false c31
         clear c31
         simp only [Option.some.injEq, Prod.mk.injEq] at H
         obtain ⟨rfl, rfl⟩ := H
         have hcz42_0 : wr.cell? ⟨gb545, 0, none⟩ = some (.slice A0_0 l0_0.length c0_0) := (blk_cell BK545.out 0).trans rfl
         have hcz42_1 : wr.cell? ⟨gb545, 1, none⟩ = some (.int .i64 a0_1) := (blk_cell BK545.out 1).trans rfl
         have hfz42_0 := blk_frozen BK545.out 0
         have hfz42_1 := blk_frozen BK545.out 1
         go_wp2
         go_ret2
         exact ⟨by first | rfl | (simp [errW_none, errW_some] <;> rfl) | (simp [*, errW_none, errW_some] <;> rfl), by repeat (first | (with_reducible first | exact HB.out | apply below_alloc | apply pw_below_drewN | apply below_drew1 | refine below_set ?_ GE545.out) | exact HB.out)⟩
 ·replace c3 := Bool.eq_false_iff.mpr c3
  subst c3
  have H1 : (some (13, (-1))) = some (r1, r2) := by rw [if_neg (show ¬ (false = true) by decide)] at H; exact H
  clear H
  have H := H1
  clear H1
  simp only [Option.some.injEq, Prod.mk.injEq] at H
  obtain ⟨rfl, rfl⟩ := H
  go_enter Tryz.func44, Tryz.ntmps44
  go_wp2_with (first | ((with_reducible refine gate_dst (N := 1) rfl ?_); refine box_event ?hg (N := 1) ?hd (cs := #[.slice A0_0 l0_0.length c0_0, .int .i64 a0_1]) (t := 24) ?hr ?_; (case hd => rfl); (case hg => rfl); (case hr => first | (go_simp; done) | (go_simp; rfl)); intro gb545 hg w43 hbox hb; have n0_ := Aside0.mk (below_step (by repeat (first | (with_reducible first | exact HB.out | apply below_alloc | apply pw_below_drewN | apply below_drew1) | exact HB.out)) hb); have n1_ := Aside0.mk (hbox); have n2_ := Aside0.mk ((by rw [hg]; exact (below_size (by repeat (first | (with_reducible first | exact HB.out | apply below_alloc | apply pw_below_drewN | apply below_drew1) | exact HB.out))) : w.heap.size ≤ gb545)); have n3_ := Aside0.mk ((by rw [hg]; exact (below_size (by repeat (first | (with_reducible first | exact HB.out | apply below_alloc | apply pw_below_drewN | apply below_drew1) | exact HB.out))) : w.heap.size ≤ gb545)); clear HB; have HB := n0_; have BK545 := n1_; have GW545 := n2_; have GE545 := n3_; clear n0_ n1_ n2_ n3_; clear hb hbox hg; have hcz44_0 : w43.cell? ⟨gb545, 0, none⟩ = some (.slice A0_0 l0_0.length c0_0) := (blk_cell BK545.out 0).trans rfl; have hcz44_1 : w43.cell? ⟨gb545, 1, none⟩ = some (.int .i64 a0_1) := (blk_cell BK545.out 1).trans rfl; have hfz44_0 := blk_frozen BK545.out 0; have hfz44_1 := blk_frozen BK545.out 1) | ((with_reducible refine gate_callee (f := 17) rfl ?_); refine goesL_ (some 11) rfl rfl Tryz.func17 (by kernel_rfl) rfl #[.agg #[.slice A0_0 l0_0.length c0_0, .int .i64 a0_1], .int .i64 a0_1] rfl (by (try simp only [List.map_toArray, List.map_cons, List.map_nil]); first | done | rfl | (simp only [List.length_drop, List.length_take]; rfl)) ?_; (with_reducible refine (dioramaref09_Place.calls _ _ l0_0 a0_1 a0_1 false _ ?side1 ?side2 A2.out).mono ?_); (case side1 => repeat (first | exact (Kd.C_below HR0_0.out HB.out) | (with_reducible refine Kd.C_alloc ?_ _) | (with_reducible refine Kd.C_drewN ?_ _) | (with_reducible refine Kd.C_drew ?_))); (case side2 => exact HC0_0.out); rintro e w45 ⟨rfl, hb⟩; refine ⟨_, rfl, ?_⟩; have n0_ := Aside0.mk (blk_below (g := gb545) (o := .cells #[.slice A0_0 l0_0.length c0_0, .int .i64 a0_1] 24 (0, 0)) (by (with_reducible repeat (first | refine blk_drewN ?_ _ | refine blk_drew ?_ | refine blk_alloc ?_ _)); exact BK545.out) hb); have n1_ := Aside0.mk (below_step (by repeat (first | (with_reducible first | exact HB.out | apply below_alloc | apply pw_below_drewN | apply below_drew1 | refine below_set ?_ GE545.out) | exact HB.out)) hb); clear BK545; clear HB; have BK545 := n0_; have HB := n1_; clear n0_ n1_; (try clear hb); (try clear hb2); (try clear hk); (try clear hi)))
  go_ret2
  exact ⟨by first | rfl | (simp [errW_none, errW_some] <;> rfl) | (simp [*, errW_none, errW_some] <;> rfl), by repeat (first | (with_reducible first | exact HB.out | apply below_alloc | apply pw_below_drewN | apply below_drew1 | refine below_set ?_ GE545.out) | exact HB.out)⟩

end Go.Proofs.YtggldnbhmebcpaaGreatDoor.PDeltaMakes
end
