/- Part 4 of the texts that YtggldnbhmebcpaaDoorRowMC rests on, joined by a program: what its functions come to. Conditions: those that each theorem states. -/
import Derived.Test.YtggldnbhmebcpaaDoorQjc
import Derived.WalkSpells
import Derived.Deep.LoopGhost
import Derived.Deep.RegionHeld3
import Derived.Shelf.RegionOpenPlain
import Derived.Lib.Strings
import Derived.Lib.Slices
import Derived.Lib.Walk
import Derived.Lib.Builder
import Derived.Lib.AppendStr
import Derived.Lib.UnsafeStr
import Derived.Laws.Externs
import Derived.Laws.IdiomCopy
import Derived.Shelf.Strings.Builder1
import Derived.Shelf.Small.Utf8
import Derived.Shelf.Small.Wraps
import Derived.Shelf.Strings.BuilderF
import Derived.Shelf.Strings.BuilderK
import Derived.Shelf.Utf8.AppendRune
import Derived.Shelf.Strconv.Bsearch
import Derived.Shelf.Strconv.IsPrint
import Derived.Shelf.Strconv.IsPrint16
import Derived.Shelf.Strconv.IsPrint32
import Derived.Shelf.Strconv.Escaped
import Derived.Shelf.Strconv.Quoted
import Derived.Shelf.Strconv.Quote
import Derived.Shelf.Strconv.Itoa0
import Derived.Shelf.Strconv.Itoa1
import Derived.Shelf.LaysM
import Derived.Shelf.Strconv.Itoa2
import Derived.Shelf.Strconv.Itoa3
import Derived.Shelf.Strconv.Itoa4
import Derived.Shelf.Unicode.Decode
import Derived.Shelf.Unicode.DecodeSlow
import Derived.Shelf.Unicode.DecodeAny
import Derived.Ground.Names2Prog
import Derived.Shelf.Slices.Clone
import Derived.Shelf.Slices.SearchI
import Derived.Ground.SlgnProg
import Derived.Shelf.SlicesG.Clone
import Derived.Shelf.SlicesE.Clone
import Derived.Test.YtggldnbhmebcpaaDoorProg
import Derived.Deep.QuietTactic
import Derived.BigQuiet
set_option linter.unusedVariables false
set_option linter.unusedSimpArgs false
section
namespace Go.Proofs.YtggldnbhmebcpaaDoor.L
open Go.RowKit Go.ChangeShapes Go.WideShapes Go.Proofs.YtggldnbhmebcpaaDoorW.PrintWords Go.Proofs.YtggldnbhmebcpaaDoorW.PrintLast Go.Proofs.YtggldnbhmebcpaaDoorW.PrintMore
attribute [local go_sem] max2_int min2_int max_two min_two max_three min_three max_four min_four
def kindW (n : Node) : List UInt8 := [107, 105, 110, 100] ++ wNums [n.kind, (n.ints.length : Int), (n.texts.length : Int)]
theorem kindW_inj {n m : Node} : kindW n = kindW m ↔ n.kind = m.kind ∧ n.ints.length = m.ints.length ∧ n.texts.length = m.texts.length := by
  refine ⟨fun h => ?_, fun ⟨h1, h2, h3⟩ => by unfold kindW; rw [h1, h2, h3]⟩
  have h1 := List.append_cancel_left (show [107, 105, 110, 100] ++ wNums [n.kind, (n.ints.length : Int), (n.texts.length : Int)] = [107, 105, 110, 100] ++ wNums [m.kind, (m.ints.length : Int), (m.texts.length : Int)] from h)
  have h2 := (wNums_inj (l := [n.kind, (n.ints.length : Int), (n.texts.length : Int)]) (l' := [m.kind, (m.ints.length : Int), (m.texts.length : Int)]) (r := []) (r' := []) (.inl rfl) (.inl rfl) (by rw [List.append_nil, List.append_nil]; exact h1)).1
  injection h2 with e1 h2
  injection h2 with e2 h2
  injection h2 with e3 _
  exact ⟨e1, by omega, by omega⟩
theorem kindW_num (n : Node) (z : Int) : kindW n ≠ Lib.itoa z := fun h => by
  obtain ⟨x, l, e, hx⟩ := itoa_head z
  have h2 : (107 : UInt8) :: ([105, 110, 100] ++ wNums [n.kind, (n.ints.length : Int), (n.texts.length : Int)]) = x :: l := by rw [← e]; exact h
  injection h2 with e1 _
  subst e1
  rcases hx with h | h <;> revert h <;> decide
def updR (r : List UInt8 → List Int) (q : List UInt8) (x : Int) : List UInt8 → List Int := fun p => if p = q then r q ++ [x] else r p
def openR (nums : List Int) (ns : List Node) : Nat → List UInt8 → List Int
  | 0 => fun _ => []
  | i + 1 => updR (updR (openR nums ns i) (Lib.itoa (rd nums (i : Int))) (i : Int)) (kindW (nd ns i)) (i : Int)
def sel (p : Nat → Bool) (n : Nat) : List Int := ((List.range n).filter p).map (fun k : Nat => (k : Int))
theorem sel_succ (p : Nat → Bool) (n : Nat) : sel p (n + 1) = if p n = true then sel p n ++ [(n : Int)] else sel p n := by
  unfold sel
  rw [List.range_succ, List.filter_append, List.map_append]
  by_cases h : p n = true
  · rw [if_pos h]; simp [h]
  · rw [if_neg h]; simp [h]
theorem openR_num (nums : List Int) (ns : List Node) (z : Int) : ∀ m : Nat, openR nums ns m (Lib.itoa z) = sel (fun i => decide (rd nums (i : Int) = z)) m
  | 0 => rfl
  | m + 1 => by
    have ih := openR_num nums ns z m
    rw [sel_succ]
    show updR (updR (openR nums ns m) (Lib.itoa (rd nums (m : Int))) (m : Int)) (kindW (nd ns m)) (m : Int) (Lib.itoa z) = _
    unfold updR
    rw [if_neg (fun e => kindW_num (nd ns m) z e.symm)]
    by_cases h : rd nums (m : Int) = z
    · rw [if_pos (by rw [h]), if_pos (decide_eq_true h), h, ih]
    · rw [if_neg (fun e => h (itoa_inj e).symm), if_neg (by simpa using h), ih]
theorem openR_kind (nums : List Int) (ns : List Node) (x : Node) : ∀ m : Nat, openR nums ns m (kindW x) = sel (fun i => decide (kindW (nd ns i) = kindW x)) m
  | 0 => rfl
  | m + 1 => by
    have ih := openR_kind nums ns x m
    rw [sel_succ]
    show updR (updR (openR nums ns m) (Lib.itoa (rd nums (m : Int))) (m : Int)) (kindW (nd ns m)) (m : Int) (kindW x) = _
    have hn : ∀ y : Node, updR (openR nums ns m) (Lib.itoa (rd nums (m : Int))) (m : Int) (kindW y) = openR nums ns m (kindW y) := fun y => by
      unfold updR
      rw [if_neg (kindW_num y _)]
    by_cases h : kindW (nd ns m) = kindW x
    · rw [if_pos (decide_eq_true h), h]
      show (if kindW x = kindW x then _ else _) = _
      rw [if_pos rfl, hn, ih]
    · rw [if_neg (by simpa using h)]
      show (if kindW x = kindW (nd ns m) then _ else _) = _
      rw [if_neg (fun e => h e.symm), hn, ih]
def firstL (l : List Int) (tk : List Int) : Int := (l.find? (fun k => !decide (k ∈ tk))).getD (-1)
theorem firstL_yes {x : Int} {l tk : List Int} (h : x ∉ tk) : firstL (x :: l) tk = x := by
  unfold firstL
  rw [List.find?_cons_of_pos (by simpa using h)]; rfl
theorem firstL_no {x : Int} {l tk : List Int} (h : x ∈ tk) : firstL (x :: l) tk = firstL l tk := by
  unfold firstL
  rw [List.find?_cons_of_neg (by simpa using h)]
theorem firstL_drop {tk : List Int} : ∀ {l : List Int} {d : Nat}, (∀ x ∈ l.take d, x ∈ tk) → firstL (l.drop d) tk = firstL l tk
  | [], d, _ => by simp
  | x :: l, 0, _ => rfl
  | x :: l, d + 1, h => by
    rw [firstL_no (h x (by simp))]
    exact firstL_drop (l := l) (d := d) (fun y hy => h y (by rw [List.take_succ_cons]; exact List.mem_cons_of_mem _ hy))
theorem find_map_filter {p : Nat → Bool} {q : Int → Bool} : ∀ l : List Nat, (((l.filter p).map (fun k : Nat => (k : Int))).find? q).getD (-1) = match l.find? (fun k => p k && q (k : Int)) with | some k => (k : Int) | none => -1
  | [] => rfl
  | x :: l => by
    by_cases hp : p x = true
    · by_cases hq : q (x : Int) = true
      · rw [List.filter_cons_of_pos hp, List.map_cons, List.find?_cons_of_pos hq, List.find?_cons_of_pos (by simp [hp, hq])]; rfl
      · rw [List.filter_cons_of_pos hp, List.map_cons, List.find?_cons_of_neg (by simpa using hq), List.find?_cons_of_neg (by simp [hq])]
        exact find_map_filter l
    · rw [List.filter_cons_of_neg hp, List.find?_cons_of_neg (by simp [hp])]
      exact find_map_filter l
theorem firstL_sel (p : Nat → Bool) (n : Nat) (tk : List Int) : firstL (sel p n) tk = firstF p tk n := by
  unfold firstL sel firstF
  exact find_map_filter _
theorem firstF_tk {p : Nat → Bool} {n : Nat} {tk us : List Int} (h : ∀ k : Nat, k < n → ((k : Int) ∈ tk ↔ (k : Int) ∈ us)) : firstF p tk n = firstF p us n := by
  rcases firstF_cases p tk n with ⟨e, h1⟩ | ⟨k, hk, e, hp, hn, h1⟩ <;> rcases firstF_cases p us n with ⟨e', h1'⟩ | ⟨k', hk', e', hp', hn', h1'⟩
  · rw [e, e']
  · exact absurd ((h k' hk').1 (h1 k' hk' hp')) hn'
  · exact absurd ((h k hk).2 (h1' k hk hp)) hn
  · rw [e, e']
    rcases Nat.lt_trichotomy k k' with g | g | g
    · exact absurd ((h k hk).2 (h1' k g hp)) hn
    · rw [g]
    · exact absurd ((h k' hk').1 (h1 k' g hp')) hn'
end Go.Proofs.YtggldnbhmebcpaaDoor.L
end
section
namespace Go.Proofs.YtggldnbhmebcpaaDoor.L
open Go.RowKit Go.ChangeShapes Go.WideShapes Go.Proofs.YtggldnbhmebcpaaDoorW.PrintWords Go.Proofs.YtggldnbhmebcpaaDoorW.PrintLast Go.Proofs.YtggldnbhmebcpaaDoorW.PrintMore
attribute [local go_sem] max2_int min2_int max_two min_two max_three min_three max_four min_four
def nodeW (T : Lib.PrintTabs) (n : Node) (own : List Int) : List UInt8 := wordL T n.kind n.ints n.texts (n.kids.map (rd own))
theorem nodeW_inj (T : Lib.PrintTabs) {n m : Node} {o p : List Int} : nodeW T n o = nodeW T m p ↔ (n.kind = m.kind ∧ n.ints = m.ints ∧ n.texts = m.texts ∧ n.kids.map (rd o) = m.kids.map (rd p)) := by
  unfold nodeW
  exact word_inj T
def addW (vs : List (List UInt8)) (x : List UInt8) : List (List UInt8) := if x ∈ vs then vs else vs ++ [x]
theorem addW_in (vs : List (List UInt8)) (x : List UInt8) : x ∈ addW vs x := by
  unfold addW
  split
  · assumption
  · simp
theorem addW_pre (vs : List (List UInt8)) (x : List UInt8) : vs <+: addW vs x := by
  unfold addW
  split
  · exact List.prefix_refl _
  · exact List.prefix_append _ _
theorem addW_mem {vs : List (List UInt8)} {x y : List UInt8} (h : y ∈ addW vs x) : y ∈ vs ∨ y = x := by
  unfold addW at h
  split at h
  · exact .inl h
  · simpa using h
theorem addW_nodup {vs : List (List UInt8)} (h : vs.Nodup) (x : List UInt8) : (addW vs x).Nodup := by
  unfold addW
  split
  · exact h
  · rename_i hx
    refine List.nodup_append.2 ⟨h, by simp, fun a ha b hb => ?_⟩
    rw [List.mem_singleton.1 hb]
    exact fun e => hx (e ▸ ha)
theorem wix_pre {vs us : List (List UInt8)} {x : List UInt8} (h : vs <+: us) (hx : x ∈ vs) : us.idxOf x = vs.idxOf x := by
  obtain ⟨t, rfl⟩ := h
  rw [List.idxOf_append, if_pos hx]
theorem wix_lt {vs : List (List UInt8)} {x : List UInt8} (h : x ∈ vs) : vs.idxOf x < vs.length := List.idxOf_lt_length_iff.2 h
theorem wix_inj {vs : List (List UInt8)} {x y : List UInt8} (hx : x ∈ vs) (hy : y ∈ vs) (h : vs.idxOf x = vs.idxOf y) : x = y := by
  have h1 := List.getElem_idxOf (wix_lt hx)
  have h2 := List.getElem_idxOf (wix_lt hy)
  rw [← h1, ← h2]
  simp only [h]
def numStep (T : Lib.PrintTabs) (st : List (List UInt8) × List Int) (n : Node) : List (List UInt8) × List Int :=
  (addW st.1 (nodeW T n st.2), st.2 ++ [((addW st.1 (nodeW T n st.2)).idxOf (nodeW T n st.2) : Int)])
def ownS (T : Lib.PrintTabs) (vs : List (List UInt8)) (ns : List Node) : List (List UInt8) × List Int := ns.foldl (numStep T) (vs, [])
def allS (T : Lib.PrintTabs) (l : List Scene) : List (List UInt8) × List (List Int) := l.foldl (fun st s => ((ownS T st.1 s.nodes).1, st.2 ++ [(ownS T st.1 s.nodes).2])) ([], [])
def AheadN (ns : List Node) : Prop := ∀ p : Nat, p < ns.length → ∀ k ∈ (nd ns p).kids, 0 ≤ k ∧ k < (p : Int)
structure Numd (T : Lib.PrintTabs) (vs : List (List UInt8)) (ns : List Node) (own : List Int) : Prop where
  len : own.length = ns.length
  mem : ∀ j : Nat, j < ns.length → nodeW T (nd ns j) own ∈ vs
  num : ∀ j : Nat, j < ns.length → rd own (j : Int) = (vs.idxOf (nodeW T (nd ns j) own) : Int)
theorem Numd.pre {T : Lib.PrintTabs} {vs us : List (List UInt8)} {ns : List Node} {own : List Int} (h : Numd T vs ns own) (hp : vs <+: us) : Numd T us ns own :=
  ⟨h.len, fun j hj => hp.subset (h.mem j hj), fun j hj => by rw [h.num j hj, wix_pre hp (h.mem j hj)]⟩
theorem rd_app {a b : List Int} {k : Int} (h0 : 0 ≤ k) (h : k < (a.length : Int)) : rd (a ++ b) k = rd a k := by
  unfold rd
  rw [List.getD_eq_getElem?_getD, List.getD_eq_getElem?_getD, List.getElem?_append_left (by omega)]
theorem nodeW_app (T : Lib.PrintTabs) {n : Node} {a b : List Int} (h : ∀ k ∈ n.kids, 0 ≤ k ∧ k < (a.length : Int)) : nodeW T n (a ++ b) = nodeW T n a :=
  (nodeW_inj T).2 ⟨rfl, rfl, rfl, List.map_congr_left fun k hk => rd_app (h k hk).1 (h k hk).2⟩
theorem nd_snoc_lt {l : List Node} {x : Node} {j : Nat} (h : j < l.length) : nd (l ++ [x]) j = nd l j := by
  unfold nd
  rw [List.getD_eq_getElem?_getD, List.getD_eq_getElem?_getD, List.getElem?_append_left h]
theorem nd_snoc_eq {l : List Node} {x : Node} : nd (l ++ [x]) l.length = x := by
  unfold nd
  rw [List.getD_eq_getElem?_getD, List.getElem?_append_right (Nat.le_refl _)]
  simp
theorem rd_snoc_eq {l : List Int} {x : Int} : rd (l ++ [x]) (l.length : Int) = x := by
  unfold rd
  rw [Int.toNat_natCast, List.getD_eq_getElem?_getD, List.getElem?_append_right (Nat.le_refl _)]
  simp
theorem AheadN.init {l : List Node} {x : Node} (h : AheadN (l ++ [x])) : AheadN l := fun p hp k hk => h p (by rw [List.length_append]; omega) k (by rw [nd_snoc_lt hp]; exact hk)
structure OwnSpec (T : Lib.PrintTabs) (vs : List (List UInt8)) (ns : List Node) (r : List (List UInt8) × List Int) : Prop where
  pre : vs <+: r.1
  numd : Numd T r.1 ns r.2
  from_ : ∀ x ∈ r.1, x ∈ vs ∨ ∃ j : Nat, j < ns.length ∧ x = nodeW T (nd ns j) r.2
  nodup : vs.Nodup → r.1.Nodup
theorem own_specN (T : Lib.PrintTabs) (vs : List (List UInt8)) : ∀ (n : Nat) {ns : List Node}, ns.length = n → AheadN ns → OwnSpec T vs ns (ownS T vs ns) := by
  intro n
  induction n using Nat.strongRecOn with
  | _ n IH =>
  intro ns hn hA
  rcases snoc_cases ns with rfl | ⟨l, x, rfl⟩
  · exact ⟨List.prefix_refl _, ⟨rfl, fun j hj => absurd hj (Nat.not_lt_zero _), fun j hj => absurd hj (Nat.not_lt_zero _)⟩, fun x hx => .inl hx, fun h => h⟩
  · have ih := IH l.length (by simp at hn; omega) rfl hA.init
    have hk : ∀ k ∈ x.kids, 0 ≤ k ∧ k < ((ownS T vs l).2.length : Int) := fun k hk => by
      rw [ih.numd.len]
      have := hA l.length (by simp) k (by rw [nd_snoc_eq]; exact hk)
      exact this
    have e : ownS T vs (l ++ [x]) = numStep T (ownS T vs l) x := by
      show (l ++ [x]).foldl (numStep T) (vs, []) = _
      rw [List.foldl_append]; rfl
    rw [e]
    generalize ownS T vs l = st at ih hk ⊢
    obtain ⟨us, own⟩ := st
    have hlen : own.length = l.length := ih.numd.len
    have key : ∀ j : Nat, j < (l ++ [x]).length → nodeW T (nd (l ++ [x]) j) (own ++ [((addW us (nodeW T x own)).idxOf (nodeW T x own) : Int)]) = if j < l.length then nodeW T (nd l j) own else nodeW T x own := fun j hj => by
      by_cases h : j < l.length
      · rw [if_pos h, nd_snoc_lt h]
        refine nodeW_app T fun k hk' => ?_
        have := hA.init j h k hk'
        omega
      · have hj' : j = l.length := by simp at hj; omega
        subst hj'
        rw [if_neg h, nd_snoc_eq]
        exact nodeW_app T hk
    have hm : ∀ j : Nat, j < (l ++ [x]).length → (if j < l.length then nodeW T (nd l j) own else nodeW T x own) ∈ addW us (nodeW T x own) := fun j hj => by
      by_cases h : j < l.length
      · rw [if_pos h]; exact (addW_pre _ _).subset (ih.numd.mem j h)
      · rw [if_neg h]; exact addW_in _ _
    refine ⟨ih.pre.trans (addW_pre _ _), ⟨by show (own ++ [_]).length = _; simp [hlen], fun j hj => ?_, fun j hj => ?_⟩, fun y hy => ?_, fun h => addW_nodup (ih.nodup h) _⟩
    · show nodeW T _ (own ++ [_]) ∈ addW us (nodeW T x own)
      rw [key j hj]; exact hm j hj
    · show rd (own ++ [_]) (j : Int) = ((addW us (nodeW T x own)).idxOf (nodeW T _ (own ++ [_])) : Int)
      rw [key j hj]
      by_cases h : j < l.length
      · rw [if_pos h, rd_app (by omega) (by omega), wix_pre (addW_pre _ _) (ih.numd.mem j h)]
        exact ih.numd.num j h
      · have hj' : j = l.length := by simp at hj; omega
        subst hj'
        rw [if_neg h, ← hlen, rd_snoc_eq]
    · rcases addW_mem hy with hy | rfl
      · rcases ih.from_ y hy with hy | ⟨j, hj, rfl⟩
        · exact .inl hy
        · refine .inr ⟨j, by simp; omega, ?_⟩
          show _ = nodeW T _ (own ++ [_])
          rw [key j (by simp; omega), if_pos hj]
      · refine .inr ⟨l.length, by simp, ?_⟩
        show _ = nodeW T _ (own ++ [_])
        rw [key l.length (by simp), if_neg (by omega)]
theorem own_spec (T : Lib.PrintTabs) (vs : List (List UInt8)) {ns : List Node} (hA : AheadN ns) : OwnSpec T vs ns (ownS T vs ns) := own_specN T vs ns.length rfl hA
def alkC (a b : List Node) (out : List (List Bool)) (i j : Nat) : Bool :=
  decide ((nd a i).kind = (nd b j).kind ∧ (nd a i).ints = (nd b j).ints ∧ (nd a i).texts = (nd b j).texts ∧ (nd a i).kids.length = (nd b j).kids.length ∧
    ∀ k : Nat, k < (nd a i).kids.length → rd (nd a i).kids (k : Int) < (i : Int) ∧ rd (nd b j).kids (k : Int) < (j : Int) ∧ ((out.getD (rd (nd a i).kids (k : Int)).toNat []).getD (rd (nd b j).kids (k : Int)).toNat false) = true)
def alkT (a b : List Node) : Nat → List (List Bool)
  | 0 => []
  | i + 1 => alkT a b i ++ [(List.range b.length).map (alkC a b (alkT a b i) i)]
theorem alkT_len (a b : List Node) : ∀ n, (alkT a b n).length = n
  | 0 => rfl
  | n + 1 => by unfold alkT; rw [List.length_append, alkT_len a b n]; rfl
theorem alkT_row (a b : List Node) : ∀ {n i : Nat}, i < n → (alkT a b n).getD i [] = (List.range b.length).map (alkC a b (alkT a b i) i)
  | n + 1, i, h => by
    show (alkT a b n ++ [(List.range b.length).map (alkC a b (alkT a b n) n)]).getD i [] = _
    rw [List.getD_eq_getElem?_getD]
    by_cases hi : i < n
    · rw [List.getElem?_append_left (by rw [alkT_len]; exact hi), ← List.getD_eq_getElem?_getD]
      exact alkT_row a b hi
    · obtain rfl : i = n := by omega
      rw [List.getElem?_append_right (by rw [alkT_len]; exact Nat.le_refl _), alkT_len]
      simp
theorem alk_cell (a b : List Node) {n i j : Nat} (hi : i < n) (hj : j < b.length) : ((alkT a b n).getD i []).getD j false = alkC a b (alkT a b i) i j := by
  rw [alkT_row a b hi, List.getD_eq_getElem?_getD, List.getElem?_map, List.getElem?_range hj]
  rfl
theorem alk_num {T : Lib.PrintTabs} {vs : List (List UInt8)} {a b : List Node} {p q : List Int} (ha : AheadN a) (hb : AheadN b) (hp : Numd T vs a p) (hq : Numd T vs b q) :
    ∀ i j : Nat, i < a.length → j < b.length → (alkC a b (alkT a b i) i j = true ↔ rd p (i : Int) = rd q (j : Int)) := by
  intro i
  induction i using Nat.strongRecOn with
  | _ i ih =>
    intro j hi hj
    have hw : rd p (i : Int) = rd q (j : Int) ↔ nodeW T (nd a i) p = nodeW T (nd b j) q := by
      rw [hp.num i hi, hq.num j hj]
      refine ⟨fun h => wix_inj (hp.mem i hi) (hq.mem j hj) (by omega), fun h => by rw [h]⟩
    rw [hw, nodeW_inj]
    unfold alkC
    rw [decide_eq_true_iff]
    refine ⟨fun ⟨h1, h2, h3, h4, h5⟩ => ⟨h1, h2, h3, ?_⟩, fun ⟨h1, h2, h3, h4⟩ => ⟨h1, h2, h3, ?_, ?_⟩⟩
    · refine List.ext_getElem (by simpa using h4) fun k g1 g2 => ?_
      rw [List.getElem_map, List.getElem_map]
      rw [List.length_map] at g1 g2
      obtain ⟨e1, e2, e3⟩ := h5 k g1
      rw [rd_eq g1] at e1 e3
      rw [rd_eq g2] at e2 e3
      have hx := ha i hi _ (List.getElem_mem g1)
      have hy := hb j hj _ (List.getElem_mem g2)
      rw [alk_cell a b (by omega) (by omega)] at e3
      have := (ih _ (by omega) _ (by omega) (by omega)).1 e3
      rwa [Int.toNat_of_nonneg hx.1, Int.toNat_of_nonneg hy.1] at this
    · have := congrArg List.length h4
      simpa using this
    · intro k g1
      have hlen := congrArg List.length h4
      rw [List.length_map, List.length_map] at hlen
      have g2 : k < (nd b j).kids.length := by omega
      rw [rd_eq g1, rd_eq g2]
      have hx := ha i hi _ (List.getElem_mem g1)
      have hy := hb j hj _ (List.getElem_mem g2)
      refine ⟨hx.2, hy.2, ?_⟩
      rw [alk_cell a b (by omega) (by omega)]
      refine (ih _ (by omega) _ (by omega) (by omega)).2 ?_
      rw [Int.toNat_of_nonneg hx.1, Int.toNat_of_nonneg hy.1]
      have h6 : ((nd a i).kids.map (rd p))[k]'(by rw [List.length_map]; exact g1) = ((nd b j).kids.map (rd q))[k]'(by rw [List.length_map]; exact g2) := by simp only [h4]
      rwa [List.getElem_map, List.getElem_map] at h6
end Go.Proofs.YtggldnbhmebcpaaDoor.L
end
section
namespace Go.Proofs.YtggldnbhmebcpaaDoor.L
open Go.RowKit Go.ChangeShapes Go.WideShapes Go.Proofs.YtggldnbhmebcpaaDoorW.PrintWords Go.Proofs.YtggldnbhmebcpaaDoorW.PrintLast Go.Proofs.YtggldnbhmebcpaaDoorW.PrintMore
attribute [local go_sem] max2_int min2_int max_two min_two max_three min_three max_four min_four
def noPlace (N : Nat) (k : Int) : Bool := decide (k < 0) || decide ((N : Int) ≤ k)
def kidsBad (N : Nat) (l : List Int) : Bool := decide (∃ j, j < l.length ∧ noPlace N (rd l j) = true)
theorem kidsBad_at {N : Nat} {l : List Int} {j : Nat} (hj : j < l.length) (h : noPlace N (rd l j) = true) : kidsBad N l = true := decide_eq_true ⟨j, hj, h⟩
theorem kidsBad_no {N : Nat} {l : List Int} {k : Nat} (hk : l.length ≤ k) (h : ∀ j, j < k → noPlace N (rd l j) = false) : kidsBad N l = false := decide_eq_false (fun ⟨j, hj, hb⟩ => by rw [h j (by omega)] at hb; cases hb)
def refsFrom (N : Nat) : List Node → Nat → Int
  | [], _ => -1
  | n :: r, i => if kidsBad N n.kids = true then (i : Int) else refsFrom N r (i + 1)
def refsAt (l : List Node) : Int := refsFrom l.length l 0
theorem refsFrom_at {N : Nat} : ∀ (l : List Node) (i k : Nat), k < l.length → (∀ j, j < k → kidsBad N (nd l j).kids = false) → kidsBad N (nd l k).kids = true → refsFrom N l i = ((i + k : Nat) : Int)
  | [], _, _, h, _, _ => by simp at h
  | n :: r, i, 0, _, _, hb => by unfold refsFrom; rw [if_pos (show kidsBad N n.kids = true from hb)]; rfl
  | n :: r, i, k + 1, h, ha, hb => by
    unfold refsFrom
    rw [if_neg (by have := ha 0 (by omega); rw [show nd (n :: r) 0 = n from rfl] at this; rw [this]; simp)]
    rw [refsFrom_at r (i + 1) k (by simpa using h) (fun j hj => ha (j + 1) (by omega)) hb]
    congr 1
    omega
theorem refsFrom_no {N : Nat} : ∀ (l : List Node) (i : Nat), (∀ j, j < l.length → kidsBad N (nd l j).kids = false) → refsFrom N l i = -1
  | [], _, _ => rfl
  | n :: r, i, ha => by
    unfold refsFrom
    rw [if_neg (by have := ha 0 (by simp); rw [show nd (n :: r) 0 = n from rfl] at this; rw [this]; simp)]
    exact refsFrom_no r (i + 1) (fun j hj => ha (j + 1) (by simpa using hj))
set_option maxRecDepth 100000 in
set_option maxHeartbeats 1000000 in
theorem noPlace_any (k : Int) (B : Nat) (A : Option Addr) (N c : Nat) (w : World) (h : w.cell? ⟨B, 0, none⟩ = some (.slice A N c)) (hN : N ≤ 9223372036854775807) :
    Calls Tryd.prog 85 #[.int .i64 k, .pointer (some ⟨B, 0, none⟩)] w fun e w' => e = .returned (.bool (noPlace N k)) ∧ Drawn0 w w' := by
  by_cases h1 : k < 0
  · have E : Aside0 (noPlace N k = true) := ⟨by unfold noPlace; rw [decide_eq_true h1]; rfl⟩
    have d1 : decide (k < 0) = true := decide_eq_true h1
    clear h1
    go_enter Tryd.func85, Tryd.ntmps85
    go_wp2
    go_ret
    exact ⟨ret_bool E.out.symm, by repeat (first | exact Drawn0.refl _ | apply Drawn0.step)⟩
  · have d1 : decide (k < 0) = false := decide_eq_false h1
    by_cases h2 : (N : Int) ≤ k
    · have E : Aside0 (noPlace N k = true) := ⟨by unfold noPlace; rw [decide_eq_true h2]; simp⟩
      have d2 : decide ((N : Int) ≤ k) = true := decide_eq_true h2
      clear h1 h2
      go_enter Tryd.func85, Tryd.ntmps85
      go_wp2
      go_ret
      exact ⟨ret_bool E.out.symm, by repeat (first | exact Drawn0.refl _ | apply Drawn0.step)⟩
    · have E : Aside0 (noPlace N k = false) := ⟨by unfold noPlace; rw [decide_eq_false h1, decide_eq_false h2]; rfl⟩
      have d2 : decide ((N : Int) ≤ k) = false := decide_eq_false h2
      clear h1 h2
      go_enter Tryd.func85, Tryd.ntmps85
      go_wp2
      go_ret
      exact ⟨ret_bool E.out.symm, by repeat (first | exact Drawn0.refl _ | apply Drawn0.step)⟩
def CapN (B N : Nat) (w : World) : Prop := ∃ A c, w.cell? ⟨B, 0, none⟩ = some (.slice A N c) ∧ N ≤ 9223372036854775807
theorem CapN.below {B N : Nat} {w w' : World} (h : CapN B N w) (hb : Below w.heap.size w w') : CapN B N w' := by
  obtain ⟨A, c, h, hN⟩ := h
  exact ⟨A, c, pw_cell_below hb h, hN⟩
def KidIdx (N : Nat) (l : List Int) (w : World) (e : Ending) (w' : World) : Prop := ∃ i : Int, e = .returned (.int .i64 i) ∧ decide (0 ≤ i) = kidsBad N l ∧ Below w.heap.size w w'
set_option maxRecDepth 100000 in
set_option maxHeartbeats 1000000 in
theorem kidIdx_any (A : Option Addr) (c : Nat) (l : List Int) (B N : Nat) (w : World) (hl : (Kd.int .i64).C w A l.length l) (h : CapN B N w) :
    Calls Tryd.prog 91 #[.slice A l.length c, .func (.func 85) #[] #[.pointer (some ⟨B, 0, none⟩)]] w (KidIdx N l w) := by
  have HR := Aside0.mk hl
  have HC := Aside0.mk h
  have HB := Aside0.mk (Below.refl w.heap.size w)
  have b0 := hl.2.1
  clear hl h
  go_enter Tryd.func91, Tryd.ntmps91
  go_wp2
  go_loopw [5, 8] (fun _ v8 W => ∃ k : Nat, k ≤ l.length ∧ v8 = .int .i64 k ∧ Aside0 (∀ j, j < k → noPlace N (rd l j) = false) ∧ Aside0 (Below w.heap.size w W)) (fun _ v8 _ => l.length - (intOf v8).toNat)
  case atStart => exact ⟨0, by omega, rfl, ⟨fun j hj => by omega⟩, HB⟩
  case round =>
    obtain ⟨k, hk, rfl, HP, HB1⟩ := hrel
    by_cases hlt : k < l.length
    · obtain ⟨ad0, rfl, hx0⟩ := at_nat (Kd.C_below HR.out HB1.out) k (by omega)
      obtain ⟨AA, cc, h3⟩ := HC.out.below HB1.out
      have h3 := Aside0.mk h3
      go_wp2_with fail
      refine (noPlace_any (rd l k) B _ N _ _ h3.out.1 h3.out.2).mono ?_
      rintro e w' ⟨rfl, hB⟩
      have HB2 := Aside0.mk (below_step HB1.out hB.below)
      clear hB
      by_cases hi : noPlace N (rd l k) = true
      · have HI := Aside0.mk hi
        clear hi
        rw [HI.out]
        go_wp2
        go_ret
        exact ⟨k, rfl, by rw [kidsBad_at hlt HI.out]; exact decide_eq_true (by omega), HB2.out⟩
      · have HI := Aside0.mk (Bool.eq_false_iff.2 hi)
        clear hi
        rw [HI.out]
        go_wp2
        go_roundw
        case rel => exact ⟨k + 1, by omega, by go_num, ⟨ext_lt HP.out HI.out⟩, HB2⟩
        case measure => simp [intOf]; omega
    · have HE := Aside0.mk (kidsBad_no (by omega) HP.out)
      go_wp2
      go_ret
      exact ⟨-1, rfl, by rw [HE.out]; rfl, HB1.out⟩
set_option maxRecDepth 100000 in
set_option maxHeartbeats 1000000 in
theorem kidHas_any (A : Option Addr) (c : Nat) (l : List Int) (B N : Nat) (w : World) (hl : (Kd.int .i64).C w A l.length l) (h : CapN B N w) :
    Calls Tryd.prog 84 #[.slice A l.length c, .func (.func 85) #[] #[.pointer (some ⟨B, 0, none⟩)]] w fun e w' => e = .returned (.bool (kidsBad N l)) ∧ Below w.heap.size w w' := by
  have HR := Aside0.mk hl
  have HC := Aside0.mk h
  clear hl h
  go_enter Tryd.func84, Tryd.ntmps84
  go_wp2_with fail
  refine (kidIdx_any A c l B N _ HR.out HC.out).mono ?_
  rintro e w' ⟨i, rfl, hi, hB⟩
  have HI := Aside0.mk hi
  have HB := Aside0.mk hB
  clear hi hB
  go_wp2
  go_ret
  exact ⟨ret_bool HI.out, HB.out⟩
set_option maxRecDepth 100000 in
set_option maxHeartbeats 1000000 in
theorem nodeBad_any (n : Node) (A1 : Option Addr) (c1 : Nat) (A2 : Option Addr) (c2 : Nat) (A3 : Option Addr) (c3 : Nat) (B N : Nat) (w : World) (h : NodeC w n A1 c1 A2 c2 A3 c3) (hC : CapN B N w) :
    Calls Tryd.prog 83 #[.agg #[.int .i64 n.kind, .slice A1 n.ints.length c1, .slice A2 n.texts.length c2, .slice A3 n.kids.length c3], .pointer (some ⟨B, 0, none⟩)] w fun e w' => e = .returned (.bool (kidsBad N n.kids)) ∧ Below w.heap.size w w' := by
  have HN := Aside0.mk h
  have HC := Aside0.mk hC
  have HB := Aside0.mk (below_alloc (Below.refl w.heap.size w) (.cells #[.int .i64 n.kind, .slice A1 n.ints.length c1, .slice A2 n.texts.length c2, .slice A3 n.kids.length c3] 46))
  clear h hC
  go_enter Tryd.func83, Tryd.ntmps83
  go_wp2_with fail
  refine (kidHas_any A3 c3 n.kids B N _ (Kd.C_below HN.out.k HB.out) (HC.out.below HB.out)).mono ?_
  rintro e w' ⟨rfl, hB⟩
  have HB1 := Aside0.mk (below_step HB.out hB)
  clear hB
  go_wp2
  go_ret
  exact ⟨rfl, HB1.out⟩
def RefIdx (l : List Node) (N : Nat) (w : World) (e : Ending) (w' : World) : Prop := e = .returned (.int .i64 (refsFrom N l 0)) ∧ Below w.heap.size w w'
set_option maxRecDepth 100000 in
set_option maxHeartbeats 1000000 in
theorem refIdx_any (A : Option Addr) (c : Nat) (l : List Node) (B N : Nat) (w : World) (h : kNode.C w A l.length l) (hC : CapN B N w) :
    Calls Tryd.prog 82 #[.slice A l.length c, .func (.func 83) #[] #[.pointer (some ⟨B, 0, none⟩)]] w (RefIdx l N w) := by
  have HR := Aside0.mk h
  have HC := Aside0.mk hC
  have HB := Aside0.mk (Below.refl w.heap.size w)
  have b0 := h.2.1
  clear h hC
  go_enter Tryd.func82, Tryd.ntmps82
  go_wp2
  go_loopw [5, 8] (fun _ v8 W => ∃ k : Nat, k ≤ l.length ∧ v8 = .int .i64 k ∧ Aside0 (∀ j, j < k → kidsBad N (nd l j).kids = false) ∧ Aside0 (Below w.heap.size w W)) (fun _ v8 _ => l.length - (intOf v8).toNat)
  case atStart => exact ⟨0, by omega, rfl, ⟨fun j hj => by omega⟩, HB⟩
  case round =>
    obtain ⟨k, hk, rfl, HP, HB1⟩ := hrel
    by_cases hlt : k < l.length
    · obtain ⟨ad, A1, c1, A2, c2, A3, c3, rfl, x0, x1, x2, x3, hN⟩ := at_node (Kd.C_below HR.out HB1.out) k (by omega)
      have HN := Aside0.mk hN
      clear hN
      go_wp2_with fail
      refine (nodeBad_any (nd l k) A1 c1 A2 c2 A3 c3 B N _ HN.out (HC.out.below HB1.out)).mono ?_
      rintro e w' ⟨rfl, hB⟩
      have HB2 := Aside0.mk (below_step HB1.out hB)
      clear hB
      by_cases hi : kidsBad N (nd l k).kids = true
      · have HI := Aside0.mk hi
        have HE := Aside0.mk (refsFrom_at l 0 k hlt HP.out hi)
        clear hi
        rw [HI.out]
        go_wp2
        go_ret
        exact ⟨ret_int (by rw [HE.out]; simp), HB2.out⟩
      · have HI := Aside0.mk (Bool.eq_false_iff.2 hi)
        clear hi
        rw [HI.out]
        go_wp2
        go_roundw
        case rel => exact ⟨k + 1, by omega, by go_num, ⟨ext_lt HP.out HI.out⟩, HB2⟩
        case measure => simp [intOf]; omega
    · have HE := Aside0.mk (refsFrom_no (N := N) l 0 (fun j hj => HP.out j (by omega)))
      go_wp2
      go_ret
      exact ⟨ret_int HE.out.symm, HB1.out⟩
set_option maxRecDepth 100000 in
set_option maxHeartbeats 1000000 in
theorem refs_any (A : Option Addr) (c : Nat) (s : Scene) (w : World) (h : kNode.C w A s.nodes.length s.nodes) :
    Calls Tryd.prog 70 #[.agg #[.slice A s.nodes.length c, .int .i64 s.root]] w fun e w' => e = .returned (.int .i64 (refsAt s.nodes)) ∧ Below w.heap.size w w' := by
  have HR := Aside0.mk h
  have HB := Aside0.mk (below_alloc (Below.refl w.heap.size w) (.cells #[.slice A s.nodes.length c, .int .i64 s.root] 24))
  have HC := Aside0.mk (show CapN w.heap.size s.nodes.length _ from ⟨A, c, box_cell w _ rfl #[.slice A s.nodes.length c, .int .i64 s.root] 24 0 _ rfl, h.2.1⟩)
  clear h
  go_enter Tryd.func70, Tryd.ntmps70
  go_wp2_with fail
  refine (refIdx_any A c s.nodes w.heap.size s.nodes.length _ (Kd.C_below HR.out HB.out) HC.out).mono ?_
  rintro e w' ⟨rfl, hB⟩
  have HB1 := Aside0.mk (below_step HB.out hB)
  clear hB
  go_wp2
  go_ret
  exact ⟨rfl, HB1.out⟩
end Go.Proofs.YtggldnbhmebcpaaDoor.L
end
section
namespace Go.Proofs.YtggldnbhmebcpaaDoor.L
open Go.RowKit Go.ChangeShapes Go.WideShapes Go.Proofs.YtggldnbhmebcpaaDoorW.PrintWords Go.Proofs.YtggldnbhmebcpaaDoorW.PrintLast Go.Proofs.YtggldnbhmebcpaaDoorW.PrintMore
attribute [local go_sem] max2_int min2_int max_two min_two max_three min_three max_four min_four
def kids (ns : List Node) (i : Int) : List Int := (nd ns i.toNat).kids
def Places (ns : List Node) : Prop := ∀ i : Nat, i < ns.length → ∀ k ∈ (nd ns i).kids, 0 ≤ k ∧ k < (ns.length : Int)
inductive Rch (ns : List Node) (l : List Int) : Int → Prop
  | base {k : Int} : k ∈ l → Rch ns l k
  | step {i k : Int} : Rch ns l i → k ∈ kids ns i → Rch ns l k
def wt (ns : List Node) (i : Nat) : Nat := (nd ns i).kids.length + 1
def left (ns : List Node) (vs : List Int) : Nat := (((List.range ns.length).filter (fun i : Nat => !vs.contains (i : Int))).map (wt ns)).sum
theorem sum_filter_split (f : Nat → Nat) (x : Nat) (p : Nat → Bool) : ∀ (l : List Nat), l.Nodup → x ∈ l → p x = true → ((l.filter (fun i => p i && !(i == x))).map f).sum + f x = ((l.filter p).map f).sum
  | [], _, h, _ => by simp at h
  | y :: r, hn, h, hp => by
    have hnr := (List.nodup_cons.1 hn)
    by_cases hy : y = x
    · subst hy
      have : (r.filter (fun i => p i && !(i == y))) = r.filter p := List.filter_congr (fun i hi => by
        have : i ≠ y := fun e => hnr.1 (e ▸ hi)
        simp [this])
      rw [List.filter_cons, List.filter_cons]
      simp [hp, this]
      omega
    · have hx : x ∈ r := by
        rcases List.mem_cons.1 h with h | h
        · exact absurd h.symm hy
        · exact h
      have ih := sum_filter_split f x p r hnr.2 hx hp
      rw [List.filter_cons, List.filter_cons]
      cases hpy : p y
      · simp [ih]
      · simp [hy]; omega
theorem left_cons {ns : List Node} {vs : List Int} {x : Nat} (hx : x < ns.length) (hv : ¬ (x : Int) ∈ vs) : left ns ((x : Int) :: vs) + wt ns x = left ns vs := by
  have h := sum_filter_split (wt ns) x (fun i : Nat => !vs.contains (i : Int)) (List.range ns.length) List.nodup_range (List.mem_range.2 hx) (by simpa using hv)
  have e : (fun i : Nat => !((x : Int) :: vs).contains (i : Int)) = (fun i : Nat => (!vs.contains (i : Int)) && !(i == x)) := by
    funext i
    by_cases hi : i = x
    · subst hi; simp
    · have : ¬ (i : Int) = (x : Int) := by omega
      simp [List.contains_cons, hi, this]
  unfold left
  rw [e]
  exact h
def rows (ns : List Node) : Nat := ((List.range ns.length).map (wt ns)).sum
theorem left_nil (ns : List Node) : left ns [] = rows ns := by
  unfold left rows
  rw [List.filter_eq_self.2 (fun a _ => by simp)]
theorem Places.of_refs {ns : List Node} (h : refsAt ns = -1) : Places ns := by
  intro i hi k hk
  have key : ∀ (N : Nat) (l : List Node) (j : Nat), refsFrom N l j = -1 → ∀ q, q < l.length → kidsBad N (nd l q).kids = false := by
    intro N l
    induction l with
    | nil => intro j _ q hq; simp at hq
    | cons n r ih =>
      intro j h q hq
      unfold refsFrom at h
      by_cases hb : kidsBad N n.kids = true
      · rw [if_pos hb] at h; omega
      · rw [if_neg hb] at h
        cases q with
        | zero => exact Bool.eq_false_iff.2 hb
        | succ q => exact ih (j + 1) h q (by simpa using hq)
  have := key ns.length ns 0 h i hi
  obtain ⟨j, hj, rfl⟩ := List.getElem_of_mem hk
  have h2 := of_decide_eq_false this
  have h3 : noPlace ns.length (rd (nd ns i).kids (j : Int)) = false := by
    cases hh : noPlace ns.length (rd (nd ns i).kids (j : Int)) with
    | false => rfl
    | true => exact absurd ⟨j, hj, hh⟩ h2
  rw [rd_eq hj] at h3
  unfold noPlace at h3
  simp at h3
  omega
end Go.Proofs.YtggldnbhmebcpaaDoor.L
end
section
namespace Go.Proofs.YtggldnbhmebcpaaDoor.L
open Go.RowKit Go.ChangeShapes Go.WideShapes Go.Proofs.YtggldnbhmebcpaaDoorW.PrintWords Go.Proofs.YtggldnbhmebcpaaDoorW.PrintLast Go.Proofs.YtggldnbhmebcpaaDoorW.PrintMore
attribute [local go_sem] max2_int min2_int max_two min_two max_three min_three max_four min_four
theorem count_sum {L : List Int} (hL : L.Nodup) : ∀ l : List Int, (L.map (fun c => l.count c)).sum = (l.filter (fun x => L.contains x)).length
  | [] => by
    rw [List.filter_nil, List.length_nil]
    have : ∀ L : List Int, (L.map (fun c => ([] : List Int).count c)).sum = 0 := fun L => by
      induction L with
      | nil => rfl
      | cons a r ih => simpa using ih
    exact this L
  | x :: l => by
    have ih := count_sum hL l
    have one : ∀ L : List Int, L.Nodup → (L.map (fun c => (x :: l).count c)).sum = (L.map (fun c => l.count c)).sum + if L.contains x then 1 else 0 := fun L => by
      induction L with
      | nil => intro _; rfl
      | cons a r ihr =>
        intro hn
        obtain ⟨h1, h2⟩ := List.nodup_cons.1 hn
        have := ihr h2
        have hc : (x :: l).count a = l.count a + if x = a then 1 else 0 := by
          rw [List.count_cons]
          by_cases h : x = a
          · simp [h]
          · simp [h]
        rw [List.map_cons, List.sum_cons, List.map_cons, List.sum_cons, this, hc]
        by_cases hax : x = a
        · subst hax
          have hr : r.contains x = false := by simpa using h1
          have hr2 : (x :: r).contains x = true := by simp
          rw [hr, hr2]
          simp
          omega
        · have e2 : (a :: r).contains x = r.contains x := by
            rw [List.contains_cons, show (x == a) = false by simpa using hax, Bool.false_or]
          rw [e2, if_neg hax]
          omega
    rw [one L hL, ih, List.filter_cons]
    by_cases h : L.contains x = true
    · rw [if_pos h, if_pos h, List.length_cons]
    · rw [if_neg h, if_neg h]; rfl
theorem all_of_count {L l : List Int} (hL : L.Nodup) (h : l.length ≤ (L.map (fun c => l.count c)).sum) : ∀ x ∈ l, x ∈ L := by
  rw [count_sum hL] at h
  have h2 : (l.filter (fun x => L.contains x)).length = l.length := Nat.le_antisymm (List.length_filter_le _ _) h
  intro x hx
  have := List.length_filter_eq_length_iff.1 h2 x hx
  simpa using this
theorem count_le {L l : List Int} (hL : L.Nodup) : (L.map (fun c => l.count c)).sum ≤ l.length := by
  rw [count_sum hL]; exact List.length_filter_le _ _
structure Topo (ns : List Node) (L : List Int) : Prop where
  nd : L.Nodup
  pl : ∀ x ∈ L, 0 ≤ x ∧ x < (ns.length : Int)
  ahead : ∀ m, m < L.length → ∀ k ∈ kids ns (rd L (m : Int)), k ∈ L.take m
  all : ∀ p : Nat, p < ns.length → (∀ k ∈ kids ns (p : Int), k ∈ L) → (p : Int) ∈ L
theorem kids_nat (ns : List Node) (p : Nat) : kids ns (p : Int) = (L.nd ns p).kids := by unfold kids; rw [Int.toNat_natCast]
def rowOf (t : List (List Int)) (c : Int) : List Int := t.getD c.toNat []
def ParsOk (ns : List Node) (t : List (List Int)) : Prop := t.length = ns.length ∧ (∀ c : Nat, c < ns.length → ∀ x ∈ rowOf t c, 0 ≤ x ∧ x < (ns.length : Int)) ∧ ∀ c p : Nat, c < ns.length → p < ns.length → (rowOf t c).count (p : Int) = (kids ns p).count (c : Int)
def done (t : List (List Int)) (out : List Int) (i j : Nat) : List Int := (out.take i).flatMap (rowOf t) ++ (rowOf t (rd out (i : Int))).take j
structure OInv (ns : List Node) (t : List (List Int)) (op out : List Int) (i j : Nat) : Prop where
  nd : out.Nodup
  pl : ∀ x ∈ out, 0 ≤ x ∧ x < (ns.length : Int)
  len : op.length = ns.length
  op : ∀ p : Nat, p < ns.length → rd op (p : Int) = ((kids ns p).length : Int) - ((done t out i j).count (p : Int) : Int)
  mem : ∀ p : Nat, p < ns.length → ((p : Int) ∈ out ↔ (done t out i j).count (p : Int) = (kids ns p).length)
  ahead : ∀ m, m < out.length → ∀ k ∈ kids ns (rd out (m : Int)), k ∈ out.take m
theorem count_flatMap {ns : List Node} {t : List (List Int)} (ht : ParsOk ns t) {p : Nat} (hp : p < ns.length) : ∀ L : List Int, (∀ x ∈ L, 0 ≤ x ∧ x < (ns.length : Int)) → (L.flatMap (rowOf t)).count (p : Int) = (L.map (fun c => (kids ns p).count c)).sum
  | [], _ => rfl
  | c :: L, h => by
    rw [List.flatMap_cons, List.count_append, List.map_cons, List.sum_cons, count_flatMap ht hp L (fun x hx => h x (by simp [hx]))]
    have hc := h c (by simp)
    have := ht.2.2 c.toNat p (by omega) hp
    rw [Int.toNat_of_nonneg hc.1] at this
    rw [this]
theorem rd_mem {l : List Int} {i : Nat} (h : i < l.length) : rd l (i : Int) ∈ l := by rw [rd_eq h]; exact List.getElem_mem h
theorem OInv.next_le {ns : List Node} {t : List (List Int)} {op out : List Int} {i j p : Nat} (ht : ParsOk ns t) (h : OInv ns t op out i j) (hi : i < out.length) (hj : j < (rowOf t (rd out (i : Int))).length) (hp : rd (rowOf t (rd out (i : Int))) (j : Int) = (p : Int)) (hpn : p < ns.length) :
    (done t out i j).count (p : Int) + 1 ≤ ((out.take (i + 1)).map (fun c => (kids ns p).count c)).sum ∧ ((out.take (i + 1)).map (fun c => (kids ns p).count c)).sum ≤ (kids ns p).length := by
  have hnd : (out.take (i + 1)).Nodup := h.nd.sublist (List.take_sublist _ _)
  refine ⟨?_, count_le hnd⟩
  have hpl : ∀ x ∈ out.take (i + 1), 0 ≤ x ∧ x < (ns.length : Int) := fun x hx => h.pl x (List.mem_of_mem_take hx)
  rw [← count_flatMap ht hpn _ hpl]
  rw [take_succ_rd hi, List.flatMap_append, List.flatMap_singleton]
  unfold done
  rw [List.count_append, List.count_append, Nat.add_assoc]
  apply Nat.add_le_add_left
  have e : rowOf t (rd out (i : Int)) = (rowOf t (rd out (i : Int))).take (j + 1) ++ (rowOf t (rd out (i : Int))).drop (j + 1) := (List.take_append_drop _ _).symm
  rw [e, List.count_append, ← e, take_succ_rd hj, List.count_append, hp]
  simp
theorem done_succ {t : List (List Int)} {out : List Int} {i j : Nat} (hj : j < (rowOf t (rd out (i : Int))).length) : done t out i (j + 1) = done t out i j ++ [rd (rowOf t (rd out (i : Int))) (j : Int)] := by
  unfold done
  rw [take_succ_rd hj, List.append_assoc]
theorem done_push {t : List (List Int)} {out : List Int} {i j : Nat} (hi : i < out.length) (x : Int) : done t (out ++ [x]) i j = done t out i j := by
  unfold done
  rw [List.take_append_of_le_length (by omega)]
  have : rd (out ++ [x]) (i : Int) = rd out (i : Int) := by
    unfold rd
    rw [Int.toNat_natCast, List.getD_eq_getElem?_getD, List.getD_eq_getElem?_getD, List.getElem?_append_left hi]
  rw [this]
theorem done_row {t : List (List Int)} {out : List Int} {i : Nat} (hi : i < out.length) : done t out i (rowOf t (rd out (i : Int))).length = done t out (i + 1) 0 := by
  unfold done
  rw [List.take_length, List.take_zero, List.append_nil, take_succ_rd hi, List.flatMap_append, List.flatMap_singleton]
theorem count_snoc (l : List Int) (x y : Int) : (l ++ [x]).count y = l.count y + if x = y then 1 else 0 := by
  rw [List.count_append, List.count_singleton]
  by_cases h : x = y
  · simp [h]
  · simp [h]
theorem OInv.strike {ns : List Node} {t : List (List Int)} {op out : List Int} {i j p : Nat} (ht : ParsOk ns t) (h : OInv ns t op out i j) (hi : i < out.length) (hj : j < (rowOf t (rd out (i : Int))).length) (hp : rd (rowOf t (rd out (i : Int))) (j : Int) = (p : Int)) (hpn : p < ns.length)
    (hne : ¬ rd op (p : Int) - 1 = 0) : OInv ns t (op.set p (rd op (p : Int) - 1)) out i (j + 1) := by
  have hb := h.next_le ht hi hj hp hpn
  have hop := h.op p hpn
  refine ⟨h.nd, h.pl, by simpa using h.len, fun q hq => ?_, fun q hq => ?_, h.ahead⟩
  · rw [done_succ hj, hp, count_snoc, rd_set _ _ _ _ (by rw [h.len]; omega)]
    by_cases e : q = p
    · subst e; rw [if_pos rfl, if_pos rfl, hop]; omega
    · rw [if_neg e, if_neg (by omega), h.op q hq]; omega
  · rw [done_succ hj, hp, count_snoc, h.mem q hq]
    by_cases e : q = p
    · subst e; rw [if_pos rfl]; omega
    · rw [if_neg (by omega)]; omega
theorem OInv.free {ns : List Node} {t : List (List Int)} {op out : List Int} {i j p : Nat} (ht : ParsOk ns t) (h : OInv ns t op out i j) (hi : i < out.length) (hj : j < (rowOf t (rd out (i : Int))).length) (hp : rd (rowOf t (rd out (i : Int))) (j : Int) = (p : Int)) (hpn : p < ns.length)
    (hz : rd op (p : Int) - 1 = 0) : OInv ns t (op.set p (rd op (p : Int) - 1)) (out ++ [(p : Int)]) i (j + 1) := by
  have hb := h.next_le ht hi hj hp hpn
  have hop := h.op p hpn
  have hnot : ¬ (p : Int) ∈ out := fun hm => by have := (h.mem p hpn).1 hm; omega
  have hrd : rd (out ++ [(p : Int)]) (i : Int) = rd out (i : Int) := by
    unfold rd
    rw [Int.toNat_natCast, List.getD_eq_getElem?_getD, List.getD_eq_getElem?_getD, List.getElem?_append_left hi]
  have hd : done t (out ++ [(p : Int)]) i (j + 1) = done t out i j ++ [(p : Int)] := by rw [done_push hi, done_succ hj, hp]
  refine ⟨?_, fun x hx => ?_, by simpa using h.len, fun q hq => ?_, fun q hq => ?_, fun m hm k hk => ?_⟩
  · exact List.nodup_append.2 ⟨h.nd, by simp, fun a ha b hb e => by rw [List.mem_singleton.1 hb] at e; exact hnot (e ▸ ha)⟩
  · rcases List.mem_append.1 hx with hx | hx
    · exact h.pl x hx
    · rw [List.mem_singleton.1 hx]; omega
  · rw [hd, count_snoc, rd_set _ _ _ _ (by rw [h.len]; omega)]
    by_cases e : q = p
    · subst e; rw [if_pos rfl, if_pos rfl, hop]; omega
    · rw [if_neg e, if_neg (by omega), h.op q hq]; omega
  · rw [hd, count_snoc, List.mem_append, h.mem q hq]
    by_cases e : q = p
    · subst e; rw [if_pos rfl]
      exact ⟨fun _ => by omega, fun _ => .inr (by simp)⟩
    · rw [if_neg (by omega)]
      refine ⟨fun h' => ?_, fun h' => .inl (by omega)⟩
      rcases h' with h' | h'
      · omega
      · have := List.mem_singleton.1 h'; omega
  · rw [List.length_append, List.length_singleton] at hm
    rcases Nat.lt_or_ge m out.length with hlt | hge
    · have e : rd (out ++ [(p : Int)]) (m : Int) = rd out (m : Int) := by
        unfold rd
        rw [Int.toNat_natCast, List.getD_eq_getElem?_getD, List.getD_eq_getElem?_getD, List.getElem?_append_left hlt]
      rw [e] at hk
      rw [List.take_append_of_le_length (by omega)]
      exact h.ahead m hlt k hk
    · obtain rfl : m = out.length := by omega
      have e : rd (out ++ [(p : Int)]) (out.length : Int) = (p : Int) := by simp [rd]
      rw [e] at hk
      rw [List.take_left']
      · exact List.mem_of_mem_take (all_of_count (h.nd.sublist (List.take_sublist (i + 1) _)) (by omega) k hk)
      · rfl
theorem OInv.row {ns : List Node} {t : List (List Int)} {op out : List Int} {i : Nat} (h : OInv ns t op out i (rowOf t (rd out (i : Int))).length) (hi : i < out.length) : OInv ns t op out (i + 1) 0 :=
  ⟨h.nd, h.pl, h.len, fun p hp => by rw [← done_row hi]; exact h.op p hp, fun p hp => by rw [← done_row hi]; exact h.mem p hp, h.ahead⟩
theorem OInv.topo {ns : List Node} {t : List (List Int)} {op out : List Int} {i : Nat} (ht : ParsOk ns t) (h : OInv ns t op out i 0) (hi : out.length ≤ i) : Topo ns out := by
  refine ⟨h.nd, h.pl, h.ahead, fun p hp hk => (h.mem p hp).2 ?_⟩
  unfold done
  rw [List.take_of_length_le hi, List.take_zero, List.append_nil, count_flatMap ht hp _ h.pl, count_sum h.nd]
  apply List.length_filter_eq_length_iff.2
  intro x hx
  simpa using hk x hx
end Go.Proofs.YtggldnbhmebcpaaDoor.L
end
section
namespace Go.Proofs.YtggldnbhmebcpaaDoor.L
open Go.RowKit Go.ChangeShapes Go.WideShapes Go.Proofs.YtggldnbhmebcpaaDoorW.PrintWords Go.Proofs.YtggldnbhmebcpaaDoorW.PrintLast Go.Proofs.YtggldnbhmebcpaaDoorW.PrintMore
attribute [local go_sem] max2_int min2_int max_two min_two max_three min_three max_four min_four
def Cyc (ns : List Node) (i : Int) : Prop := Rch ns (kids ns i) i
theorem Topo.reach {ns : List Node} {L : List Int} (h : Topo ns L) {m : Nat} (hm : m < L.length) {x : Int} (hr : Rch ns (kids ns (rd L (m : Int))) x) : x ∈ L.take m := by
  induction hr with
  | base hk => exact h.ahead m hm _ hk
  | step _ hk ih =>
    obtain ⟨j, hj, rfl⟩ := List.getElem_of_mem ih
    have hj' : j < m ∧ j < L.length := by rw [List.length_take] at hj; omega
    have e : (L.take m)[j] = rd L (j : Int) := by rw [List.getElem_take, rd_eq hj'.2]
    rw [e] at hk
    have := h.ahead j hj'.2 _ hk
    have e2 : L.take j = (L.take m).take j := by rw [List.take_take, Nat.min_eq_left (by omega)]
    rw [e2] at this
    exact List.mem_of_mem_take this
theorem Topo.acyclic {ns : List Node} {L : List Int} (h : Topo ns L) (hl : ∀ p : Nat, p < ns.length → (p : Int) ∈ L) (p : Nat) (hp : p < ns.length) : ¬ Cyc ns p := by
  intro hc
  obtain ⟨m, hm, e⟩ := List.getElem_of_mem (hl p hp)
  have e' : rd L (m : Int) = (p : Int) := by rw [rd_eq hm, e]
  have := h.reach hm (by rw [e']; exact hc)
  obtain ⟨j, hj, e2⟩ := List.getElem_of_mem this
  rw [List.length_take] at hj
  rw [List.getElem_take] at e2
  exact (List.pairwise_iff_getElem.1 h.nd) j m (by omega) hm (by omega) (e2.trans e.symm)
open Classical in
noncomputable def reachN (ns : List Node) (p : Int) : Nat := ((List.range ns.length).filter (fun x : Nat => decide (Rch ns (kids ns p) (x : Int)))).length
theorem filter_lt {p q : Nat → Bool} (x : Nat) : ∀ l : List Nat, (∀ y, p y = true → q y = true) → x ∈ l → p x = false → q x = true → (l.filter p).length < (l.filter q).length
  | [], _, h, _, _ => by simp at h
  | y :: r, hpq, h, hp, hq => by
    have hle : ∀ l : List Nat, (l.filter p).length ≤ (l.filter q).length := fun l => by
      induction l with
      | nil => exact Nat.le_refl _
      | cons a r ih =>
        rw [List.filter_cons, List.filter_cons]
        cases hpa : p a
        · cases q a <;> simp <;> omega
        · rw [hpq a hpa]; simp; exact ih
    by_cases e : y = x
    · subst e
      rw [List.filter_cons, List.filter_cons, hp, hq]
      simp
      have := hle r
      omega
    · have hx : x ∈ r := by
        rcases List.mem_cons.1 h with h | h
        · exact absurd h.symm e
        · exact h
      have ih := filter_lt x r hpq hx hp hq
      rw [List.filter_cons, List.filter_cons]
      cases hpa : p y
      · cases q y <;> simp <;> omega
      · rw [hpq y hpa]; simp; exact ih
theorem Rch.trans {ns : List Node} {l : List Int} {k x : Int} (hk : Rch ns l k) (h : Rch ns (kids ns k) x) : Rch ns l x := by
  induction h with
  | base h => exact .step hk h
  | step _ h ih => exact .step ih h
open Classical in
theorem Topo.cyclic {ns : List Node} {L : List Int} (hP : Places ns) (h : Topo ns L) (hc : ∀ p : Nat, p < ns.length → ¬ Cyc ns p) (p : Nat) (hp : p < ns.length) : (p : Int) ∈ L := by
  have key : ∀ N (p : Nat), reachN ns p < N → p < ns.length → ¬ (p : Int) ∈ L → False := fun N => by
    induction N with
    | zero => intro p h; omega
    | succ N ih =>
      intro p hN hp hnot
      have : ∃ k ∈ kids ns (p : Int), ¬ k ∈ L := by
        apply Classical.byContradiction
        intro hno
        exact hnot (h.all p hp (fun k hk => Classical.byContradiction fun hkl => hno ⟨k, hk, hkl⟩))
      obtain ⟨k, hk, hkl⟩ := this
      have hpl := hP p hp k (by rw [← kids_nat]; exact hk)
      obtain ⟨q, rfl⟩ : ∃ q : Nat, k = (q : Int) := ⟨k.toNat, by omega⟩
      refine ih q ?_ (by omega) hkl
      have : reachN ns q < reachN ns p := by
        unfold reachN
        refine filter_lt q _ (fun y hy => ?_) (List.mem_range.2 (by omega)) ?_ ?_
        · exact decide_eq_true (Rch.trans (.base hk) (of_decide_eq_true hy))
        · exact decide_eq_false (hc q (by omega))
        · exact decide_eq_true (.base hk)
      omega
  exact Classical.byContradiction fun hnot => key _ p (Nat.lt_succ_self _) hp hnot
open Classical in
noncomputable def firstP (p : Nat → Prop) : Nat → Nat → Int
  | 0, _ => -1
  | f + 1, i => if p i then (i : Int) else firstP p f (i + 1)
theorem firstP_at {p : Nat → Prop} : ∀ (f i k : Nat), k < f → (∀ j, j < k → ¬ p (i + j)) → p (i + k) → firstP p f i = ((i + k : Nat) : Int)
  | 0, _, _, h, _, _ => by omega
  | f + 1, i, 0, _, _, hp => by unfold firstP; rw [if_pos (by simpa using hp)]; rfl
  | f + 1, i, k + 1, h, hn, hp => by
    unfold firstP
    rw [if_neg (by simpa using hn 0 (by omega)), firstP_at f (i + 1) k (by omega) (fun j hj => by have := hn (j + 1) (by omega); rwa [show i + (j + 1) = i + 1 + j by omega] at this) (by rwa [show i + (k + 1) = i + 1 + k by omega] at hp)]
    congr 1
    omega
theorem firstP_no {p : Nat → Prop} : ∀ (f i : Nat), (∀ j, j < f → ¬ p (i + j)) → firstP p f i = -1
  | 0, _, _ => rfl
  | f + 1, i, hn => by
    unfold firstP
    rw [if_neg (by simpa using hn 0 (by omega))]
    exact firstP_no f (i + 1) (fun j hj => by have := hn (j + 1) (by omega); rwa [show i + (j + 1) = i + 1 + j by omega] at this)
noncomputable def cycAt (ns : List Node) : Int := firstP (fun i => Cyc ns (i : Int)) ns.length 0
noncomputable def looseAt (s : Scene) : Int := firstP (fun i => ¬ Rch s.nodes [s.root] (i : Int)) s.nodes.length 0
noncomputable def gcheck (s : Scene) : Int × Int :=
  if s.root < 0 ∨ (s.nodes.length : Int) ≤ s.root then (13, -1) else if 0 ≤ refsAt s.nodes then (13, refsAt s.nodes)
  else if 0 ≤ cycAt s.nodes then (14, cycAt s.nodes) else if 0 ≤ looseAt s then (15, looseAt s) else (0, 0)
structure Right (s : Scene) : Prop where
  r0 : 0 ≤ s.root
  r1 : s.root < s.nodes.length
  pl : Places s.nodes
  cyc : ∀ p : Nat, p < s.nodes.length → ¬ Cyc s.nodes p
  all : ∀ p : Nat, p < s.nodes.length → Rch s.nodes [s.root] (p : Int)
theorem refsAt_lt (l : List Node) : refsAt l = -1 ∨ 0 ≤ refsAt l := by
  unfold refsAt
  have : ∀ (N : Nat) (l : List Node) (i : Nat), refsFrom N l i = -1 ∨ 0 ≤ refsFrom N l i := fun N l => by
    induction l with
    | nil => intro i; exact .inl rfl
    | cons n r ih =>
      intro i
      unfold refsFrom
      split
      · exact .inr (by omega)
      · exact ih _
  exact this _ _ _
theorem firstP_neg {p : Nat → Prop} : ∀ (f i : Nat), firstP p f i < 0 → ∀ j, j < f → ¬ p (i + j)
  | 0, _, _, j, hj => by omega
  | f + 1, i, h, j, hj => by
    unfold firstP at h
    by_cases hp : p i
    · rw [if_pos hp] at h; omega
    · rw [if_neg hp] at h
      cases j with
      | zero => simpa using hp
      | succ j =>
        have := firstP_neg f (i + 1) h j (by omega)
        rwa [show i + (j + 1) = i + 1 + j by omega]
theorem Places.refs {ns : List Node} (h : Places ns) : refsAt ns = -1 := by
  unfold refsAt
  refine refsFrom_no ns 0 (fun j hj => ?_)
  refine decide_eq_false (fun ⟨q, hq, hb⟩ => ?_)
  have := h j hj _ (rd_mem hq)
  unfold noPlace at hb
  simp at hb
  omega
theorem gcheck_right {s : Scene} : (gcheck s).1 = 0 ↔ Right s := by
  unfold gcheck
  constructor
  · intro h
    by_cases h1 : s.root < 0 ∨ (s.nodes.length : Int) ≤ s.root
    · rw [if_pos h1] at h; simp at h
    · rw [if_neg h1] at h
      by_cases h2 : 0 ≤ refsAt s.nodes
      · rw [if_pos h2] at h; simp at h
      · rw [if_neg h2] at h
        by_cases h3 : 0 ≤ cycAt s.nodes
        · rw [if_pos h3] at h; simp at h
        · rw [if_neg h3] at h
          by_cases h4 : 0 ≤ looseAt s
          · rw [if_pos h4] at h; simp at h
          · refine ⟨by omega, by omega, Places.of_refs ((refsAt_lt _).resolve_right h2), fun p hp => ?_, fun p hp => ?_⟩
            · have := firstP_neg _ _ (show firstP (fun i => Cyc s.nodes (i : Int)) s.nodes.length 0 < 0 from by unfold cycAt at h3; omega) p hp
              simpa using this
            · have := firstP_neg _ _ (show firstP (fun i => ¬ Rch s.nodes [s.root] (i : Int)) s.nodes.length 0 < 0 from by unfold looseAt at h4; omega) p hp
              have := Classical.not_not.1 this
              simpa using this
  · intro h
    have h0 := h.r0
    have h1 := h.r1
    rw [if_neg (by omega), if_neg (by rw [h.pl.refs]; omega)]
    rw [if_neg (by unfold cycAt; rw [firstP_no _ _ (fun j hj => by simpa using h.cyc j hj)]; omega)]
    rw [if_neg (by unfold looseAt; rw [firstP_no _ _ (fun j hj => by simpa using h.all j hj)]; omega)]
theorem gcheck_zero {s : Scene} (h : Right s) : gcheck s = (0, 0) := by
  have h0 := h.r0
  have h1 := h.r1
  unfold gcheck
  rw [if_neg (by omega), if_neg (by rw [h.pl.refs]; omega)]
  rw [if_neg (by unfold cycAt; rw [firstP_no _ _ (fun j hj => by simpa using h.cyc j hj)]; omega)]
  rw [if_neg (by unfold looseAt; rw [firstP_no _ _ (fun j hj => by simpa using h.all j hj)]; omega)]
end Go.Proofs.YtggldnbhmebcpaaDoor.L
end
section
namespace Go.Proofs.YtggldnbhmebcpaaDoor.L
open Go.RowKit Go.ChangeShapes Go.WideShapes Go.Proofs.YtggldnbhmebcpaaDoorW.PrintWords Go.Proofs.YtggldnbhmebcpaaDoorW.PrintLast Go.Proofs.YtggldnbhmebcpaaDoorW.PrintMore
attribute [local go_sem] max2_int min2_int max_two min_two max_three min_three max_four min_four
def meet (ns : List Node) : Nat → Int → List Int → List Int
  | 0, _, met => met
  | f + 1, a, met => if a ∈ met then met else (kids ns a).foldl (fun m k => meet ns f k m) met ++ [a]
structure Dag (ns : List Node) : Prop where
  pl : Places ns
  cyc : ∀ p : Nat, p < ns.length → ¬ Cyc ns p
theorem Right.dag {s : Scene} (h : Right s) : Dag s.nodes := ⟨h.pl, h.cyc⟩
def Pl (ns : List Node) (x : Int) : Prop := 0 ≤ x ∧ x < (ns.length : Int)
theorem Dag.kid {ns : List Node} (h : Dag ns) {p k : Int} (hp : Pl ns p) (hk : k ∈ kids ns p) : Pl ns k := h.pl p.toNat (by have := hp.1; have := hp.2; omega) k hk
open Classical in
theorem Dag.lower {ns : List Node} (h : Dag ns) {p k : Int} (hp : Pl ns p) (hk : k ∈ kids ns p) : reachN ns k < reachN ns p := by
  have hkp := h.kid hp hk
  obtain ⟨q, rfl⟩ : ∃ q : Nat, k = (q : Int) := ⟨k.toNat, by have := hkp.1; omega⟩
  unfold reachN
  refine filter_lt q _ (fun y hy => ?_) (List.mem_range.2 (by have := hkp.2; omega)) ?_ ?_
  · exact decide_eq_true (Rch.trans (.base hk) (of_decide_eq_true hy))
  · exact decide_eq_false (h.cyc q (by have := hkp.2; omega))
  · exact decide_eq_true (.base hk)
open Classical in
theorem reachN_le (ns : List Node) (p : Int) : reachN ns p ≤ ns.length := by
  unfold reachN
  exact Nat.le_trans (List.length_filter_le _ _) (by simp)
theorem foldl_congr {α β : Type} {f g : β → α → β} : ∀ (l : List α) (b : β), (∀ x ∈ l, ∀ b, f b x = g b x) → l.foldl f b = l.foldl g b
  | [], _, _ => rfl
  | x :: l, b, h => by rw [List.foldl_cons, List.foldl_cons, h x (by simp)]; exact foldl_congr l _ (fun y hy => h y (by simp [hy]))
theorem meet_fuel {ns : List Node} (h : Dag ns) : ∀ (f g : Nat) (a : Int) (met : List Int), Pl ns a → reachN ns a < f → reachN ns a < g → meet ns f a met = meet ns g a met
  | 0, _, _, _, _, hf, _ => by omega
  | f + 1, 0, _, _, _, _, hg => by omega
  | f + 1, g + 1, a, met, ha, hf, hg => by
    unfold meet
    split
    · rfl
    · congr 1
      exact foldl_congr _ _ (fun k hk b => meet_fuel h f g k b (h.kid ha hk) (by have := h.lower ha hk; omega) (by have := h.lower ha hk; omega))
def M (ns : List Node) (a : Int) (met : List Int) : List Int := meet ns (ns.length + 1) a met
def ML (ns : List Node) (l : List Int) (met : List Int) : List Int := l.foldl (fun m k => M ns k m) met
theorem M_eq {ns : List Node} (h : Dag ns) {a : Int} (ha : Pl ns a) (met : List Int) : M ns a met = if a ∈ met then met else ML ns (kids ns a) met ++ [a] := by
  unfold M
  conv => lhs; unfold meet
  split
  · rfl
  · congr 1
    refine foldl_congr _ _ (fun k hk b => meet_fuel h _ _ k b (h.kid ha hk) ?_ ?_)
    · have := h.lower ha hk; have := reachN_le ns a; omega
    · have := reachN_le ns k; omega
theorem M_in {ns : List Node} (h : Dag ns) {a : Int} (ha : Pl ns a) {met : List Int} (hm : a ∈ met) : M ns a met = met := by rw [M_eq h ha, if_pos hm]
theorem M_out {ns : List Node} (h : Dag ns) {a : Int} (ha : Pl ns a) {met : List Int} (hm : ¬ a ∈ met) : M ns a met = ML ns (kids ns a) met ++ [a] := by rw [M_eq h ha, if_neg hm]
theorem ML_cons (ns : List Node) (k : Int) (l met : List Int) : ML ns (k :: l) met = ML ns l (M ns k met) := rfl
theorem ML_nil (ns : List Node) (met : List Int) : ML ns [] met = met := rfl
structure Shut (ns : List Node) (m : List Int) : Prop where
  nd : m.Nodup
  pl : ∀ x ∈ m, Pl ns x
  kids : ∀ x ∈ m, ∀ k ∈ kids ns x, k ∈ m
theorem Shut.nil (ns : List Node) : Shut ns [] := ⟨List.nodup_nil, fun x hx => by simp at hx, fun x hx => by simp at hx⟩
structure Met (ns : List Node) (a : Int) (met out : List Int) : Prop where
  shut : Shut ns out
  ext : ∃ r, out = met ++ r ∧ ∀ x ∈ r, Rch ns [a] x
  here : a ∈ out
theorem Rch.sub {ns : List Node} {l l' : List Int} (h : ∀ k ∈ l, Rch ns l' k) {x : Int} (hr : Rch ns l x) : Rch ns l' x := by
  induction hr with
  | base hk => exact h _ hk
  | step _ hk ih => exact .step ih hk
theorem Rch.under {ns : List Node} {a : Int} {x : Int} (h : Rch ns (_root_.Go.Proofs.YtggldnbhmebcpaaDoor.L.kids ns a) x) : Rch ns [a] x := h.sub (fun _ hk => .step (.base (by simp)) hk)
theorem M_met {ns : List Node} (h : Dag ns) : ∀ (N : Nat) (a : Int) (met : List Int), reachN ns a < N → Pl ns a → Shut ns met → (∀ x ∈ met, ¬ Rch ns (kids ns x) a ∨ a ∈ met) → Met ns a met (M ns a met)
  | 0, _, _, hN, _, _, _ => by omega
  | N + 1, a, met, hN, ha, hs, hx => by
    by_cases hm : a ∈ met
    · rw [M_in h ha hm]
      exact ⟨hs, ⟨[], by simp, fun x hx => by simp at hx⟩, hm⟩
    · rw [M_out h ha hm]
      -- the kids, one behind the other
      have key : ∀ (l met : List Int), (∀ k ∈ l, k ∈ kids ns a) → Shut ns met → ¬ a ∈ met → (Shut ns (ML ns l met) ∧ (∃ r, ML ns l met = met ++ r ∧ ∀ x ∈ r, Rch ns (kids ns a) x) ∧ ∀ k ∈ l, k ∈ ML ns l met) := by
        intro l
        induction l with
        | nil => intro met _ hs _; exact ⟨hs, ⟨[], by simp [ML_nil], fun x hx => by simp at hx⟩, fun k hk => by simp at hk⟩
        | cons k l ih =>
          intro met hl hs hna
          have hk := hl k (by simp)
          have m1 := M_met h N k met (by have := h.lower ha hk; omega) (h.kid ha hk) hs (fun x hx => by
            by_cases hr : Rch ns (kids ns x) k
            · right
              clear hna
              have : ∀ y, Rch ns (kids ns x) y → y ∈ met := fun y hy => by
                induction hy with
                | base hb => exact hs.kids x hx _ hb
                | step _ hb ih => exact hs.kids _ ih _ hb
              exact this k hr
            · exact .inl hr)
          obtain ⟨r1, e1, hr1⟩ := m1.ext
          have hka : ∀ x, Rch ns [k] x → Rch ns (kids ns a) x := fun x hx => hx.sub (fun y hy => by rw [List.mem_singleton.1 hy]; exact .base hk)
          have hna1 : ¬ a ∈ M ns k met := fun hin => by
            rw [e1] at hin
            rcases List.mem_append.1 hin with hin | hin
            · exact hna hin
            · obtain ⟨q, rfl⟩ : ∃ q : Nat, a = (q : Int) := ⟨a.toNat, by have := ha.1; omega⟩
              exact h.cyc q (by have := ha.2; omega) (hka _ (hr1 _ hin))
          obtain ⟨s2, ⟨r2, e2, hr2⟩, k2⟩ := ih (M ns k met) (fun y hy => hl y (by simp [hy])) m1.shut hna1
          rw [ML_cons]
          refine ⟨s2, ⟨r1 ++ r2, by rw [e2, e1, List.append_assoc], fun x hx => ?_⟩, fun y hy => ?_⟩
          · rcases List.mem_append.1 hx with hx | hx
            · exact hka x (hr1 x hx)
            · exact hr2 x hx
          · rcases List.mem_cons.1 hy with rfl | hy
            · rw [e2]; exact List.mem_append_left _ m1.here
            · exact k2 y hy
      obtain ⟨s2, ⟨r, e, hr⟩, k2⟩ := key (kids ns a) met (fun _ hk => hk) hs hm
      have hna : ¬ a ∈ ML ns (kids ns a) met := fun hin => by
        rw [e] at hin
        rcases List.mem_append.1 hin with hin | hin
        · exact hm hin
        · obtain ⟨q, rfl⟩ : ∃ q : Nat, a = (q : Int) := ⟨a.toNat, by have := ha.1; omega⟩
          exact h.cyc q (by have := ha.2; omega) (hr _ hin)
      refine ⟨⟨List.nodup_append.2 ⟨s2.nd, by simp, fun x hx y hy e => by rw [List.mem_singleton.1 hy] at e; exact hna (e ▸ hx)⟩, fun x hx => ?_, fun x hx k hk => ?_⟩, ⟨r ++ [a], by rw [e, List.append_assoc], fun x hx => ?_⟩, by simp⟩
      · rcases List.mem_append.1 hx with hx | hx
        · exact s2.pl x hx
        · rw [List.mem_singleton.1 hx]; exact ha
      · rcases List.mem_append.1 hx with hx | hx
        · exact List.mem_append_left _ (s2.kids x hx k hk)
        · rw [List.mem_singleton.1 hx] at hk; exact List.mem_append_left _ (k2 k hk)
      · rcases List.mem_append.1 hx with hx | hx
        · exact (hr x hx).under
        · exact .base hx
def ord (s : Scene) : List Int := M s.nodes s.root []
theorem ord_met {s : Scene} (h : Right s) : Met s.nodes s.root [] (ord s) := M_met h.dag _ _ _ (Nat.lt_succ_self _) ⟨h.r0, h.r1⟩ (Shut.nil _) (fun x hx => by simp at hx)
theorem ord_nodup {s : Scene} (h : Right s) : (ord s).Nodup := (ord_met h).shut.nd
theorem ord_pl {s : Scene} (h : Right s) : ∀ x ∈ ord s, Pl s.nodes x := (ord_met h).shut.pl
theorem ord_all {s : Scene} (h : Right s) (p : Nat) (hp : p < s.nodes.length) : (p : Int) ∈ ord s := by
  have hm := ord_met h
  have : ∀ y, Rch s.nodes [s.root] y → y ∈ ord s := fun y hy => by
    induction hy with
    | base hb => rw [List.mem_singleton.1 hb]; exact hm.here
    | step _ hb ih => exact hm.shut.kids _ ih _ hb
  exact this _ (h.all p hp)
end Go.Proofs.YtggldnbhmebcpaaDoor.L
end
section
namespace Go.Proofs.YtggldnbhmebcpaaDoor.L
open Go.RowKit Go.ChangeShapes Go.WideShapes Go.Proofs.YtggldnbhmebcpaaDoorW.PrintWords Go.Proofs.YtggldnbhmebcpaaDoorW.PrintLast Go.Proofs.YtggldnbhmebcpaaDoorW.PrintMore
attribute [local go_sem] max2_int min2_int max_two min_two max_three min_three max_four min_four
def cont (ns : List Node) : List (Int × Nat) → List Int → List Int
  | [], out => out
  | x :: r, out => cont ns r (ML ns ((kids ns x.1).drop x.2) out ++ [x.1])
def stk (ns : List Node) (st : List (Int × Nat)) : Nat := (st.map (fun x => (kids ns x.1).length - x.2 + 1)).sum
theorem stk_snoc (ns : List Node) (st : List (Int × Nat)) (x : Int × Nat) : stk ns (st ++ [x]) = stk ns st + ((kids ns x.1).length - x.2 + 1) := by unfold stk; rw [List.map_append, List.sum_append]; simp
theorem stk_len (ns : List Node) (st : List (Int × Nat)) : st.length ≤ stk ns st := by
  induction st with
  | nil => exact Nat.zero_le _
  | cons x r ih =>
    have : stk ns (x :: r) = ((kids ns x.1).length - x.2 + 1) + stk ns r := by unfold stk; rw [List.map_cons, List.sum_cons]
    rw [this, List.length_cons]; omega
structure CInv (ns : List Node) (o : List Int) (m : Nat) (out : List Int) (st : List (Int × Nat)) (vs : List Int) (cnt : Nat) : Prop where
  eq : cont ns st.reverse out = o
  pl : ∀ x ∈ st, Pl ns x.1 ∧ x.2 ≤ (kids ns x.1).length
  iff : ∀ k, k ∈ vs ↔ k ∈ out ∨ ∃ j, (k, j) ∈ st
  ch : st.Pairwise (fun x y => Rch ns (kids ns x.1) y.1)
  mo : left ns vs + stk ns st + out.length ≤ m
  c : left ns vs + stk ns st + cnt ≤ m + 1
theorem CInv.start {s : Scene} (h : Dag s.nodes) (hr : Pl s.nodes s.root) : CInv s.nodes (ord s) (rows s.nodes) [] [(s.root, 0)] [s.root] 1 := by
  obtain ⟨q, e⟩ : ∃ q : Nat, s.root = (q : Int) := ⟨s.root.toNat, by have := hr.1; omega⟩
  have h1 := left_cons (ns := s.nodes) (vs := []) (x := q) (by have := hr.2; omega) (by simp)
  rw [left_nil, ← e, wt] at h1
  have h2 : stk s.nodes [(s.root, 0)] = (nd s.nodes q).kids.length + 1 := by
    unfold stk
    rw [List.map_cons, List.map_nil, List.sum_cons, List.sum_nil]
    have : kids s.nodes s.root = (nd s.nodes q).kids := by unfold kids; rw [e, Int.toNat_natCast]
    rw [this]; rfl
  refine ⟨?_, fun x hx => ?_, fun k => ?_, ?_, ?_, ?_⟩
  · show cont s.nodes [(s.root, 0)] [] = _
    unfold ord
    rw [M_out h hr (by simp)]
    rfl
  · rw [List.mem_singleton.1 hx]; exact ⟨hr, Nat.zero_le _⟩
  · constructor
    · intro hk; rw [List.mem_singleton.1 hk]; exact .inr ⟨0, by simp⟩
    · rintro (hk | ⟨j, hj⟩)
      · simp at hk
      · have := List.mem_singleton.1 hj
        injection this with h1 _
        rw [h1]; simp
  · exact List.pairwise_singleton _ _
  · rw [h2]; simp; omega
  · rw [h2]; omega
theorem CInv.pop {ns : List Node} {o out vs : List Int} {st : List (Int × Nat)} {a : Int} {j m cnt : Nat} (h : CInv ns o m out (st ++ [(a, j)]) vs cnt) (hj : j = (kids ns a).length) : CInv ns o m (out ++ [a]) st vs cnt := by
  subst hj
  have hs := stk_snoc ns st (a, (kids ns a).length)
  refine ⟨?_, fun x hx => h.pl x (by simp [hx]), fun k => ?_, (List.pairwise_append.1 h.ch).1, ?_, ?_⟩
  · have := h.eq
    rw [List.reverse_append] at this
    simp only [List.reverse_cons, List.reverse_nil, List.nil_append, List.cons_append] at this
    unfold cont at this
    simp only [List.drop_length, ML_nil] at this
    exact this
  · rw [h.iff k]
    constructor
    · rintro (hk | ⟨j, hj⟩)
      · exact .inl (by simp [hk])
      · rcases List.mem_append.1 hj with hj | hj
        · exact .inr ⟨j, hj⟩
        · have := List.mem_singleton.1 hj
          injection this with h1 _
          exact .inl (by rw [h1]; simp)
    · rintro (hk | ⟨j, hj⟩)
      · rcases List.mem_append.1 hk with hk | hk
        · exact .inl hk
        · rw [List.mem_singleton.1 hk]; exact .inr ⟨_, List.mem_append_right _ (List.mem_singleton.2 rfl)⟩
      · exact .inr ⟨j, by simp [hj]⟩
  · have := h.mo; rw [hs] at this; rw [List.length_append, List.length_singleton]; omega
  · have := h.c; rw [hs] at this; omega
theorem CInv.kid {ns : List Node} {o out vs : List Int} {st : List (Int × Nat)} {a : Int} {j m cnt : Nat} (hd : Dag ns) (h : CInv ns o m out (st ++ [(a, j)]) vs cnt) (hj : j < (kids ns a).length) : Pl ns (rd (kids ns a) (j : Int)) ∧ rd (kids ns a) (j : Int) ∈ kids ns a := by
  have h1 : rd (kids ns a) (j : Int) ∈ kids ns a := rd_mem hj
  exact ⟨hd.kid (h.pl _ (List.mem_append_right _ (List.mem_singleton.2 rfl))).1 h1, h1⟩
theorem drop_rd {l : List Int} {j : Nat} (hj : j < l.length) : l.drop j = rd l (j : Int) :: l.drop (j + 1) := by rw [List.drop_eq_getElem_cons hj, rd_eq hj]
theorem CInv.pass {ns : List Node} {o out vs : List Int} {st : List (Int × Nat)} {a : Int} {j m cnt : Nat} (hd : Dag ns) (h : CInv ns o m out (st ++ [(a, j)]) vs cnt) (hj : j < (kids ns a).length) (hk : rd (kids ns a) (j : Int) ∈ vs) :
    CInv ns o m out (st ++ [(a, j + 1)]) vs cnt ∧ left ns vs + stk ns (st ++ [(a, j + 1)]) < left ns vs + stk ns (st ++ [(a, j)]) := by
  obtain ⟨hp, hm⟩ := h.kid hd hj
  have s1 := stk_snoc ns st (a, j)
  have s2 := stk_snoc ns st (a, j + 1)
  simp only at s1 s2
  refine ⟨⟨?_, fun x hx => ?_, fun k => ?_, ?_, ?_, ?_⟩, by omega⟩
  · have := h.eq
    rw [List.reverse_append] at this ⊢
    simp only [List.reverse_cons, List.reverse_nil, List.nil_append, List.cons_append] at this ⊢
    unfold cont at this ⊢
    simp only at this ⊢
    rw [drop_rd hj, ML_cons, M_in hd hp] at this
    · exact this
    · rcases (h.iff _).1 hk with hk | ⟨i, hi⟩
      · exact hk
      · exfalso
        have hcyc : Rch ns (kids ns (rd (kids ns a) (j : Int))) (rd (kids ns a) (j : Int)) := by
          rcases List.mem_append.1 hi with hi | hi
          · exact .step ((List.pairwise_append.1 h.ch).2.2 _ hi (a, j) (by simp)) hm
          · have := List.mem_singleton.1 hi
            injection this with h1 _
            have hm' := hm
            rw [h1] at hm' ⊢
            exact .base hm'
        obtain ⟨q, e⟩ : ∃ q : Nat, rd (kids ns a) (j : Int) = (q : Int) := ⟨(rd (kids ns a) (j : Int)).toNat, by have := hp.1; omega⟩
        rw [e] at hcyc
        exact hd.cyc q (by have := hp.2; omega) hcyc
  · rcases List.mem_append.1 hx with hx | hx
    · exact h.pl x (by simp [hx])
    · rw [List.mem_singleton.1 hx]
      exact ⟨(h.pl (a, j) (by simp)).1, hj⟩
  · rw [h.iff k]
    constructor
    · rintro (hk | ⟨i, hi⟩)
      · exact .inl hk
      · rcases List.mem_append.1 hi with hi | hi
        · exact .inr ⟨i, by simp [hi]⟩
        · have := List.mem_singleton.1 hi
          injection this with h1 _
          exact .inr ⟨j + 1, by rw [h1]; simp⟩
    · rintro (hk | ⟨i, hi⟩)
      · exact .inl hk
      · rcases List.mem_append.1 hi with hi | hi
        · exact .inr ⟨i, by simp [hi]⟩
        · have := List.mem_singleton.1 hi
          injection this with h1 _
          exact .inr ⟨j, by rw [h1]; simp⟩
  · have hc := List.pairwise_append.1 h.ch
    refine List.pairwise_append.2 ⟨hc.1, List.pairwise_singleton _ _, fun x hx y hy => ?_⟩
    rw [List.mem_singleton.1 hy]
    exact hc.2.2 x hx (a, j) (by simp)
  · have := h.mo; omega
  · have := h.c; omega
theorem CInv.push {ns : List Node} {o out vs : List Int} {st : List (Int × Nat)} {a : Int} {j m cnt : Nat} (hd : Dag ns) (h : CInv ns o m out (st ++ [(a, j)]) vs cnt) (hj : j < (kids ns a).length) (hk : ¬ rd (kids ns a) (j : Int) ∈ vs) :
    CInv ns o m out (st ++ [(a, j + 1)] ++ [(rd (kids ns a) (j : Int), 0)]) (rd (kids ns a) (j : Int) :: vs) (cnt + 1) ∧ left ns (rd (kids ns a) (j : Int) :: vs) + stk ns (st ++ [(a, j + 1)] ++ [(rd (kids ns a) (j : Int), 0)]) < left ns vs + stk ns (st ++ [(a, j)]) := by
  obtain ⟨hp, hm⟩ := h.kid hd hj
  have s1 := stk_snoc ns st (a, j)
  have s2 := stk_snoc ns st (a, j + 1)
  have s3 := stk_snoc ns (st ++ [(a, j + 1)]) (rd (kids ns a) (j : Int), 0)
  have hl : left ns (rd (kids ns a) (j : Int) :: vs) + ((kids ns (rd (kids ns a) (j : Int))).length + 1) = left ns vs := by
    obtain ⟨q, e⟩ : ∃ q : Nat, rd (kids ns a) (j : Int) = (q : Int) := ⟨(rd (kids ns a) (j : Int)).toNat, by have := hp.1; omega⟩
    rw [e] at hk hp ⊢
    have h1 := left_cons (ns := ns) (vs := vs) (x := q) (by have := hp.2; omega) hk
    rw [wt] at h1
    have : kids ns (q : Int) = (nd ns q).kids := by unfold kids; rw [Int.toNat_natCast]
    rw [this]; exact h1
  simp only at s1 s2 s3
  have hnout : ¬ rd (kids ns a) (j : Int) ∈ out := fun hin => hk ((h.iff _).2 (.inl hin))
  refine ⟨⟨?_, fun x hx => ?_, fun k => ?_, ?_, ?_, ?_⟩, by omega⟩
  · have := h.eq
    rw [List.reverse_append] at this
    rw [List.reverse_append, List.reverse_append]
    simp only [List.reverse_cons, List.reverse_nil, List.nil_append, List.cons_append] at this ⊢
    unfold cont at this
    simp only at this
    rw [drop_rd hj, ML_cons, M_out hd hp hnout] at this
    unfold cont
    unfold cont
    simp only [List.drop_zero]
    exact this
  · rcases List.mem_append.1 hx with hx | hx
    · rcases List.mem_append.1 hx with hx | hx
      · exact h.pl x (by simp [hx])
      · rw [List.mem_singleton.1 hx]
        exact ⟨(h.pl (a, j) (by simp)).1, hj⟩
    · rw [List.mem_singleton.1 hx]
      exact ⟨hp, Nat.zero_le _⟩
  · rw [List.mem_cons, h.iff k]
    constructor
    · rintro (rfl | hk | ⟨i, hi⟩)
      · exact .inr ⟨0, by simp⟩
      · exact .inl hk
      · rcases List.mem_append.1 hi with hi | hi
        · exact .inr ⟨i, by simp [hi]⟩
        · have := List.mem_singleton.1 hi
          injection this with h1 _
          exact .inr ⟨j + 1, by rw [h1]; simp⟩
    · rintro (hk | ⟨i, hi⟩)
      · exact .inr (.inl hk)
      · rcases List.mem_append.1 hi with hi | hi
        · rcases List.mem_append.1 hi with hi | hi
          · exact .inr (.inr ⟨i, by simp [hi]⟩)
          · have := List.mem_singleton.1 hi
            injection this with h1 _
            exact .inr (.inr ⟨j, by rw [h1]; simp⟩)
        · have := List.mem_singleton.1 hi
          injection this with h1 _
          exact .inl h1
  · have hc := List.pairwise_append.1 h.ch
    refine List.pairwise_append.2 ⟨List.pairwise_append.2 ⟨hc.1, List.pairwise_singleton _ _, fun x hx y hy => ?_⟩, List.pairwise_singleton _ _, fun x hx y hy => ?_⟩
    · rw [List.mem_singleton.1 hy]
      exact hc.2.2 x hx (a, j) (by simp)
    · rw [List.mem_singleton.1 hy]
      rcases List.mem_append.1 hx with hx | hx
      · exact .step (hc.2.2 x hx (a, j) (by simp)) hm
      · rw [List.mem_singleton.1 hx]; exact .base hm
  · have := h.mo; omega
  · have := h.c; omega
end Go.Proofs.YtggldnbhmebcpaaDoor.L
end
section
namespace Go.Proofs.YtggldnbhmebcpaaDoor.L
open Go.RowKit Go.ChangeShapes Go.WideShapes Go.Proofs.YtggldnbhmebcpaaDoorW.PrintWords Go.Proofs.YtggldnbhmebcpaaDoorW.PrintLast Go.Proofs.YtggldnbhmebcpaaDoorW.PrintMore
attribute [local go_sem] max2_int min2_int max_two min_two max_three min_three max_four min_four
def RowPost {α : Type} (d : Kd α) (t : Nat) (l : List α) (w : World) (e : Ending) (w' : World) : Prop := ∃ A c, e = .returned (.slice A l.length c) ∧ d.R t w' w.heap.size (fun _ => True) (.slice A l.length c) l ∧ Below w.heap.size w w'
theorem RowPost.mk {α : Type} {d : Kd α} {t : Nat} {l : List α} {w w' : World} {v : Value} (h : d.R t w' w.heap.size (fun _ => True) v l) (hb : Below w.heap.size w w') : RowPost d t l w (.returned v) w' := by
  obtain ⟨A, c, rfl⟩ := Kd.R_slice h
  exact ⟨A, c, rfl, h, hb⟩
theorem info_i64 : (Tryd.prog.info? 2).map (fun i => (i.zero, i.size, i.bytes)) = some (some (.int .i64 0), 1, 8) := by kernel_rfl
theorem info_int : (Tryd.prog.info? 3).map (fun i => (i.zero, i.size, i.bytes)) = some (some (.int .i64 0), 1, 8) := by kernel_rfl
theorem info_str : (Tryd.prog.info? 9).map (fun i => (i.zero, i.size, i.bytes)) = some (some (.string ByteArray.empty), 1, 16) := by kernel_rfl
set_option maxHeartbeats 1000000 in
theorem clone_i64 (A : Option Addr) (c : Nat) (l : List Int) (w : World) (h : (Kd.int .i64).C w A l.length l) (hl : l.length ≤ 8000000000000) :
    Calls Tryd.prog 60 #[.slice A l.length c] w (RowPost (Kd.int .i64) 2 l w) := by
  have HR := Aside0.mk h
  have HB := Aside0.mk (Below.refl w.heap.size w)
  clear h
  have hn := fun (w : World) (a : Option Addr) (n c : Nat) => Lib.run_eql_slice_nil (P := Tryd.prog) w 43 2 a n c 0 0 Tryd.underlying43
  cases A with
  | none =>
    have HE : Aside0 (l = []) := ⟨by
      rcases Nat.eq_zero_or_pos l.length with h0 | h0
      · exact List.eq_nil_of_length_eq_zero h0
      · obtain ⟨ad, h, _⟩ := HR.out.2.2 h0; cases h⟩
    go_enter Tryd.func60, Tryd.ntmps60
    go_wp2
    go_ret
    exact RowPost.mk (by rw [HE.out]; exact Kd.R_nil _ _ _ _ _) HB.out
  | some ad =>
    go_enter Tryd.func60, Tryd.ntmps60
    go_wp2_with (at_builtin; refine Kd.R_append_rows (Kd.int .i64) (Rr := fun x cs => cs = [.int .i64 x]) (w0 := w) w.heap.size rfl (.tmp 5) (.tmp 6) 43 2 (.int .i64 0) 8 rfl Tryd.underlying43 info_i64 rfl (by decide) (by omega) (.slice (some ⟨w.heap.size, 0, none⟩) 0 0) [] l _ _ _ (fun _ => True) (fun _ => False) rfl rfl (R_empty _ _ _ _ (Nat.le_refl _)) (Kd.C_alloc HR.out _) (fun _ _ h => h) (fun _ h => h.elim) (fun _ _ => trivial) (below_alloc HB.out _) (below_alloc HB.out _).size (by simp; omega) ?_; intro v2 w2 hR2 hB2 _ _; have HR2 := Aside0.mk hR2; have HB2 := Aside0.mk hB2; clear hR2 hB2)
    go_ret
    exact RowPost.mk (by have := HR2.out; rwa [List.nil_append] at this) HB2.out
set_option maxHeartbeats 1000000 in
theorem clone_int (A : Option Addr) (c : Nat) (l : List Int) (w : World) (h : (Kd.int .i64).C w A l.length l) (hl : l.length ≤ 8000000000000) :
    Calls Tryd.prog 62 #[.slice A l.length c] w (RowPost (Kd.int .i64) 3 l w) := by
  have HR := Aside0.mk h
  have HB := Aside0.mk (Below.refl w.heap.size w)
  clear h
  have hn := fun (w : World) (a : Option Addr) (n c : Nat) => Lib.run_eql_slice_nil (P := Tryd.prog) w 27 3 a n c 0 0 Tryd.underlying27
  cases A with
  | none =>
    have HE : Aside0 (l = []) := ⟨by
      rcases Nat.eq_zero_or_pos l.length with h0 | h0
      · exact List.eq_nil_of_length_eq_zero h0
      · obtain ⟨ad, h, _⟩ := HR.out.2.2 h0; cases h⟩
    go_enter Tryd.func62, Tryd.ntmps62
    go_wp2
    go_ret
    exact RowPost.mk (by rw [HE.out]; exact Kd.R_nil _ _ _ _ _) HB.out
  | some ad =>
    go_enter Tryd.func62, Tryd.ntmps62
    go_wp2_with (at_builtin; refine Kd.R_append_rows (Kd.int .i64) (Rr := fun x cs => cs = [.int .i64 x]) (w0 := w) w.heap.size rfl (.tmp 5) (.tmp 6) 27 3 (.int .i64 0) 8 rfl Tryd.underlying27 info_int rfl (by decide) (by omega) (.slice (some ⟨w.heap.size, 0, none⟩) 0 0) [] l _ _ _ (fun _ => True) (fun _ => False) rfl rfl (R_empty _ _ _ _ (Nat.le_refl _)) (Kd.C_alloc HR.out _) (fun _ _ h => h) (fun _ h => h.elim) (fun _ _ => trivial) (below_alloc HB.out _) (below_alloc HB.out _).size (by simp; omega) ?_; intro v2 w2 hR2 hB2 _ _; have HR2 := Aside0.mk hR2; have HB2 := Aside0.mk hB2; clear hR2 hB2)
    go_ret
    exact RowPost.mk (by have := HR2.out; rwa [List.nil_append] at this) HB2.out
set_option maxHeartbeats 1000000 in
theorem clone_str (A : Option Addr) (c : Nat) (l : List ByteArray) (w : World) (h : Kd.string.C w A l.length l) (hl : l.length ≤ 8000000000000) :
    Calls Tryd.prog 61 #[.slice A l.length c] w (RowPost Kd.string 9 l w) := by
  have HR := Aside0.mk h
  have HB := Aside0.mk (Below.refl w.heap.size w)
  clear h
  have hn := fun (w : World) (a : Option Addr) (n c : Nat) => Lib.run_eql_slice_nil (P := Tryd.prog) w 44 9 a n c 0 0 Tryd.underlying44
  cases A with
  | none =>
    have HE : Aside0 (l = []) := ⟨by
      rcases Nat.eq_zero_or_pos l.length with h0 | h0
      · exact List.eq_nil_of_length_eq_zero h0
      · obtain ⟨ad, h, _⟩ := HR.out.2.2 h0; cases h⟩
    go_enter Tryd.func61, Tryd.ntmps61
    go_wp2
    go_ret
    exact RowPost.mk (by rw [HE.out]; exact Kd.R_nil _ _ _ _ _) HB.out
  | some ad =>
    go_enter Tryd.func61, Tryd.ntmps61
    go_wp2_with (at_builtin; refine Kd.R_append_rows Kd.string (Rr := fun x cs => cs = [.string x]) (w0 := w) w.heap.size rfl (.tmp 5) (.tmp 6) 44 9 (.string ByteArray.empty) 16 rfl Tryd.underlying44 info_str rfl (by decide) (by omega) (.slice (some ⟨w.heap.size, 0, none⟩) 0 0) [] l _ _ _ (fun _ => True) (fun _ => False) rfl rfl (R_empty _ _ _ _ (Nat.le_refl _)) (Kd.C_alloc HR.out _) (fun _ _ h => h) (fun _ h => h.elim) (fun _ _ => trivial) (below_alloc HB.out _) (below_alloc HB.out _).size (by simp; omega) ?_; intro v2 w2 hR2 hB2 _ _; have HR2 := Aside0.mk hR2; have HB2 := Aside0.mk hB2; clear hR2 hB2)
    go_ret
    exact RowPost.mk (by have := HR2.out; rwa [List.nil_append] at this) HB2.out
end Go.Proofs.YtggldnbhmebcpaaDoor.L
end
section
namespace Go.Proofs.YtggldnbhmebcpaaDoor.L
open Go.RowKit Go.ChangeShapes Go.WideShapes Go.Proofs.YtggldnbhmebcpaaDoorW.PrintWords Go.Proofs.YtggldnbhmebcpaaDoorW.PrintLast Go.Proofs.YtggldnbhmebcpaaDoorW.PrintMore
attribute [local go_sem] max2_int min2_int max_two min_two max_three min_three max_four min_four
theorem keyI : Maps.Keyed Tryd.prog 3 := Maps.int_keyed Tryd.underlying3
theorem keyI_of {x : Int} (h0 : -9223372036854775808 ≤ x) (h1 : x ≤ 9223372036854775807) : keyOf Tryd.prog 3 (.int .i64 x) = some (.int .i64 x) := Maps.keyOf_int_mk Tryd.underlying3 (WalkArith.wf_i64 ⟨h0, h1⟩)
open Classical in
noncomputable def visF (vs : List Int) : Lit → Option Value := fun q => if ∃ k ∈ vs, q = .int .i64 k then some (.bool true) else none
theorem visF_nil : visF [] = fun _ => none := by
  funext q
  unfold visF
  rw [if_neg (fun ⟨k, hk, _⟩ => by simp at hk)]
theorem visF_put (vs : List Int) (x : Int) : putF (visF vs) (.int .i64 x) (.bool true) = visF (x :: vs) := by
  funext q
  unfold putF visF
  by_cases hq : q = .int .i64 x
  · rw [if_pos hq, if_pos ⟨x, by simp, hq⟩]
  · rw [if_neg hq]
    by_cases h : ∃ k ∈ vs, q = .int .i64 k
    · obtain ⟨k, hk, e⟩ := h
      rw [if_pos ⟨k, hk, e⟩, if_pos ⟨k, by simp [hk], e⟩]
    · rw [if_neg h, if_neg (fun ⟨k, hk, e⟩ => by
        rcases List.mem_cons.1 hk with rfl | hk
        · exact hq e
        · exact h ⟨k, hk, e⟩)]
theorem visF_in {vs : List Int} {x : Int} (h : x ∈ vs) : (visF vs (.int .i64 x)).getD (.bool false) = .bool true := by unfold visF; rw [if_pos ⟨x, h, rfl⟩]; rfl
theorem visF_out {vs : List Int} {x : Int} (h : ¬ x ∈ vs) : (visF vs (.int .i64 x)).getD (.bool false) = .bool false := by
  unfold visF
  rw [if_neg (fun ⟨k, hk, e⟩ => h (by injection e with _ e; rw [e]; exact hk))]; rfl
def ReachPost (ns : List Node) (l : List Int) (B : Nat) (w0 : World) (e : Ending) (w' : World) : Prop :=
  ∃ b vs n, e = .returned (.map (some b)) ∧ MapF Tryd.prog 3 w' b n (visF vs) ∧ B ≤ b ∧ (∀ k, k ∈ vs ↔ Rch ns l k) ∧ Below B w0 w'
structure ReachInv (ns : List Node) (l fl vs : List Int) (cnt M : Nat) : Prop where
  f : ∀ k ∈ fl, Rch ns l k ∧ 0 ≤ k ∧ k < (ns.length : Int)
  v : ∀ k ∈ vs, Rch ns l k
  l : ∀ k ∈ l, k ∈ fl ∨ k ∈ vs
  k : ∀ i ∈ vs, ∀ k ∈ kids ns i, k ∈ fl ∨ k ∈ vs
  m : left ns vs + fl.length + cnt ≤ M
theorem ReachInv.start {ns : List Node} {l : List Int} (hl : ∀ k ∈ l, 0 ≤ k ∧ k < (ns.length : Int)) : ReachInv ns l l [] 0 (rows ns + l.length) :=
  ⟨fun k hk => ⟨.base hk, hl k hk⟩, fun k hk => by simp at hk, fun k hk => .inl hk, fun i hi => by simp at hi, by rw [left_nil]; omega⟩
theorem ReachInv.pop {ns : List Node} {l fl vs : List Int} {x : Int} {cnt M : Nat} (h : ReachInv ns l (fl ++ [x]) vs cnt M) (hx : x ∈ vs) : ReachInv ns l fl vs cnt M where
  f := fun k hk => h.f k (by simp [hk])
  v := h.v
  l := fun k hk => by
    rcases h.l k hk with h' | h'
    · rcases List.mem_append.1 h' with h' | h'
      · exact .inl h'
      · exact .inr (by rw [List.mem_singleton.1 h']; exact hx)
    · exact .inr h'
  k := fun i hi k hk => by
    rcases h.k i hi k hk with h' | h'
    · rcases List.mem_append.1 h' with h' | h'
      · exact .inl h'
      · exact .inr (by rw [List.mem_singleton.1 h']; exact hx)
    · exact .inr h'
  m := by have := h.m; simp at this; omega
theorem ReachInv.visit {ns : List Node} {l fl vs : List Int} {x : Nat} {cnt M : Nat} (hp : Places ns) (h : ReachInv ns l (fl ++ [(x : Int)]) vs cnt M) (hx : ¬ (x : Int) ∈ vs) : ReachInv ns l (fl ++ kids ns x) ((x : Int) :: vs) (cnt + 1) M := by
  have h0 := h.f x (by simp)
  have hxl : x < ns.length := by omega
  have e : kids ns x = (nd ns x).kids := by unfold kids; rw [Int.toNat_natCast]
  refine ⟨fun k hk => ?_, fun k hk => ?_, fun k hk => ?_, fun i hi k hk => ?_, ?_⟩
  · rcases List.mem_append.1 hk with hk | hk
    · exact h.f k (by simp [hk])
    · exact ⟨.step h0.1 hk, hp x hxl k (by rw [← e]; exact hk)⟩
  · rcases List.mem_cons.1 hk with rfl | hk
    · exact h0.1
    · exact h.v k hk
  · rcases h.l k hk with h' | h'
    · rcases List.mem_append.1 h' with h' | h'
      · exact .inl (by simp [h'])
      · exact .inr (by rw [List.mem_singleton.1 h']; simp)
    · exact .inr (by simp [h'])
  · rcases List.mem_cons.1 hi with rfl | hi
    · exact .inl (by simp [hk])
    · rcases h.k i hi k hk with h' | h'
      · rcases List.mem_append.1 h' with h' | h'
        · exact .inl (by simp [h'])
        · exact .inr (by rw [List.mem_singleton.1 h']; simp)
      · exact .inr (by simp [h'])
  · have h1 := left_cons hxl hx
    have h2 := h.m
    rw [wt] at h1
    rw [e]
    simp at h2 ⊢
    omega
theorem ReachInv.done {ns : List Node} {l vs : List Int} {cnt M : Nat} (h : ReachInv ns l [] vs cnt M) (k : Int) : k ∈ vs ↔ Rch ns l k := by
  refine ⟨h.v k, fun hr => ?_⟩
  induction hr with
  | base hk => exact (h.l _ hk).resolve_left (by simp)
  | step _ hk ih => exact (h.k _ ih _ hk).resolve_left (by simp)
theorem zeroB (w : World) : (zeroValue 4).run Tryd.prog w = .ok (.bool false) w := by kernel_rfl
structure ReachRel (ns : List Node) (l : List Int) (A : Option Addr) (c : Nat) (root : Int) (w0 : World) (bx : Nat) (v : Value) (fl vs : List Int) (b cnt M : Nat) (W : World) : Prop where
  inv : ReachInv ns l fl vs cnt M
  row : (Kd.int .i64).R 3 W w0.heap.size (fun _ => True) v fl
  map : MapF Tryd.prog 3 W b cnt (visF vs)
  mb : w0.heap.size ≤ b
  box : W.heap[bx]? = some (.cells #[.slice A ns.length c, .int .i64 root] 24 (0, 0))
  below : Below w0.heap.size w0 W
set_option maxRecDepth 100000 in
set_option maxHeartbeats 4000000 in
theorem reach_any (A : Option Addr) (c : Nat) (s : Scene) (l : List Int) (v : Value) (w0 w : World) (h : kNode.C w0 A s.nodes.length s.nodes) (hp : Places s.nodes) (hl : ∀ k ∈ l, 0 ≤ k ∧ k < (s.nodes.length : Int))
    (hR : (Kd.int .i64).R 3 w w0.heap.size (fun _ => True) v l) (hB : Below w0.heap.size w0 w) (hM : rows s.nodes + l.length ≤ 1000000) :
    Calls Tryd.prog 72 #[.agg #[.slice A s.nodes.length c, .int .i64 s.root], v] w (ReachPost s.nodes l w0.heap.size w0) := by
  have HR := Aside0.mk h
  have HP := Aside0.mk hp
  have HM := Aside0.mk hM
  have b0 := h.2.1
  have HI := Aside0.mk (show ReachRel s.nodes l A c s.root w0 w.heap.size v l [] (w.heap.size + 1) 0 (rows s.nodes + l.length) ((w.alloc (.cells #[.slice A s.nodes.length c, .int .i64 s.root] 24)).alloc (.map #[] 0)) from
    ⟨ReachInv.start hl, Kd.R_alloc (Kd.R_alloc hR _) _, by rw [visF_nil]; simpa using MapF.made Tryd.prog 3 (w.alloc (.cells #[.slice A s.nodes.length c, .int .i64 s.root] 24)), Nat.le_succ_of_le hB.size, by
      have : (w.alloc (.cells #[.slice A s.nodes.length c, .int .i64 s.root] 24)).heap[w.heap.size]? = some (.cells #[.slice A s.nodes.length c, .int .i64 s.root] 24 (0, 0)) := by simpa using heap_alloc_new w _
      exact (Below.block (below_alloc (Below.refl _ _) _) _ (by simp)).trans this, below_alloc (below_alloc hB _) _⟩)
  have hmm := @run_makeMap Tryd.prog
  clear h hp hl hB hM
  go_enter Tryd.func72, Tryd.ntmps72
  go_wp2
  go_loopg [1] (left s.nodes [] + l.length) (fun g v1 W => ∃ fl vs cnt, g = left s.nodes vs + fl.length ∧ Aside0 (ReachRel s.nodes l A c s.root w0 w.heap.size v1 fl vs (w.heap.size + 1) cnt (rows s.nodes + l.length) W))
  case atStart => exact ⟨_, _, _, rfl, HI⟩
  case round =>
    obtain ⟨fl, vs, cnt, hg, HL⟩ := hrel
    obtain ⟨Af, cf, rfl⟩ := Kd.R_slice HL.out.row
    rcases snoc_cases fl with rfl | ⟨fl, x, rfl⟩
    · have HD := Aside0.mk (ReachInv.done HL.out.inv)
      clear hg
      go_wp2
      go_ret
      exact ⟨_, _, _, rfl, HL.out.map, HL.out.mb, HD.out, HL.out.below⟩
    · have HX := Aside0.mk (HL.out.inv.f x (by simp))
      obtain ⟨x, rfl⟩ : ∃ j : Nat, x = (j : Int) := ⟨x.toNat, by have := HX.out.2.1; omega⟩
      have hx1 : x < s.nodes.length := by have := HX.out.2.2; omega
      have hrd := Kd.R_reads' HL.out.row
      obtain ⟨ad, rfl, hx0⟩ := at_nat hrd.2.2 fl.length (by simp)
      have hcf : fl.length + 1 ≤ cf := by have := hrd.2.1; simpa using this
      have HRow := Aside0.mk (show (Kd.int .i64).R 3 wr w0.heap.size (fun _ => True) (.slice (some ad) fl.length cf) fl from by have := Kd.R_take HL.out.row (m := fl.length) (by simp); simpa using this)
      have hfl : fl.length + 1 ≤ 1000000 := by have h1 := HL.out.inv.m; have h2 := HM.out; rw [List.length_append, List.length_singleton] at h1; omega
      replace hx0 : wr.cell? (ad.add fl.length) = some (.int .i64 x) := by rw [hx0]; simp [rd]
      have e1 : (fl ++ [(x : Int)]).length = fl.length + 1 := by simp
      rw [e1]
      clear hrd e1
      have HK := Aside0.mk (keyI_of (x := (x : Int)) (by omega) (by omega))
      by_cases hv : (x : Int) ∈ vs
      · have HV := Aside0.mk (visF_in hv)
        have HN := Aside0.mk (HL.out.inv.pop hv)
        clear hv
        go_wp2_with (at_lookup; refine wpList_lookup_F _ rfl (.tmp 22) (.tmp 23) 37 rfl 3 4 keyI Tryd.underlying37 (zeroB _) (w.heap.size + 1) cnt (visF vs) rfl HL.out.map (.int .i64 x) (.int .i64 x) rfl HK.out (.bool true) HV.out ?_)
        go_roundg (left s.nodes vs + fl.length)
        case measure => rw [hg]; simp
        case rel => exact ⟨fl, vs, cnt, rfl, ⟨HN.out, HRow.out, HL.out.map, HL.out.mb, HL.out.box, HL.out.below⟩⟩
      · have HV := Aside0.mk (visF_out hv)
        have HN := Aside0.mk (HL.out.inv.visit HP.out hv)
        have HG := Aside0.mk (show left s.nodes ((x : Int) :: vs) + (fl ++ kids s.nodes x).length < gk from by
          have h1 := left_cons hx1 hv
          rw [hg, List.length_append, List.length_append, List.length_singleton, ← h1, wt]
          have : kids s.nodes x = (nd s.nodes x).kids := by unfold kids; rw [Int.toNat_natCast]
          rw [this]
          omega)
        clear hv hg
        obtain ⟨adn, A1, c1, A2, c2, A3, c3, rfl, x0, x1, x2, x3, hN⟩ := at_node HR.out x hx1
        have HX3 := Aside0.mk x3
        have HNd := Aside0.mk hN
        have HKL := Aside0.mk (show (nd s.nodes x).kids.length ≤ 1000000 from by have := HM.out; have h1 := left_cons (vs := []) hx1 (by simp); rw [left_nil, wt] at h1; omega)
        clear x0 x1 x2 x3 hN
        go_wp2_with (first
          | (at_lookup; refine wpList_lookup_F _ rfl (.tmp 22) (.tmp 23) 37 rfl 3 4 keyI Tryd.underlying37 (zeroB _) (w.heap.size + 1) cnt (visF vs) rfl HL.out.map (.int .i64 x) (.int .i64 x) rfl HK.out (.bool false) HV.out ?_)
          | (at_mapUpdate; refine wpList_update_F _ rfl (.tmp 25) (.tmp 26) _ 37 rfl 3 4 keyI Tryd.underlying37 (w.heap.size + 1) cnt (visF vs) rfl HL.out.map (by have := HL.out.inv.m; have := HM.out; unfold maxLen; omega) (.int .i64 x) (.bool true) (.int .i64 x) rfl rfl HK.out ?_; intro w2 hM2 hg2; have HM2 := Aside0.mk hM2; have HG2 := Aside0.mk hg2; have HBx2 := Aside0.mk (blk_grown HL.out.box hg2 (by simp)); have hc2 := (blk_cell HBx2.out 0).trans rfl; have HB2 := Aside0.mk (below_map HL.out.below HL.out.below.size hg2 HL.out.mb); have hx3 := pw_cell_below HB2.out HX3.out; have HRow2 := Aside0.mk (R_past_map HRow.out HL.out.map hg2); clear hM2 hg2)
          | (at_builtin; refine Kd.R_append_rows (Kd.int .i64) (Rr := fun x cs => cs = [.int .i64 x]) (w0 := w0) w0.heap.size rfl (.tmp 27) (.tmp 33) 27 3 (.int .i64 0) 8 rfl Tryd.underlying27 info_int rfl (by decide) (by omega) (.slice (some ad) fl.length cf) fl (nd s.nodes x).kids A3 _ c3 (fun _ => True) (fun _ => False) rfl rfl HRow2.out (Kd.C_below HNd.out.k HB2.out) (fun _ _ h => h) (fun _ h => h.elim) (fun _ _ => trivial) HB2.out HB2.out.size (by have := HKL.out; omega) ?_; intro v3 w3 hR3 hB3 hg3 _; have HR3 := Aside0.mk hR3; have HB3 := Aside0.mk hB3; have HM3 := Aside0.mk (HM2.out.kept hg3 (HM2.out.ne_row HRow2.out)); have HBx3 := Aside0.mk (blk_grown HBx2.out hg3 (Kd.R_ne HRow2.out HBx2.out (by decide))); clear hR3 hB3 hg3 HRow2))
        go_roundg (left s.nodes ((x : Int) :: vs) + (fl ++ kids s.nodes x).length)
        case measure => exact HG.out
        case rel => exact ⟨_, _, _, rfl, ⟨HN.out, by have e : kids s.nodes x = (nd s.nodes x).kids := (by unfold kids; rw [Int.toNat_natCast]); rw [e]; exact HR3.out, by rw [← visF_put]; exact HM3.out, HL.out.mb, HBx3.out, HB3.out⟩⟩
end Go.Proofs.YtggldnbhmebcpaaDoor.L
end
section
namespace Go.Proofs.YtggldnbhmebcpaaDoor.L
open Go.RowKit Go.ChangeShapes Go.WideShapes Go.Proofs.YtggldnbhmebcpaaDoorW.PrintWords Go.Proofs.YtggldnbhmebcpaaDoorW.PrintLast Go.Proofs.YtggldnbhmebcpaaDoorW.PrintMore
attribute [local go_sem] max2_int min2_int max_two min_two max_three min_three max_four min_four
section
open Go.Maps
variable {P : Program} (w : World) {ops : Array Oper} {rest : List Oper} {o : Oper} {a : Act} {Q : Exit → Act → World → Prop} {k : TypeId}
theorem wpList_insert_F (hg : o.guard = none) (m x v : Operand) (t : TypeId) (hop : o.op = Op.insert t m x v)
    (k e : TypeId) (K : Keyed P k) (ht : P.underlying t = some (.map k e)) (b n : Nat) (f : Lit → Option Value)
    (hm : a.eval m = .map (some b)) (hown : MapF P k w b n f) (hn : n < maxLen) (key val : Value) (kl : Lit) (hx : a.eval x = key) (hv : a.eval v = val) (hkey : keyOf P k key = some kl)
    (hK : ∀ w', MapF P k w' b (n + 1) (putF f kl val) → w.grownBy w' (some b) → wpList P ops Q rest (a.put o.dst undef) w') :
    wpList P ops Q (o :: rest) a w := by
  obtain ⟨D, hown, hf⟩ := hown
  have hm' := hown.isMap
  have hkl : WideAt.IsKeyLit kl := K.key hkey
  refine wpList_plain hg fun K' hK' => ?_
  obtain ⟨w', hrun, r1, r2⟩ := hown.update K ht hn hkey (val := val) (d := .held val) (ps := []) rfl
  unfold Oper.wp
  simp [execOp, hop, hm, hx, hv, hrun, Result.andThen]
  refine hK' _ _ (hK w' ⟨_, r1, fun q => ?_⟩ r2)
  by_cases hq : q = kl
  · subst hq
    rw [Maps.has_put_same hm' hkl, putF_same]
    refine ⟨rfl, fun u z hu => ?_⟩
    cases hu
    exact Maps.atKey_put_same hm' hkl _ _
  · rw [Maps.has_put_other hq, putF_other f val hq]
    refine ⟨(hf q).1, fun u z hu => ?_⟩
    rw [Maps.atKey_put_other hq]
    exact (hf q).2 u z hu
end
end Go.Proofs.YtggldnbhmebcpaaDoor.L
end
section
namespace Go.Proofs.YtggldnbhmebcpaaDoor.L
open Go.RowKit Go.ChangeShapes Go.WideShapes Go.Proofs.YtggldnbhmebcpaaDoorW.PrintWords Go.Proofs.YtggldnbhmebcpaaDoorW.PrintLast Go.Proofs.YtggldnbhmebcpaaDoorW.PrintMore
attribute [local go_sem] max2_int min2_int max_two min_two max_three min_three max_four min_four
def kFr : Kd (Int × Nat) := Kd.iso (Kd.pair (Kd.int .i64) (Kd.int .i64)) (fun x : Int × Nat => (x.1, (x.2 : Int)))
theorem kFr_mk (w : World) (base : Nat) (ok : Nat → Prop) (a : Int) (j : Nat) : kFr.M w base ok (a, j) [.int .i64 a, .int .i64 (j : Int)] := ⟨[_], [_], rfl, rfl, rfl⟩
theorem kFr_open {w : World} {x : Int × Nat} {cs : List Value} (h : kFr.K w x cs) : cs = [.int .i64 x.1, .int .i64 (x.2 : Int)] := by
  obtain ⟨_, _, rfl, h1, h2⟩ := h
  rw [show _ = [_] from h1, show _ = [_] from h2]; rfl
theorem info_fr : (Tryd.prog.info? 114).map (fun i => (i.zero, i.size, i.bytes)) = some (some (.agg #[.int .i64 0, .int .i64 0]), 2, 16) := by kernel_rfl
theorem frame_at {W : World} {base g n c : Nat} {st : List (Int × Nat)} {a : Int} {j : Nat} (h : kFr.R 114 W base (fun _ => True) (.slice (some ⟨g, 0, none⟩) n c) (st ++ [(a, j)])) :
    W.cell? ⟨g, st.length * 2, none⟩ = some (.int .i64 a) ∧ W.cell? ⟨g, st.length * 2 + 1, none⟩ = some (.int .i64 (j : Int)) ∧ W.frozen? ⟨g, st.length * 2 + 1, none⟩ = false ∧
      kFr.R 114 (W.setCell ⟨g, st.length * 2 + 1, none⟩ (.int .i64 ((j + 1 : Nat) : Int))) base (fun _ => True) (.slice (some ⟨g, 0, none⟩) n c) (st ++ [(a, j + 1)]) ∧ W.grownBy (W.setCell ⟨g, st.length * 2 + 1, none⟩ (.int .i64 ((j + 1 : Nat) : Int))) (some g) ∧ base ≤ g := by
  have hn := (Kd.R_reads' h).1
  rw [List.length_append, List.length_singleton] at hn
  obtain ⟨cs, hcl, hM, hcc, hfr⟩ := R_elemN h (0, 0) st.length (by omega)
  have e0 : (st ++ [(a, j)]).getD st.length (0, 0) = (a, j) := by simp [List.getD_eq_getElem?_getD]
  rw [e0] at hM
  obtain rfl := kFr_open (kFr.K_of_M hM)
  have h0 := hcc 0 _ rfl
  have h1 := hcc 1 _ rfl
  have hf := hfr 1
  have hs := R_segN h st.length (by omega) (seg := [.int .i64 ((j + 1 : Nat) : Int)]) (j := 1) hcl hcc (Nat.le_refl 2) (x' := (a, j + 1)) (okp := fun _ => False) (kFr_mk W base _ a (j + 1)) (fun _ h => h.elim)
  have e2 : (st ++ [(a, j)]).set st.length (a, j + 1) = st ++ [(a, j + 1)] := by simp
  rw [e2] at hs
  exact ⟨h0, h1, hf, hs.1, hs.2, Kd.R_base h g (by simp [Value.ownBlock])⟩
structure OrdMem (s : Scene) (A : Option Addr) (c : Nat) (w : World) (b : Nat) (v3 v5 : Value) (out : List Int) (st : List (Int × Nat)) (vs : List Int) (cnt : Nat) (W : World) : Prop where
  orow : (Kd.int .i64).R 3 W w.heap.size (fun _ => True) v3 out
  stk : kFr.R 114 W w.heap.size (fun _ => True) v5 st
  map : MapF Tryd.prog 3 W b cnt (visF vs)
  mb : w.heap.size ≤ b
  box : W.heap[w.heap.size]? = some (.cells #[.slice A s.nodes.length c, .int .i64 s.root] 24 (0, 0))
  below : Below w.heap.size w W
structure OrdRel (s : Scene) (A : Option Addr) (c : Nat) (w : World) (b : Nat) (v3 v5 : Value) (out : List Int) (st : List (Int × Nat)) (vs : List Int) (cnt : Nat) (W : World) : Prop extends OrdMem s A c w b v3 v5 out st vs cnt W where
  inv : CInv s.nodes (ord s) (rows s.nodes) out st vs cnt
theorem OrdRel.drew {s : Scene} {A : Option Addr} {c : Nat} {w : World} {b : Nat} {v3 v5 : Value} {out : List Int} {st : List (Int × Nat)} {vs : List Int} {cnt : Nat} {W : World} (h : OrdRel s A c w b v3 v5 out st vs cnt W) : OrdRel s A c w b v3 v5 out st vs cnt W.drew :=
  ⟨⟨Kd.R_drew h.orow, Kd.R_drew h.stk, h.map.below (pw_below_drewN (Below.refl _ _) 1), h.mb, h.box, pw_below_drewN h.below 1⟩, h.inv⟩
theorem OrdMem.turn {s : Scene} {A : Option Addr} {c : Nat} {w : World} {b g n cs : Nat} {v3 : Value} {out : List Int} {st : List (Int × Nat)} {a : Int} {j : Nat} {vs : List Int} {cnt : Nat} {W : World} (h : OrdMem s A c w b v3 (.slice (some ⟨g, 0, none⟩) n cs) out (st ++ [(a, j)]) vs cnt W) :
    OrdMem s A c w b v3 (.slice (some ⟨g, 0, none⟩) n cs) out (st ++ [(a, j + 1)]) vs cnt (W.setCell ⟨g, st.length * 2 + 1, none⟩ (.int .i64 ((j + 1 : Nat) : Int))) := by
  obtain ⟨_, _, _, h1, h2, h3⟩ := frame_at h.stk
  obtain ⟨cells, hc⟩ := Kd.R_typed h.stk g rfl
  refine ⟨Kd.R_grown1 h.orow rfl h2 (Kd.R_ne h.orow hc (by decide)), h1, h.map.kept h2 (fun e => ?_), h.mb, blk_grown h.box h2 (fun e => ?_), below_set h.below h3⟩
  · injection e with e; subst e; exact h.map.not_cells hc
  · injection e with e; subst e; rw [h.box] at hc; cases hc
theorem OrdRel.start {s : Scene} {A : Option Addr} {c : Nat} {w w2 : World} (hd : Dag s.nodes) (hr : Pl s.nodes s.root) (hM : MapF Tryd.prog 3 w2 (w.heap.size + 1) 1 (putF (fun _ => none) (.int .i64 s.root) (.bool true)))
    (hx : w2.heap[w.heap.size]? = some (.cells #[.slice A s.nodes.length c, .int .i64 s.root] 24 (0, 0))) (hB : Below w.heap.size w w2) :
    OrdRel s A c w (w.heap.size + 1) (.slice none 0 0) (.slice (some ⟨w2.heap.size, 0, none⟩) 1 1) [] [(s.root, 0)] [s.root] 1 (w2.alloc (.cells #[.int .i64 s.root, .int .i64 0] 114)) :=
  ⟨⟨Kd.R_nil _ _ _ _ _, R_lits kFr 114 (fun x => [.int .i64 x.1, .int .i64 (x.2 : Int)]) w2 w.heap.size [(s.root, 0)] (fun x => kFr_mk w2 _ _ x.1 x.2) (fun _ => rfl) hB.size (by simp) rfl,
    by rw [← visF_put, visF_nil]; exact hM.below (below_alloc (Below.refl _ _) _), Nat.le_succ _, (Below.block (below_alloc (Below.refl _ _) _) _ (blk_lt hx)).trans hx, below_alloc hB _⟩, CInv.start hd hr⟩
set_option maxRecDepth 100000 in
set_option maxHeartbeats 4000000 in
theorem canOrder_any (A : Option Addr) (c : Nat) (s : Scene) (w : World) (h : kNode.C w A s.nodes.length s.nodes) (hd : Dag s.nodes) (hr : Pl s.nodes s.root) (hM : rows s.nodes ≤ 1000000) :
    Calls Tryd.prog 58 #[.agg #[.slice A s.nodes.length c, .int .i64 s.root]] w (RowPost (Kd.int .i64) 3 (ord s) w) := by
  have HR := Aside0.mk h
  have HD := Aside0.mk hd
  have HM := Aside0.mk hM
  have HP := Aside0.mk hr
  have HK := Aside0.mk (keyI_of (x := s.root) (by have := hr.1; omega) (by have := hr.2; have := h.2.1; omega))
  have HM0 := Aside0.mk (show MapF Tryd.prog 3 ((w.alloc (.cells #[.slice A s.nodes.length c, .int .i64 s.root] 24)).alloc (.map #[] 0)) (w.heap.size + 1) 0 (fun _ => none) from by simpa using MapF.made Tryd.prog 3 (w.alloc (.cells #[.slice A s.nodes.length c, .int .i64 s.root] 24)))
  have HX := Aside0.mk (show ((w.alloc (.cells #[.slice A s.nodes.length c, .int .i64 s.root] 24)).alloc (.map #[] 0)).heap[w.heap.size]? = some (.cells #[.slice A s.nodes.length c, .int .i64 s.root] 24 (0, 0)) from by
      have : (w.alloc (.cells #[.slice A s.nodes.length c, .int .i64 s.root] 24)).heap[w.heap.size]? = some (.cells #[.slice A s.nodes.length c, .int .i64 s.root] 24 (0, 0)) := by simpa using heap_alloc_new w _
      exact (Below.block (below_alloc (Below.refl _ _) _) _ (by simp)).trans this)
  have HB0 := Aside0.mk (show Below w.heap.size w ((w.alloc (.cells #[.slice A s.nodes.length c, .int .i64 s.root] 24)).alloc (.map #[] 0)) from below_alloc (below_alloc (Below.refl _ _) _) _)
  have hk1 := (blk_cell HX.out 1).trans rfl
  have hmm := @run_makeMap Tryd.prog
  have hnc := h.2.1
  clear h hd hr hM
  go_enter Tryd.func58, Tryd.ntmps58
  go_wp2_with (refine wpList_insert_F _ rfl (.tmp 9) (.tmp 11) _ 37 rfl 3 4 keyI Tryd.underlying37 (w.heap.size + 1) 0 (fun _ => none) rfl HM0.out (by unfold maxLen; omega) (.int .i64 s.root) (.bool true) (.int .i64 s.root) rfl rfl HK.out ?_; intro w2 hM2 hg2; have HG2 := Aside0.mk hg2; have HM2 := Aside0.mk hM2; have HX2 := Aside0.mk (blk_grown HX.out hg2 (by simp)); have hx1 := (blk_cell HX2.out 1).trans rfl; have HB2 := Aside0.mk (below_map HB0.out HB0.out.size hg2 (by omega)); clear hM2 hg2)
  have HI := Aside0.mk (OrdRel.start HD.out HP.out HM2.out HX2.out HB2.out)
  clear hx1 hk1 hmm HM2 HX2 HB2
  go_loopg [3, 5] (left s.nodes [s.root] + stk s.nodes [(s.root, 0)]) (fun g v3 v5 W => ∃ out st vs cnt, g = left s.nodes vs + stk s.nodes st ∧ Aside0 (OrdRel s A c w (w.heap.size + 1) v3 v5 out st vs cnt W))
  case atStart => exact ⟨_, _, _, _, rfl, HI⟩
  case round =>
    clear HI
    obtain ⟨out, st, vs, cnt, hg, HL⟩ := hrel
    obtain ⟨Ao, co, rfl⟩ := Kd.R_slice HL.out.orow
    rcases snoc_cases st with rfl | ⟨st, ⟨a, j⟩, rfl⟩
    · obtain ⟨As, cs, rfl⟩ := Kd.R_slice HL.out.stk
      obtain rfl : out = ord s := HL.out.inv.eq
      clear hg
      go_wp2
      go_ret
      exact ⟨_, _, rfl, HL.out.orow, HL.out.below⟩
    · obtain ⟨g, cs, hv, hbg, hgl, cells, hgc⟩ := Kd.R_form HL.out.stk (by simp)
      have e1 : (st ++ [(a, j)]).length = st.length + 1 := by simp
      rw [e1] at hv
      subst hv
      have HT := Aside0.mk (frame_at HL.out.stk)
      obtain ⟨f0, f1, f2, -⟩ := frame_at HL.out.stk
      have HC := Aside0.mk hgc
      have HAP := Aside0.mk (HL.out.inv.pl (a, j) (by simp))
      obtain ⟨x, rfl⟩ : ∃ q : Nat, a = (q : Int) := ⟨a.toNat, by have := HAP.out.1.1; simp only at this; omega⟩
      have hx1 : x < s.nodes.length := by have := HAP.out.1.2; simp only at this; omega
      have hsl : st.length + 1 ≤ 1000000 := by
        have h1 := HL.out.inv.mo
        have h2 := stk_len s.nodes (st ++ [((x : Int), j)])
        rw [e1] at h2
        have := HM.out
        omega
      have hol : out.length + 1 ≤ 1000000 := by
        have h1 := HL.out.inv.mo
        have h2 := stk_len s.nodes (st ++ [((x : Int), j)])
        rw [e1] at h2
        have := HM.out
        omega
      have hj := HAP.out.2
      simp only [kids_nat] at hj
      obtain ⟨adn, A1, c1, A2, c2, A3, c3, rfl, x0, x1, x2, x3, hN⟩ := at_node HR.out x hx1
      have hklM : (nd s.nodes x).kids.length ≤ 1000000 := by have := HM.out; have h1 := left_cons (ns := s.nodes) (vs := []) hx1 (by simp); rw [left_nil, wt] at h1; omega
      replace x3 := pw_cell_below HL.out.below x3
      have hb0 := (blk_cell HL.out.box 0).trans rfl
      have hcsl : st.length + 1 ≤ cs := by have := (Kd.R_reads' HL.out.stk).2.1; omega
      clear x0 x1 x2 hgc e1
      by_cases hje : j = (nd s.nodes x).kids.length
      · subst hje
        have HN := Aside0.mk (HL.out.inv.pop (by rw [kids_nat]))
        have HS := Aside0.mk (show kFr.R 114 wr w.heap.size (fun _ => True) (.slice (some ⟨g, 0, none⟩) st.length cs) st from by have := Kd.R_take HL.out.stk (m := st.length) (by simp); simpa using this)
        have HG := Aside0.mk (show left s.nodes vs + stk s.nodes st < gk from by rw [hg, stk_snoc]; omega)
        clear hg hN
        go_wp2
        go_region
        clear f0 f1 f2 x3 hb0
        have HL2 := Aside0.mk HL.out.drew
        replace HS := Aside0.mk (Kd.R_drew HS.out)
        replace HC := Aside0.mk (show wr.drew.heap[g]? = _ from HC.out)
        obtain ⟨f0, f1, f2, -⟩ := frame_at HL2.out.stk
        clear HL HT
        generalize wr.drew = W2 at HL2 HS HC f0 f1 f2 ⊢
        go_wp2_with (at_builtin; refine Kd.R_append (Kd.int .i64) (w0 := w) w.heap.size rfl (.tmp 41) (.tmp 46) 27 3 (.int .i64 0) 8 rfl Tryd.underlying27 info_int rfl (by decide) (by omega) (.slice Ao out.length co) out (x : Int) [.int .i64 (x : Int)] (fun _ => True) (fun _ => False) rfl (by go_simp) rfl (fun _ h => h.elim) (fun _ _ => trivial) HL2.out.orow HL2.out.below HL2.out.below.size (by omega) ?_; intro v2 w2 hR2 hB2 hg2 hat2; have HR2 := Aside0.mk hR2; have HB2 := Aside0.mk hB2; have HS2 := Aside0.mk (Kd.R_grown1 HS.out rfl hg2 (Ne.symm (Kd.R_ne HL2.out.orow HC.out (by decide)))); have HM2 := Aside0.mk (HL2.out.map.kept hg2 (HL2.out.map.ne_row HL2.out.orow)); have HX2 := Aside0.mk (blk_grown HL2.out.box hg2 (Kd.R_ne HL2.out.orow HL2.out.box (by decide))); clear hR2 hB2 hg2 hat2)
        go_roundg (left s.nodes vs + stk s.nodes st)
        case measure => exact HG.out
        case rel => exact ⟨_, _, _, _, rfl, ⟨⟨HR2.out, HS2.out, HM2.out, HL2.out.mb, HX2.out, HB2.out⟩, HN.out⟩⟩
      · have hjl : j < (nd s.nodes x).kids.length := by omega
        have HNk := Aside0.mk hN.k
        obtain ⟨adk, rfl, -⟩ := at_nat (Kd.C_below hN.k HL.out.below) j hjl
        have HKD := Aside0.mk (HL.out.inv.kid HD.out (by rw [kids_nat]; exact hjl))
        obtain ⟨k, hk⟩ : ∃ q : Nat, rd (nd s.nodes x).kids (j : Int) = (q : Int) := ⟨(rd (nd s.nodes x).kids (j : Int)).toNat, by have := HKD.out.1.1; rw [kids_nat] at this; omega⟩
        have HKK := Aside0.mk hk
        have hkn : k < s.nodes.length := by have := HKD.out.1.2; rw [kids_nat, hk] at this; omega
        have dj : (j == (nd s.nodes x).kids.length) = false := by simpa using hje
        have HG := Aside0.mk hg
        clear hN hk hg hje
        go_wp2
        go_region
        clear f0 f1 f2 x3 hb0
        have HL2 := Aside0.mk HL.out.drew
        clear HL HT HC
        generalize wr.drew = W2 at HL2 ⊢
        obtain ⟨f0, f1, f2, -⟩ := frame_at HL2.out.stk
        have hxk := at_nat (Kd.C_below HNk.out HL2.out.below) j hjl
        obtain ⟨adk', he, hxk⟩ := hxk
        injection he with he
        subst he
        rw [HKK.out] at hxk
        have HT2 := Aside0.mk HL2.out.toOrdMem.turn
        obtain ⟨g0, g1, g2, -⟩ := frame_at HT2.out.stk
        have HKI := Aside0.mk (keyI_of (x := (k : Int)) (by omega) (by omega))
        by_cases hv : (k : Int) ∈ vs
        · have HV := Aside0.mk (visF_in hv)
          have HN := Aside0.mk (HL2.out.inv.pass HD.out (by rw [kids_nat]; exact hjl) (by rw [kids_nat, HKK.out]; exact hv))
          clear hv
          go_wp2_with (at_lookup; refine wpList_lookup_F _ rfl (.tmp 67) (.tmp 68) 37 rfl 3 4 keyI Tryd.underlying37 (zeroB _) (w.heap.size + 1) cnt (visF vs) rfl HT2.out.map (.int .i64 k) (.int .i64 k) rfl HKI.out (.bool true) HV.out ?_)
          go_roundg (left s.nodes vs + stk s.nodes (st ++ [((x : Int), j + 1)]))
          case measure => rw [HG.out]; exact HN.out.2
          case rel => exact ⟨_, _, _, _, rfl, ⟨HT2.out, HN.out.1⟩⟩
        · have HV := Aside0.mk (visF_out hv)
          have HN := Aside0.mk (HL2.out.inv.push HD.out (by rw [kids_nat]; exact hjl) (by rw [kids_nat, HKK.out]; exact hv))
          have hcM : cnt < maxLen := by have := HL2.out.inv.c; have := HM.out; unfold maxLen; omega
          clear hv
          go_wp2_with (first
            | (at_lookup; refine wpList_lookup_F _ rfl (.tmp 67) (.tmp 68) 37 rfl 3 4 keyI Tryd.underlying37 (zeroB _) (w.heap.size + 1) cnt (visF vs) rfl HT2.out.map (.int .i64 k) (.int .i64 k) rfl HKI.out (.bool false) HV.out ?_)
            | (at_mapUpdate; refine wpList_update_F _ rfl (.tmp 71) (.tmp 72) _ 37 rfl 3 4 keyI Tryd.underlying37 (w.heap.size + 1) cnt (visF vs) rfl HT2.out.map hcM (.int .i64 k) (.bool true) (.int .i64 k) rfl rfl HKI.out ?_; intro w3 hM3 hg3; have HM3 := Aside0.mk hM3; have HB3 := Aside0.mk (below_map HT2.out.below HT2.out.below.size hg3 HT2.out.mb); have HX3 := Aside0.mk (blk_grown HT2.out.box hg3 (by simp)); have HS3 := Aside0.mk (R_past_map HT2.out.stk HT2.out.map hg3); have HO3 := Aside0.mk (R_past_map HT2.out.orow HT2.out.map hg3); clear hM3 hg3)
            | (at_builtin; refine Kd.R_append kFr (w0 := w) w.heap.size rfl (.tmp 73) (.tmp 76) 115 114 (.agg #[.int .i64 0, .int .i64 0]) 16 rfl Tryd.underlying115 info_fr rfl (by decide) (by omega) (.slice (some ⟨g, 0, none⟩) (st.length + 1) cs) (st ++ [((x : Int), j + 1)]) ((k : Int), 0) [.int .i64 (k : Int), .int .i64 0] (fun _ => True) (fun _ => False) rfl (by go_simp) (kFr_mk _ _ _ _ _) (fun _ h => h.elim) (fun _ _ => trivial) HS3.out HB3.out HB3.out.size (by rw [List.length_append, List.length_singleton]; omega) ?_; intro v4 w4 hR4 hB4 hg4 hat4; have HI4 := Aside0.mk (show OrdMem s (some adn) c w (w.heap.size + 1) (.slice Ao out.length co) v4 out (st ++ [((x : Int), j + 1)] ++ [((k : Int), 0)]) ((k : Int) :: vs) (cnt + 1) w4 from ⟨Kd.R_grown1 HO3.out rfl hg4 (by obtain ⟨cells, hc⟩ := Kd.R_typed HS3.out g rfl; exact Kd.R_ne HO3.out hc (by decide)), hR4, by rw [← visF_put]; exact HM3.out.kept hg4 (HM3.out.ne_row HS3.out), HT2.out.mb, blk_grown HX3.out hg4 (Kd.R_ne HS3.out HX3.out (by decide)), hB4⟩); clear hR4 hB4 hg4 hat4))
          go_roundg (left s.nodes ((k : Int) :: vs) + stk s.nodes (st ++ [((x : Int), j + 1)] ++ [((k : Int), 0)]))
          case measure => rw [HG.out]; have := HN.out.2; rw [kids_nat, HKK.out] at this; exact this
          case rel => exact ⟨_, _, _, _, rfl, ⟨HI4.out, by have := HN.out.1; rw [kids_nat, HKK.out] at this; exact this⟩⟩
end Go.Proofs.YtggldnbhmebcpaaDoor.L
end
section
namespace Go.Proofs.YtggldnbhmebcpaaDoor.L
open Go.RowKit Go.ChangeShapes Go.WideShapes Go.Proofs.YtggldnbhmebcpaaDoorW.PrintWords Go.Proofs.YtggldnbhmebcpaaDoorW.PrintLast Go.Proofs.YtggldnbhmebcpaaDoorW.PrintMore
attribute [local go_sem] max2_int min2_int max_two min_two max_three min_three max_four min_four
abbrev kGrid : Kd (List Int) := Kd.slice 3 (Kd.int .i64)
def row (t : List (List Int)) (i : Nat) : List Int := t.getD i []
theorem row_set {t : List (List Int)} {k j : Nat} (hk : k < t.length) (r : List Int) : row (t.set k r) j = if j = k then r else row t j := by
  unfold row
  rw [List.getD_eq_getElem?_getD, List.getD_eq_getElem?_getD, List.getElem?_set]
  by_cases h : j = k
  · subst h; rw [if_pos rfl, if_pos rfl, if_pos hk]; rfl
  · rw [if_neg (fun e => h e.symm), if_neg h]
theorem grid_lend {W : World} {base g n cap eT : Nat} {ok : Nat → Prop} {t : List (List Int)} (h : Kd.S kGrid eT W base ok (.slice (some ⟨g, 0, none⟩) n cap) t) (hfresh : ∀ q, W.heap.size ≤ q → ok q) (k : Nat) (hk : k < n) :
    ∃ vk, W.cell? ⟨g, k, none⟩ = some vk ∧ W.frozen? ⟨g, k, none⟩ = false ∧ base ≤ g ∧ (Kd.int .i64).R 3 W base (fun _ => True) vk (row t k) ∧ (∀ q, vk.ownBlock = some q → ok q ∧ q ≠ g) ∧
      ∀ (w1 : World) (v1 : Value) (r : List Int), W.grownBy w1 vk.ownBlock → (Kd.int .i64).R 3 w1 base (fun _ => True) v1 r → (v1.ownBlock = vk.ownBlock ∨ ∃ b, v1.ownBlock = some b ∧ W.heap.size ≤ b) →
        w1.cell? ⟨g, k, none⟩ = some vk ∧ w1.frozen? ⟨g, k, none⟩ = false ∧ Kd.S kGrid eT (w1.setCell ⟨g, k, none⟩ v1) base ok (.slice (some ⟨g, 0, none⟩) n cap) (t.set k r) ∧ w1.grownBy (w1.setCell ⟨g, k, none⟩ v1) (some g) := by
  obtain ⟨oki, c, hcl, hM, hcc, hfr, hoki, hH⟩ := Kd.S_elem h ([] : List Int) (k : Int) (by omega) (by omega)
  obtain ⟨vk, rfl, hR⟩ := hM
  have hR' : (Kd.int .i64).R 3 W base oki vk (row t k) := by simpa [row] using hR
  have hg : g < W.heap.size ∧ base ≤ g := by
    obtain ⟨g', cap', e, h1, h2, _⟩ := Kd.S_form h (by have := (Kd.S_reads' h).1; omega)
    injection e with e _ _
    injection e with e
    injection e with e
    subst e
    exact ⟨h2, h1⟩
  have hc0 : W.cell? ⟨g, k, none⟩ = some vk := by have := hcc 0 vk rfl; simpa [show (kGrid).sz = 1 from rfl] using this
  have hf0 : W.frozen? ⟨g, k, none⟩ = false := by have := hfr 0; simpa [show (kGrid).sz = 1 from rfl] using this
  refine ⟨vk, hc0, hf0, hg.2, Kd.R_mono hR' (fun _ _ => trivial), fun q hq => hoki q (hR'.1 q hq), fun w1 v1 r hgr hR1 hat => ?_⟩
  have hne : some g ≠ vk.ownBlock := fun he => (hoki g (hR'.1 g he.symm)).2 rfl
  have hhg : w1.heap[g]? = W.heap[g]? := hgr.block g hg.1 hne
  refine ⟨by rw [← hc0]; unfold World.cell?; rw [hhg], by rw [← hf0]; unfold World.frozen?; rw [hhg], ?_⟩
  have hH1 := Kd.H_grown (Kd.H_widen hH) hgr (fun q hq => .inl (hR'.1 q hq))
  have hM1 : kGrid.M w1 base (fun q => oki q ∨ ok q ∧ W.heap.size ≤ q) r [v1] := ⟨v1, rfl, Kd.R_mono (Kd.R_tight rfl hR1) (fun q hq => by
    rcases hat with hat | ⟨b, hb, hle⟩
    · rw [hat] at hq; exact .inl (hR'.1 q hq.symm)
    · rw [hb] at hq; injection hq with hq; exact .inr ⟨hfresh q (by omega), by omega⟩)⟩
  have hs := Kd.S_seg (okg := fun _ => False) (seg := [v1]) (j := 0) (x' := r) (Kd.H_mono hH1 (fun q hq => ⟨hq, fun h => h⟩)) (by omega) (by omega) (Nat.le_refl 1) hM1 (fun q hq => .inl hq) (fun _ h => h.elim)
  have e : w1.setCells g ((k : Int).toNat * (kGrid).sz + 0) [v1] = w1.setCell ⟨g, k, none⟩ v1 := by
    rw [show (kGrid).sz = 1 from rfl, Int.toNat_natCast, Nat.mul_one]; rfl
  rw [e, Int.toNat_natCast] at hs
  exact hs
theorem grid_read {W : World} {base g n cap eT : Nat} {ok : Nat → Prop} {t : List (List Int)} (h : Kd.S kGrid eT W base ok (.slice (some ⟨g, 0, none⟩) n cap) t) (k : Nat) (hk : k < n) :
    ∃ A c, W.cell? ⟨g, k, none⟩ = some (.slice A (row t k).length c) ∧ (Kd.int .i64).C W A (row t k).length (row t k) := by
  obtain ⟨oki, c, hcl, hM, hcc, hfr, hoki, hH⟩ := Kd.S_elem h ([] : List Int) (k : Int) (by omega) (by omega)
  obtain ⟨vk, rfl, hR⟩ := hM
  have hR' : (Kd.int .i64).R 3 W base oki vk (row t k) := by simpa [row] using hR
  obtain ⟨A, c, rfl⟩ := Kd.R_slice hR'
  exact ⟨A, c, by have := hcc 0 _ rfl; simpa [show (kGrid).sz = 1 from rfl] using this, (Kd.R_reads' hR').2.2⟩
theorem R_grown1 {W W1 : World} {base e : Nat} {k : IntKind} {v : Value} {xs : List Int} {r : Option Nat} (h : (Kd.int k).R e W base (fun _ => True) v xs) (hg : W.grownBy W1 r) (hne : ∀ q, v.ownBlock = some q → some q ≠ r) : (Kd.int k).R e W1 base (fun _ => True) v xs :=
  Kd.R_mono (Kd.R_grown (Kd.R_tight rfl h) hg (fun q hq => hne q hq.symm)) (fun _ _ => trivial)
structure OM (w0 : World) (n gt ct go co : Nat) (vo : Value) (t : List (List Int)) (op out : List Int) (W : World) : Prop where
  tab : Kd.S kGrid 27 W w0.heap.size (fun q => q ≠ go ∧ some q ≠ vo.ownBlock) (.slice (some ⟨gt, 0, none⟩) n ct) t
  opn : (Kd.int .i64).R 3 W w0.heap.size (fun _ => True) (.slice (some ⟨go, 0, none⟩) n co) op
  out : (Kd.int .i64).R 3 W w0.heap.size (fun _ => True) vo out
  ne : ∀ q, vo.ownBlock = some q → q ≠ go
  below : Below w0.heap.size w0 W
section
variable {w0 W W1 : World} {n gt ct go co : Nat} {vo v1 : Value} {t : List (List Int)} {op out out1 : List Int}
theorem OM.go_lt (h : OM w0 n gt ct go co vo t op out W) : go < W.heap.size := Kd.R_lt h.opn go rfl
theorem OM.go_ge (h : OM w0 n gt ct go co vo t op out W) : w0.heap.size ≤ go := Kd.R_base h.opn go rfl
theorem OM.fresh (h : OM w0 n gt ct go co vo t op out W) : ∀ q, W.heap.size ≤ q → q ≠ go ∧ some q ≠ vo.ownBlock := fun q hq =>
  ⟨by have := h.go_lt; omega, fun e => by have := Kd.R_lt h.out q e.symm; omega⟩
theorem OM.later (h : OM w0 n gt ct go co vo t op out W) (hb : Below W.heap.size W W1) : OM w0 n gt ct go co vo t op out W1 :=
  ⟨Kd.S_below h.tab hb, Kd.R_below h.opn hb, Kd.R_below h.out hb, h.ne, below_step h.below hb⟩
theorem OM.push (h : OM w0 n gt ct go co vo t op out W) (hR : (Kd.int .i64).R 3 W1 w0.heap.size (fun _ => True) v1 out1) (hB : Below w0.heap.size w0 W1) (hg : W.grownBy W1 vo.ownBlock) (hat : v1.ownBlock = vo.ownBlock ∨ ∃ b, v1.ownBlock = some b ∧ W.heap.size ≤ b) : OM w0 n gt ct go co v1 t op out1 W1 where
  tab := Kd.S_mono (Kd.S_grown (Kd.S_bound h.tab) hg (fun q hq => hq.1.2)) (fun q hq => ⟨hq.1.1, fun e => by
    rcases hat with hat | ⟨b, hb, hle⟩
    · rw [hat] at e; exact hq.1.2 e
    · rw [hb] at e; injection e with e; have := hq.2.2.1; omega⟩)
  opn := R_grown1 h.opn hg (fun q hq e => by
    have : go = q := by simpa [Value.ownBlock] using hq
    subst this
    exact h.ne go e.symm rfl)
  out := hR
  ne := fun q hq => by
    rcases hat with hat | ⟨b, hb, hle⟩
    · rw [hat] at hq; exact h.ne q hq
    · rw [hb] at hq; injection hq with hq; have := h.go_lt; omega
  below := hB
theorem OM.count (h : OM w0 n gt ct go co vo t op out W) (p : Nat) (hp : p < n) (v : Int) : W.cell? ⟨go, p, none⟩ = some (.int .i64 (rd op (p : Int))) ∧ W.frozen? ⟨go, p, none⟩ = false ∧ OM w0 n gt ct go co vo t (op.set p v) out (W.setCell ⟨go, p, none⟩ (.int .i64 v)) := by
  obtain ⟨c1, c2⟩ := ints_cell h.opn p hp
  obtain ⟨s1, s2, _⟩ := ints_store h.opn p hp v
  exact ⟨c1, c2, Kd.S_far (p := ⟨go, p, none⟩) h.tab (fun q hq => hq.1) _, s1, R_grown1 h.out s2 (fun q hq e => by injection e with e; exact h.ne q hq e), h.ne, below_set h.below h.go_ge⟩
theorem OM.lend (h : OM w0 n gt ct go co vo t op out W) (k : Nat) (hk : k < n) :
    ∃ vk, W.cell? ⟨gt, k, none⟩ = some vk ∧ (Kd.int .i64).R 3 W w0.heap.size (fun _ => True) vk (row t k) ∧
      ∀ (W1 : World) (v1 : Value) (r : List Int), W.grownBy W1 vk.ownBlock → (Kd.int .i64).R 3 W1 w0.heap.size (fun _ => True) v1 r → Below w0.heap.size w0 W1 → (v1.ownBlock = vk.ownBlock ∨ ∃ b, v1.ownBlock = some b ∧ W.heap.size ≤ b) →
        W1.cell? ⟨gt, k, none⟩ = some vk ∧ W1.frozen? ⟨gt, k, none⟩ = false ∧ OM w0 n gt ct go co vo (t.set k r) op out (W1.setCell ⟨gt, k, none⟩ v1) := by
  obtain ⟨vk, c1, c2, hb, hR, hok, hback⟩ := grid_lend h.tab h.fresh k hk
  have hgt : gt ≠ go ∧ some gt ≠ vo.ownBlock := (Kd.S_R h.tab).1 gt rfl
  refine ⟨vk, c1, hR, fun W1 v1 r hg hR1 hB hat => ?_⟩
  obtain ⟨d1, d2, hS, hg2⟩ := hback W1 v1 r hg hR1 hat
  refine ⟨d1, d2, hS, R_grown1 (R_grown1 h.opn hg (fun q hq e => ?_)) hg2 (fun q hq e => ?_), R_grown1 (R_grown1 h.out hg (fun q hq e => ?_)) hg2 (fun q hq e => ?_), h.ne, below_set hB hb⟩
  · have : go = q := by simpa [Value.ownBlock] using hq
    subst this
    exact (hok go e.symm).1.1 rfl
  · have : go = q := by simpa [Value.ownBlock] using hq
    subst this
    injection e with e; exact hgt.1 e.symm
  · exact (hok q e.symm).1.2 hq.symm
  · injection e with e; subst e; exact hgt.2 hq.symm
end
end Go.Proofs.YtggldnbhmebcpaaDoor.L
end
section
namespace Go.Proofs.YtggldnbhmebcpaaDoor.L
open Go.RowKit Go.ChangeShapes Go.WideShapes Go.Proofs.YtggldnbhmebcpaaDoorW.PrintWords Go.Proofs.YtggldnbhmebcpaaDoorW.PrintLast Go.Proofs.YtggldnbhmebcpaaDoorW.PrintMore
attribute [local go_sem] max2_int min2_int max_two min_two max_three min_three max_four min_four
theorem rowOf_nat (t : List (List Int)) (k : Nat) : rowOf t (k : Int) = row t k := by unfold rowOf row; rw [Int.toNat_natCast]
def leaves (ns : List Node) (i : Nat) : List Int := ((List.range i).filter (fun p : Nat => decide ((kids ns (p : Int)).length = 0))).map (fun p : Nat => (p : Int))
def pre (ns : List Node) (i : Nat) : Nat := ((List.range i).map (wt ns)).sum
theorem pre_succ (ns : List Node) (i : Nat) : pre ns (i + 1) = pre ns i + wt ns i := by unfold pre; rw [List.range_succ, List.map_append, List.sum_append]; simp
theorem pre_le {ns : List Node} {i : Nat} (h : i ≤ ns.length) : pre ns i ≤ rows ns := by
  have : ∀ d, pre ns i ≤ pre ns (i + d) := fun d => by
    induction d with
    | zero => exact Nat.le_refl _
    | succ d ih => rw [← Nat.add_assoc, pre_succ]; omega
  have := this (ns.length - i)
  rw [show i + (ns.length - i) = ns.length by omega] at this
  exact this
theorem leaves_mem {ns : List Node} {i : Nat} {x : Int} : x ∈ leaves ns i ↔ ∃ p : Nat, x = (p : Int) ∧ p < i ∧ (kids ns (p : Int)).length = 0 := by
  unfold leaves
  simp only [List.mem_map, List.mem_filter, List.mem_range, decide_eq_true_eq]
  exact ⟨fun ⟨p, h, e⟩ => ⟨p, e.symm, h⟩, fun ⟨p, e, h⟩ => ⟨p, h, e.symm⟩⟩
theorem leaves_succ_yes {ns : List Node} {i : Nat} (h : (kids ns (i : Int)).length = 0) : leaves ns (i + 1) = leaves ns i ++ [(i : Int)] := by
  unfold leaves
  rw [List.range_succ, List.filter_append, List.map_append, List.filter_cons, if_pos (decide_eq_true h)]
  rfl
theorem leaves_succ_no {ns : List Node} {i : Nat} (h : ¬ (kids ns (i : Int)).length = 0) : leaves ns (i + 1) = leaves ns i := by
  unfold leaves
  rw [List.range_succ, List.filter_append, List.map_append, List.filter_cons, if_neg (by rw [decide_eq_false h]; simp)]
  simp
theorem leaves_nodup (ns : List Node) (i : Nat) : (leaves ns i).Nodup := by
  unfold leaves
  refine List.Pairwise.map _ ?_ (List.Pairwise.filter _ List.nodup_range)
  intro a b hab h
  exact hab (by omega)
theorem leaves_len (ns : List Node) (i : Nat) : (leaves ns i).length ≤ i := by
  unfold leaves
  rw [List.length_map]
  exact Nat.le_trans (List.length_filter_le _ _) (by simp)
structure PInv (ns : List Node) (t : List (List Int)) (op : List Int) (i j b : Nat) : Prop where
  tl : t.length = ns.length
  ol : op.length = ns.length
  mem : ∀ c : Nat, c < ns.length → ∀ x ∈ row t c, 0 ≤ x ∧ x < (ns.length : Int)
  cnt : ∀ c p : Nat, c < ns.length → p < ns.length → (row t c).count (p : Int) = if p < i then (kids ns p).count (c : Int) else if p = i then ((kids ns i).take j).count (c : Int) else 0
  op : ∀ p : Nat, p < b → p < ns.length → rd op (p : Int) = ((kids ns p).length : Int)
  len : ∀ c : Nat, c < ns.length → (row t c).length ≤ pre ns i + j
theorem row_repl (n k : Nat) : row (List.replicate n []) k = [] := by
  unfold row
  rw [List.getD_eq_getElem?_getD, List.getElem?_replicate]
  split <;> rfl
theorem PInv.start (ns : List Node) : PInv ns (List.replicate ns.length []) (List.replicate ns.length 0) 0 0 0 where
  tl := by simp
  ol := by simp
  mem := fun c _ x hx => by rw [row_repl] at hx; simp at hx
  cnt := fun c p _ _ => by
    rw [row_repl, if_neg (by omega)]
    split <;> rfl
  op := fun p h => by omega
  len := fun c _ => by rw [row_repl]; simp
theorem PInv.count {ns : List Node} {t : List (List Int)} {op : List Int} {i : Nat} (h : PInv ns t op i 0 i) (hi : i < ns.length) : PInv ns t (op.set i ((kids ns i).length : Int)) i 0 (i + 1) where
  tl := h.tl
  ol := by simpa using h.ol
  mem := h.mem
  cnt := h.cnt
  op := fun p hp hpn => by
    rw [rd_set _ _ _ _ (by rw [h.ol]; exact hi)]
    by_cases e : p = i
    · subst e; rw [if_pos rfl]
    · rw [if_neg e]; exact h.op p (by omega) hpn
  len := h.len
theorem PInv.edge {ns : List Node} {t : List (List Int)} {op : List Int} {i j k : Nat} (h : PInv ns t op i j (i + 1)) (hi : i < ns.length) (hj : j < (kids ns i).length) (hk : rd (kids ns i) (j : Int) = (k : Int)) (hkn : k < ns.length) : PInv ns (t.set k (row t k ++ [(i : Int)])) op i (j + 1) (i + 1) where
  tl := by simpa using h.tl
  ol := h.ol
  mem := fun c hc x hx => by
    rw [row_set (by rw [h.tl]; exact hkn)] at hx
    by_cases e : c = k
    · rw [if_pos e] at hx
      rcases List.mem_append.1 hx with hx | hx
      · exact h.mem k hkn x hx
      · rw [List.mem_singleton.1 hx]; omega
    · rw [if_neg e] at hx
      exact h.mem c hc x hx
  cnt := fun c p hc hp => by
    have h0 := h.cnt c p hc hp
    rw [row_set (by rw [h.tl]; exact hkn), take_succ_rd hj, count_snoc, hk]
    by_cases e : c = k
    · subst e
      rw [if_pos rfl, count_snoc, h0, if_pos (show ((c : Int) = (c : Int)) from rfl)]
      by_cases h1 : p < i
      · rw [if_pos h1, if_pos h1, if_neg (by omega)]; rfl
      · rw [if_neg h1, if_neg h1]
        by_cases h2 : p = i
        · rw [if_pos h2, if_pos h2, if_pos (by omega)]
        · rw [if_neg h2, if_neg h2, if_neg (by omega)]
    · rw [if_neg e, h0, if_neg (show ¬ ((k : Int) = (c : Int)) by omega)]
      rfl
  op := h.op
  len := fun c hc => by
    rw [row_set (by rw [h.tl]; exact hkn)]
    have h1 := h.len c hc
    by_cases e : c = k
    · subst e; rw [if_pos rfl, List.length_append, List.length_singleton]; omega
    · rw [if_neg e]; omega
theorem PInv.node {ns : List Node} {t : List (List Int)} {op : List Int} {i : Nat} (h : PInv ns t op i (kids ns i).length (i + 1)) : PInv ns t op (i + 1) 0 (i + 1) where
  tl := h.tl
  ol := h.ol
  mem := h.mem
  cnt := fun c p hc hp => by
    rw [h.cnt c p hc hp, List.take_zero, List.take_length]
    by_cases h1 : p < i
    · rw [if_pos h1, if_pos (by omega)]
    · rw [if_neg h1]
      by_cases h2 : p = i
      · subst h2; rw [if_pos rfl, if_pos (by omega)]
      · rw [if_neg h2, if_neg (by omega)]
        split <;> rfl
  op := h.op
  len := fun c hc => by
    have := h.len c hc
    rw [pre_succ, wt]
    have e : kids ns (i : Int) = (nd ns i).kids := by unfold kids; rw [Int.toNat_natCast]
    rw [e] at this
    omega
theorem PInv.pars {ns : List Node} {t : List (List Int)} {op : List Int} (h : PInv ns t op ns.length 0 ns.length) : ParsOk ns t := by
  refine ⟨h.tl, fun c hc x hx => ?_, fun c p hc hp => ?_⟩
  · rw [rowOf_nat] at hx; exact h.mem c hc x hx
  · rw [rowOf_nat, h.cnt c p hc hp, if_pos hp]
theorem PInv.ends {ns : List Node} {t : List (List Int)} {op : List Int} (h : PInv ns t op ns.length 0 ns.length) : OInv ns t op (leaves ns ns.length) 0 0 := by
  have e0 : done t (leaves ns ns.length) 0 0 = [] := by unfold done; rw [List.take_zero, List.take_zero]; rfl
  refine ⟨leaves_nodup _ _, fun x hx => ?_, h.ol, fun p hp => ?_, fun p hp => ?_, fun m hm k hk => ?_⟩
  · obtain ⟨p, rfl, hp, _⟩ := leaves_mem.1 hx; omega
  · rw [e0, h.op p hp hp]; simp
  · rw [e0]
    refine ⟨fun hm => ?_, fun he => leaves_mem.2 ⟨p, rfl, hp, by simpa using he.symm⟩⟩
    obtain ⟨q, hq, _, h0⟩ := leaves_mem.1 hm
    rw [hq, h0]; rfl
  · obtain ⟨p, hp, _, h0⟩ := leaves_mem.1 (rd_mem hm)
    rw [hp, List.eq_nil_of_length_eq_zero h0] at hk
    simp at hk
end Go.Proofs.YtggldnbhmebcpaaDoor.L
end
section
namespace Go.Proofs.YtggldnbhmebcpaaDoor.L
open Go.RowKit Go.ChangeShapes Go.WideShapes Go.Proofs.YtggldnbhmebcpaaDoorW.PrintWords Go.Proofs.YtggldnbhmebcpaaDoorW.PrintLast Go.Proofs.YtggldnbhmebcpaaDoorW.PrintMore
attribute [local go_sem] max2_int min2_int max_two min_two max_three min_three max_four min_four
def Lives (k b : Nat) (W : World) : Prop := ∃ cs : Array Value, cs.size = k ∧ ∃ t, W.heap[b]? = some (.cells cs t (0, 0))
noncomputable def cellAt (W : World) (b i : Nat) : Value := (W.cell? ⟨b, i, none⟩).getD undef
theorem Lives.at {k b : Nat} {W : World} (h : Lives k b W) (i : Nat) (hi : i < k) : W.cell? ⟨b, i, none⟩ = some (cellAt W b i) ∧ W.frozen? ⟨b, i, none⟩ = false := by
  obtain ⟨cs, hk, t, h⟩ := h
  have hx : W.cell? ⟨b, i, none⟩ = some (cs[i]'(by omega)) := by rw [blk_cell h i, Array.getElem?_eq_getElem]
  exact ⟨by unfold cellAt; rw [hx]; rfl, blk_frozen h i⟩
theorem Lives.set {k b : Nat} {W : World} (h : Lives k b W) (i : Nat) (u : Value) : Lives k b (W.setCell ⟨b, i, none⟩ u) := by
  obtain ⟨cs, hk, t, h⟩ := h
  exact ⟨_, by simpa using hk, t, blk_set h i u⟩
theorem Lives.below {k b : Nat} {W W1 : World} (h : Lives k b W) (hb : Below W.heap.size W W1) : Lives k b W1 := by
  obtain ⟨cs, hk, t, h⟩ := h
  exact ⟨cs, hk, t, (hb.block b (blk_lt h)).trans h⟩
theorem Lives.drew {k b : Nat} {W : World} (h : Lives k b W) : Lives k b W.drew := h
theorem Lives.new (W : World) (cs : Array Value) (t : Nat) : Lives cs.size W.heap.size (W.alloc (.cells cs t)) := ⟨cs, rfl, t, by simpa using heap_alloc_new W _⟩
theorem far_set {W : World} {p : Addr} {v : Value} (h : W.cell? p = some v) (b i : Nat) (hne : b ≠ p.block) (u : Value) : (W.setCell ⟨b, i, none⟩ u).cell? p = some v := (World.cell?_setCell_far W ⟨b, i, none⟩ p u hne).trans h
theorem Lives.set4 {b : Nat} {W : World} (h : Lives 4 b W) (u0 u1 u2 u3 : Value) :
    (((((W.setCell ⟨b, 0, none⟩ u0).setCell ⟨b, 1, none⟩ u1).setCell ⟨b, 2, none⟩ u2).setCell ⟨b, 3, none⟩ u3).cell? ⟨b, 0, none⟩ = some u0 ∧ ((((W.setCell ⟨b, 0, none⟩ u0).setCell ⟨b, 1, none⟩ u1).setCell ⟨b, 2, none⟩ u2).setCell ⟨b, 3, none⟩ u3).cell? ⟨b, 1, none⟩ = some u1) ∧
    ((((W.setCell ⟨b, 0, none⟩ u0).setCell ⟨b, 1, none⟩ u1).setCell ⟨b, 2, none⟩ u2).setCell ⟨b, 3, none⟩ u3).cell? ⟨b, 2, none⟩ = some u2 ∧ ((((W.setCell ⟨b, 0, none⟩ u0).setCell ⟨b, 1, none⟩ u1).setCell ⟨b, 2, none⟩ u2).setCell ⟨b, 3, none⟩ u3).cell? ⟨b, 3, none⟩ = some u3 := by
  obtain ⟨cs, hk, t, h⟩ := h
  have h4 := blk_set (blk_set (blk_set (blk_set h 0 u0) 1 u1) 2 u2) 3 u3
  refine ⟨⟨?_, ?_⟩, ?_, ?_⟩ <;> rw [blk_cell h4] <;> simp [Array.getElem?_setIfInBounds, hk]
structure Stored (b : Nat) (cs : List Value) (W W1 : World) : Prop where
  here : ∃ t, W1.heap[b]? = some (.cells cs.toArray t (0, 0))
  far : ∀ k, k ≠ b → W1.heap[k]? = W.heap[k]?
  os : W1.os = W.os
  tape : W1.tape = W.tape
  output : W1.output = W.output
  size : W1.heap.size = W.heap.size
theorem Stored.lives {b : Nat} {cs : List Value} {W W1 : World} (h : Stored b cs W W1) : Lives cs.length b W1 := by
  obtain ⟨t, h⟩ := h.here
  exact ⟨_, by simp, t, h⟩
theorem Stored.cell {b : Nat} {cs : List Value} {W W1 : World} (h : Stored b cs W W1) (i : Nat) : W1.cell? ⟨b, i, none⟩ = cs[i]? := by
  obtain ⟨t, h⟩ := h.here
  rw [blk_cell h i]
  simp
theorem Stored.other {b : Nat} {cs : List Value} {W W1 : World} (h : Stored b cs W W1) {p : Addr} {v : Value} (hc : W.cell? p = some v) (hp : p.block ≠ b) : W1.cell? p = some v := by
  rw [← hc]
  unfold World.cell?
  rw [h.far _ hp]
theorem Stored.below {b B : Nat} {cs : List Value} {w0 W W1 : World} (h : Stored b cs W W1) (hb : Below B w0 W) (hB : B ≤ b) : Below B w0 W1 :=
  hb.trans ⟨h.os, h.tape, h.output, by rw [h.size]; exact Nat.le_refl _, fun k hk => h.far k (by omega)⟩
theorem Stored.grown {b : Nat} {cs : List Value} {W W1 : World} (h : Stored b cs W W1) : W.grownBy W1 (some b) :=
  ⟨h.os, h.tape, h.output, by rw [h.size]; exact Nat.le_refl _, fun k _ hk => h.far k (fun e => hk (by rw [e]))⟩
theorem R_old_far {α : Type} {d : Kd α} {e B b i : Nat} {w : World} {v : Value} {xs : List α} (h : d.R e w B (fun _ => True) v xs) (hb : b < B) (u : Value) : d.R e (w.setCell ⟨b, i, none⟩ u) B (fun _ => True) v xs :=
  Kd.R_mono (Kd.R_far (p := ⟨b, i, none⟩) (Kd.R_bound h) (fun k hk => by have h1 := hk.2.1; show k ≠ b; omega) u) (fun _ _ => trivial)
theorem R_old4 {α : Type} {d : Kd α} {e B b i0 i1 i2 i3 : Nat} {w : World} {v : Value} {xs : List α} (h : d.R e w B (fun _ => True) v xs) (hb : b < B) (u0 u1 u2 u3 : Value) : d.R e ((((w.setCell ⟨b, i0, none⟩ u0).setCell ⟨b, i1, none⟩ u1).setCell ⟨b, i2, none⟩ u2).setCell ⟨b, i3, none⟩ u3) B (fun _ => True) v xs :=
  R_old_far (R_old_far (R_old_far (R_old_far h hb u0) hb u1) hb u2) hb u3
theorem below_set4 {w W : World} {g i0 i1 i2 i3 : Nat} {u0 u1 u2 u3 : Value} (h : Below w.heap.size w W) (hg : w.heap.size ≤ g) : Below w.heap.size w ((((W.setCell ⟨g, i0, none⟩ u0).setCell ⟨g, i1, none⟩ u1).setCell ⟨g, i2, none⟩ u2).setCell ⟨g, i3, none⟩ u3) :=
  below_set (below_set (below_set (below_set h hg) hg) hg) hg
end Go.Proofs.YtggldnbhmebcpaaDoor.L
end
section
namespace Go.Proofs.YtggldnbhmebcpaaDoor.L
open Go.RowKit Go.ChangeShapes Go.WideShapes Go.Proofs.YtggldnbhmebcpaaDoorW.PrintWords Go.Proofs.YtggldnbhmebcpaaDoorW.PrintLast Go.Proofs.YtggldnbhmebcpaaDoorW.PrintMore
attribute [local go_sem] max2_int min2_int max_two min_two max_three min_three max_four min_four
theorem nodup_len {L : List Int} {n : Nat} (hL : L.Nodup) (h : ∀ x ∈ L, 0 ≤ x ∧ x < (n : Int)) : L.length ≤ n := by
  have h1 := count_le (l := (List.range n).map (fun p : Nat => (p : Int))) hL
  rw [List.length_map, List.length_range] at h1
  have h2 : ∀ M : List Int, (∀ x ∈ M, 0 ≤ x ∧ x < (n : Int)) → M.length ≤ (M.map (fun c => ((List.range n).map (fun p : Nat => (p : Int))).count c)).sum := fun M => by
    induction M with
    | nil => intro _; exact Nat.zero_le _
    | cons a r ih =>
      intro hM
      have ha := hM a (by simp)
      have hc : 0 < ((List.range n).map (fun p : Nat => (p : Int))).count a := List.count_pos_iff.2 (List.mem_map.2 ⟨a.toNat, List.mem_range.2 (by omega), by omega⟩)
      have := ih (fun x hx => hM x (by simp [hx]))
      rw [List.map_cons, List.sum_cons, List.length_cons]
      omega
  exact Nat.le_trans (h2 L h) h1
theorem info_row : (Tryd.prog.info? 27).map (fun i => (i.zero, i.size, i.bytes)) = some (some (.slice none 0 0), 1, 24) := by kernel_rfl
def O1 (ns : List Node) (w : World) (gt ct go co : Nat) (v : Value) (i j b : Nat) (W : World) : Prop := ∃ t op, PInv ns t op i j b ∧ OM w ns.length gt ct go co v t op (leaves ns i) W
structure O2 (ns : List Node) (w : World) (gt ct go co : Nat) (v : Value) (t : List (List Int)) (op out : List Int) (i j : Nat) (W : World) : Prop where
  pars : ParsOk ns t
  len : ∀ c : Nat, c < ns.length → (row t c).length ≤ 1000000
  inv : OInv ns t op out i j
  om : OM w ns.length gt ct go co v t op out W
theorem O1.node {ns : List Node} {w W : World} {gt ct go co : Nat} {v : Value} {i : Nat} (h : O1 ns w gt ct go co v i 0 i W) (hi : i < ns.length) : (∃ x, W.cell? ⟨go, i, none⟩ = some x) ∧ W.frozen? ⟨go, i, none⟩ = false ∧ O1 ns w gt ct go co v i 0 (i + 1) (W.setCell ⟨go, i, none⟩ (.int .i64 ((nd ns i).kids.length : Int))) := by
  obtain ⟨t, op, h1, h2⟩ := h
  obtain ⟨c1, c2, c3⟩ := h2.count i hi ((nd ns i).kids.length : Int)
  exact ⟨⟨_, c1⟩, c2, t, _, by have := h1.count hi; rwa [kids_nat] at this, c3⟩
theorem O1.later {ns : List Node} {w W W1 : World} {gt ct go co : Nat} {v : Value} {i j b : Nat} (h : O1 ns w gt ct go co v i j b W) (hb : Below W.heap.size W W1) : O1 ns w gt ct go co v i j b W1 := by
  obtain ⟨t, op, h1, h2⟩ := h
  exact ⟨t, op, h1, h2.later hb⟩
theorem O1.below {ns : List Node} {w W : World} {gt ct go co : Nat} {v : Value} {i j b : Nat} (h : O1 ns w gt ct go co v i j b W) : Below w.heap.size w W := by
  obtain ⟨t, op, h1, h2⟩ := h
  exact h2.below
theorem O1.lend {ns : List Node} {w W : World} {gt ct go co : Nat} {v : Value} {i j k : Nat} (h : O1 ns w gt ct go co v i j (i + 1) W) (hi : i < ns.length) (hj : j < (nd ns i).kids.length) (hk : rd (nd ns i).kids (j : Int) = (k : Int)) (hkn : k < ns.length) :
    ∃ (A : Option Addr) (c : Nat) (r : List Int), W.cell? ⟨gt, k, none⟩ = some (.slice A r.length c) ∧ r.length ≤ pre ns i + j ∧ (Kd.int .i64).R 3 W w.heap.size (fun _ => True) (.slice A r.length c) r ∧
      ∀ (W1 : World) (v1 : Value), W.grownBy W1 (Value.slice A r.length c).ownBlock → (Kd.int .i64).R 3 W1 w.heap.size (fun _ => True) v1 (r ++ [(i : Int)]) → Below w.heap.size w W1 → (v1.ownBlock = (Value.slice A r.length c).ownBlock ∨ ∃ b, v1.ownBlock = some b ∧ W.heap.size ≤ b) →
        (∃ x, W1.cell? ⟨gt, k, none⟩ = some x) ∧ W1.frozen? ⟨gt, k, none⟩ = false ∧ O1 ns w gt ct go co v i (j + 1) (i + 1) (W1.setCell ⟨gt, k, none⟩ v1) := by
  obtain ⟨t, op, h1, h2⟩ := h
  obtain ⟨vk, hc, hR, hback⟩ := h2.lend k hkn
  obtain ⟨A, c, rfl⟩ := Kd.R_slice hR
  refine ⟨A, c, row t k, hc, h1.len k hkn, hR, fun W1 v1 hg hR1 hB hat => ?_⟩
  obtain ⟨d1, d2, hO⟩ := hback W1 v1 _ hg hR1 hB hat
  exact ⟨⟨_, d1⟩, d2, _, _, h1.edge hi (by rw [kids_nat]; exact hj) (by rw [kids_nat]; exact hk) hkn, hO⟩
theorem O1.rowDone {ns : List Node} {w W : World} {gt ct go co : Nat} {v : Value} {i : Nat} (h : O1 ns w gt ct go co v i (nd ns i).kids.length (i + 1) W) (hi : i < ns.length) : W.cell? ⟨go, i, none⟩ = some (.int .i64 ((nd ns i).kids.length : Int)) ∧
    ∃ t op, PInv ns t op (i + 1) 0 (i + 1) ∧ OM w ns.length gt ct go co v t op (leaves ns i) W := by
  obtain ⟨t, op, h1, h2⟩ := h
  have hc := (h2.count i hi 0).1
  rw [h1.op i (by omega) hi, kids_nat] at hc
  rw [← kids_nat] at h1
  exact ⟨hc, t, op, h1.node, h2⟩
theorem O1.leaf {ns : List Node} {w W : World} {gt ct go co : Nat} {v : Value} {i : Nat} (h : ∃ t op, PInv ns t op (i + 1) 0 (i + 1) ∧ OM w ns.length gt ct go co v t op (leaves ns i) W) (hk : ¬ (nd ns i).kids.length = 0) : O1 ns w gt ct go co v (i + 1) 0 (i + 1) W := by
  obtain ⟨t, op, h1, h2⟩ := h
  exact ⟨t, op, h1, by rw [leaves_succ_no (by rw [kids_nat]; exact hk)]; exact h2⟩
theorem O1.leafPush {ns : List Node} {w W W1 : World} {gt ct go co : Nat} {v v1 : Value} {i : Nat} (h : ∃ t op, PInv ns t op (i + 1) 0 (i + 1) ∧ OM w ns.length gt ct go co v t op (leaves ns i) W) (hk : (nd ns i).kids.length = 0)
    (hR : (Kd.int .i64).R 3 W1 w.heap.size (fun _ => True) v1 (leaves ns i ++ [(i : Int)])) (hB : Below w.heap.size w W1) (hg : W.grownBy W1 v.ownBlock) (hat : v1.ownBlock = v.ownBlock ∨ ∃ b, v1.ownBlock = some b ∧ W.heap.size ≤ b) : O1 ns w gt ct go co v1 (i + 1) 0 (i + 1) W1 := by
  obtain ⟨t, op, h1, h2⟩ := h
  exact ⟨t, op, h1, by rw [leaves_succ_yes (by rw [kids_nat]; exact hk)]; exact h2.push hR hB hg hat⟩
theorem O1.last {ns : List Node} {w W : World} {gt ct go co : Nat} {v : Value} (h : O1 ns w gt ct go co v ns.length 0 ns.length W) (hM : rows ns ≤ 1000000) : ∃ t op, O2 ns w gt ct go co v t op (leaves ns ns.length) 0 0 W := by
  obtain ⟨t, op, h1, h2⟩ := h
  exact ⟨t, op, h1.pars, fun c hc => Nat.le_trans (h1.len c hc) (Nat.le_trans (pre_le (Nat.le_refl _)) hM), h1.ends, h2⟩
section
variable {ns : List Node} {w W W1 : World} {gt ct go co : Nat} {v v1 : Value} {t : List (List Int)} {op out : List Int} {i j : Nat}
theorem O2.row_at (h : O2 ns w gt ct go co v t op out i j W) (c : Nat) (hc : c < ns.length) : ∃ A c', W.cell? ⟨gt, c, none⟩ = some (.slice A (row t c).length c') ∧ (Kd.int .i64).C W A (row t c).length (row t c) := grid_read h.om.tab c hc
theorem O2.gt_ne (h : O2 ns w gt ct go co v t op out i j W) : gt < W.heap.size ∧ gt ≠ go ∧ some gt ≠ v.ownBlock := ⟨Kd.S_lt h.om.tab gt rfl, (Kd.S_R h.om.tab).1 gt rfl⟩
theorem O2.cnt (h : O2 ns w gt ct go co v t op out i j W) {p : Nat} (hi : i < out.length) (hj : j < (rowOf t (rd out (i : Int))).length) (hp : rd (rowOf t (rd out (i : Int))) (j : Int) = (p : Int)) (hpn : p < ns.length) : 1 ≤ rd op (p : Int) ∧ rd op (p : Int) ≤ ((kids ns p).length : Int) := by
  have h1 := h.inv.next_le h.pars hi hj hp hpn
  have h2 := h.inv.op p hpn
  omega
theorem O2.strike (h : O2 ns w gt ct go co v t op out i j W) {p : Nat} (hi : i < out.length) (hj : j < (rowOf t (rd out (i : Int))).length) (hp : rd (rowOf t (rd out (i : Int))) (j : Int) = (p : Int)) (hpn : p < ns.length) (hne : ¬ rd op (p : Int) - 1 = 0) :
    O2 ns w gt ct go co v t (op.set p (rd op (p : Int) - 1)) out i (j + 1) (W.setCell ⟨go, p, none⟩ (.int .i64 (rd op (p : Int) - 1))) :=
  ⟨h.pars, h.len, h.inv.strike h.pars hi hj hp hpn hne, (h.om.count p hpn _).2.2⟩
theorem O2.free (h : O2 ns w gt ct go co v t op out i j W) {p : Nat} (hi : i < out.length) (hj : j < (rowOf t (rd out (i : Int))).length) (hp : rd (rowOf t (rd out (i : Int))) (j : Int) = (p : Int)) (hpn : p < ns.length) (hz : rd op (p : Int) - 1 = 0)
    (hR : (Kd.int .i64).R 3 W1 w.heap.size (fun _ => True) v1 (out ++ [(p : Int)])) (hB : Below w.heap.size w W1) (hg : (W.setCell ⟨go, p, none⟩ (.int .i64 (rd op (p : Int) - 1))).grownBy W1 v.ownBlock) (hat : v1.ownBlock = v.ownBlock ∨ ∃ b, v1.ownBlock = some b ∧ (W.setCell ⟨go, p, none⟩ (.int .i64 (rd op (p : Int) - 1))).heap.size ≤ b) :
    O2 ns w gt ct go co v1 t (op.set p (rd op (p : Int) - 1)) (out ++ [(p : Int)]) i (j + 1) W1 :=
  ⟨h.pars, h.len, h.inv.free h.pars hi hj hp hpn hz, (h.om.count p hpn _).2.2.push hR hB hg hat⟩
end
structure O3 (ns : List Node) (w : World) (gt ct go co : Nat) (Ar : Option Addr) (cr c0 : Nat) (v : Value) (t : List (List Int)) (op out : List Int) (i j : Nat) (W : World) : Prop where
  o : O2 ns w gt ct go co v t op out i j W
  at_ : rd out (i : Int) = (c0 : Int)
  lt : i < out.length
  cell : W.cell? ⟨gt, c0, none⟩ = some (.slice Ar (row t c0).length cr)
section
variable {ns : List Node} {w W W1 : World} {gt ct go co : Nat} {Ar : Option Addr} {cr c0 : Nat} {v v1 : Value} {t : List (List Int)} {op out : List Int} {i j : Nat}
theorem O3.eq (h : O3 ns w gt ct go co Ar cr c0 v t op out i j W) : rowOf t (rd out (i : Int)) = row t c0 := by rw [h.at_, rowOf_nat]
theorem O3.reads (h : O3 ns w gt ct go co Ar cr c0 v t op out i j W) (hc : c0 < ns.length) : (Kd.int .i64).C W Ar (row t c0).length (row t c0) := by
  obtain ⟨A, c', h1, h2⟩ := h.o.row_at c0 hc
  rw [h.cell] at h1
  injection h1 with h1
  injection h1 with h1
  rw [h1]; exact h2
theorem O3.strike (h : O3 ns w gt ct go co Ar cr c0 v t op out i j W) {p : Nat} (hj : j < (row t c0).length) (hp : rd (row t c0) (j : Int) = (p : Int)) (hpn : p < ns.length) (hne : ¬ rd op (p : Int) - 1 = 0) :
    O3 ns w gt ct go co Ar cr c0 v t (op.set p (rd op (p : Int) - 1)) out i (j + 1) (W.setCell ⟨go, p, none⟩ (.int .i64 (rd op (p : Int) - 1))) :=
  ⟨h.o.strike h.lt (by rw [h.eq]; exact hj) (by rw [h.eq]; exact hp) hpn hne, h.at_, h.lt, far_set h.cell _ _ (Ne.symm h.o.gt_ne.2.1) _⟩
theorem O3.free (h : O3 ns w gt ct go co Ar cr c0 v t op out i j W) {p : Nat} (hj : j < (row t c0).length) (hp : rd (row t c0) (j : Int) = (p : Int)) (hpn : p < ns.length) (hz : rd op (p : Int) - 1 = 0)
    (hR : (Kd.int .i64).R 3 W1 w.heap.size (fun _ => True) v1 (out ++ [(p : Int)])) (hB : Below w.heap.size w W1) (hg : (W.setCell ⟨go, p, none⟩ (.int .i64 (rd op (p : Int) - 1))).grownBy W1 v.ownBlock) (hat : v1.ownBlock = v.ownBlock ∨ ∃ b, v1.ownBlock = some b ∧ (W.setCell ⟨go, p, none⟩ (.int .i64 (rd op (p : Int) - 1))).heap.size ≤ b) :
    O3 ns w gt ct go co Ar cr c0 v1 t (op.set p (rd op (p : Int) - 1)) (out ++ [(p : Int)]) i (j + 1) W1 := by
  refine ⟨h.o.free h.lt (by rw [h.eq]; exact hj) (by rw [h.eq]; exact hp) hpn hz hR hB hg hat, ?_, by rw [List.length_append]; have := h.lt; omega, ?_⟩
  · rw [← h.at_]
    unfold rd
    rw [Int.toNat_natCast, List.getD_eq_getElem?_getD, List.getD_eq_getElem?_getD, List.getElem?_append_left h.lt]
  · have h1 := far_set h.cell go p (Ne.symm h.o.gt_ne.2.1) (.int .i64 (rd op (p : Int) - 1))
    rw [← h1]
    unfold World.cell?
    rw [hg.block gt (by have := h.o.gt_ne.1; simpa using this) h.o.gt_ne.2.2]
theorem O3.next (h : O3 ns w gt ct go co Ar cr c0 v t op out i (row t c0).length W) : O2 ns w gt ct go co v t op out (i + 1) 0 W :=
  ⟨h.o.pars, h.o.len, OInv.row (by have := h.o.inv; rwa [← h.eq] at this) h.lt, h.o.om⟩
end
theorem O1.start {ns : List Node} {w w1 w2 : World} {gt ct go co : Nat} (hS : Kd.S kGrid 27 w1 w.heap.size (fun _ => True) (.slice (some ⟨gt, 0, none⟩) ns.length ct) (List.replicate ns.length [])) (hR : (Kd.int .i64).R 3 w2 w.heap.size (fun _ => True) (.slice (some ⟨go, 0, none⟩) ns.length co) (List.replicate ns.length 0))
    (hg : w1.grownBy w2 none) (hgo : w1.heap.size ≤ go) (hB : Below w.heap.size w w2) : O1 ns w gt ct go co (.slice none 0 0) 0 0 0 w2 :=
  ⟨_, _, PInv.start ns, Kd.S_mono (Kd.S_grown (Kd.S_bound hS) hg (fun q _ => by simp)) (fun q hq => ⟨by have := hq.2.2.1; omega, by simp [Value.ownBlock]⟩), hR, Kd.R_nil _ _ _ _ _, fun q hq => by simp [Value.ownBlock] at hq, hB⟩
set_option maxRecDepth 100000 in
set_option maxHeartbeats 8000000 in
theorem order_any (A : Option Addr) (c : Nat) (s : Scene) (w : World) (h : kNode.C w A s.nodes.length s.nodes) (hp : Places s.nodes) (hn : 0 < s.nodes.length) (hM : rows s.nodes ≤ 1000000) :
    Calls Tryd.prog 71 #[.agg #[.slice A s.nodes.length c, .int .i64 s.root]] w fun e w' => ∃ L A c, e = .returned (.slice A (L : List Int).length c) ∧ Topo s.nodes L ∧ (Kd.int .i64).R 3 w' w.heap.size (fun _ => True) (.slice A L.length c) L ∧ Below w.heap.size w w' := by
  have HR := Aside0.mk h
  have HP := Aside0.mk hp
  have HM := Aside0.mk hM
  have hnM : s.nodes.length ≤ 1000000 := by
    have h1 : ∀ i, i ≤ pre s.nodes i := fun i => by
      induction i with
      | zero => exact Nat.zero_le _
      | succ i ih => rw [pre_succ, wt]; omega
    exact Nat.le_trans (h1 _) hM
  have HB := Aside0.mk (Below.refl w.heap.size w)
  clear h hp hM
  have HX := Aside0.mk (show (w.alloc (.cells #[.slice A s.nodes.length c, .int .i64 s.root] 24)).heap[w.heap.size]? = some (.cells #[.slice A s.nodes.length c, .int .i64 s.root] 24 (0, 0)) from by simpa using heap_alloc_new w _)
  go_enter Tryd.func71, Tryd.ntmps71
  go_wp2_with (first
    | (refine Kd.S_make kGrid (w0 := w) w.heap.size 27 rfl (N := 16) rfl 50 _ _ rfl (s.nodes.length : Int) rfl rfl Tryd.underlying50 (.slice none 0 0) 24 info_row rfl (by decide) (by omega) [] (ok := fun _ => True) (okp := fun _ => True) ⟨_, rfl, Kd.R_nil _ _ _ _ _⟩ (fun _ hk => hk) trivial (by omega) (by omega) (below_alloc HB.out _) (below_alloc HB.out _).size ?_; intro v1 w1 ho hb1 hg1 _; rw [Int.toNat_natCast] at ho; obtain ⟨gt, ct, hv1, -, hgt, -⟩ := Kd.S_form ho (by rw [List.length_replicate]; exact hn); rw [List.length_replicate] at hv1; subst hv1; have HO := Aside0.mk ho; have HB1 := Aside0.mk hb1; have HX1 := Aside0.mk (blk_grown HX.out hg1 (by simp)); have hbx : w1.cell? ⟨w.heap.size, 0, none⟩ = some (.slice A s.nodes.length c) := (blk_cell HX1.out 0).trans rfl; clear ho hb1 hg1)
    | (refine Kd.R_make (Kd.int .i64) (w0 := w) w.heap.size 3 rfl (N := 20) rfl 27 _ _ rfl (s.nodes.length : Int) rfl rfl Tryd.underlying27 (.int .i64 0) 8 info_int rfl (by decide) (by omega) 0 (ok := fun _ => True) (okp := fun _ => True) rfl (fun _ hk => hk) trivial (by omega) (by omega) HB1.out HB1.out.size ?_; intro v2 w2 ho2 hb2 hg2 hn2; rw [Int.toNat_natCast] at ho2; obtain ⟨go, co, hv2, -, hgo, -⟩ := Kd.R_form ho2 (by rw [List.length_replicate]; exact hn); rw [List.length_replicate] at hv2; subst hv2; have HI := Aside0.mk (O1.start HO.out ho2 hg2 (by obtain ⟨b, h1, h2⟩ := hn2; simp [Value.ownBlock] at h1; omega) hb2); have hbx2 : w2.cell? ⟨w.heap.size, 0, none⟩ = some (.slice A s.nodes.length c) := (blk_cell (blk_grown HX1.out hg2 (by simp)) 0).trans rfl; clear ho2 hb2 hg2 hn2 hbx))
  clear HO HB1 HX1 hgt hgo hbx2
  go_loopw [5, 24] (fun v5 v24 W => ∃ i : Nat, i ≤ s.nodes.length ∧ v24 = .int .i64 i ∧ Aside0 (O1 s.nodes w gt ct go co v5 i 0 i W)) (fun _ v24 _ => s.nodes.length - (intOf v24).toNat)
  case atStart => exact ⟨0, by omega, rfl, HI⟩
  case round =>
    clear HI
    obtain ⟨i, hi, rfl, HI⟩ := hrel
    by_cases hlt : i < s.nodes.length
    · obtain ⟨adn, A1, c1, A2, c2, A3, c3, rfl, x0, x1, x2, x3, hN⟩ := at_node HR.out i hlt
      replace x0 := pw_cell_below HI.out.below x0
      replace x1 := pw_cell_below HI.out.below x1
      replace x2 := pw_cell_below HI.out.below x2
      replace x3 := pw_cell_below HI.out.below x3
      have HN := Aside0.mk hN.k
      have hlen : (nd s.nodes i).kids.length ≤ 1000000 := by
        have h1 := pre_succ s.nodes i
        have h2 := pre_le (ns := s.nodes) (i := i + 1) (by omega)
        have := HM.out
        rw [wt] at h1
        omega
      obtain ⟨⟨x, hcx⟩, hfx, -⟩ := (HI.out.later (below_alloc (Below.refl _ _) (.cells #[.int .i64 (nd s.nodes i).kind, .slice A1 (nd s.nodes i).ints.length c1, .slice A2 (nd s.nodes i).texts.length c2, .slice A3 (nd s.nodes i).kids.length c3] 46))).node hlt
      have HI1 := Aside0.mk ((HI.out.node hlt).2.2.later (below_alloc (Below.refl _ _) (.cells #[.int .i64 (nd s.nodes i).kind, .slice A1 (nd s.nodes i).ints.length c1, .slice A2 (nd s.nodes i).texts.length c2, .slice A3 (nd s.nodes i).kids.length c3] 46)))
      have hgo : go < wr.heap.size := by obtain ⟨_, _, _, h⟩ := HI.out; exact h.go_lt
      have hbk : ((wr.alloc (.cells #[.int .i64 (nd s.nodes i).kind, .slice A1 (nd s.nodes i).ints.length c1, .slice A2 (nd s.nodes i).texts.length c2, .slice A3 (nd s.nodes i).kids.length c3] 46)).setCell ⟨go, i, none⟩ (.int .i64 ((nd s.nodes i).kids.length : Int))).cell? ⟨wr.heap.size, 3, none⟩ = some (.slice A3 (nd s.nodes i).kids.length c3) := far_set (box_cell _ _ rfl _ _ 3 _ rfl) _ _ (by show go ≠ wr.heap.size; omega) _
      clear hN
      go_wp2
      clear hbk hfx hcx
      generalize (wr.setCell ⟨go, i, none⟩ (.int .i64 ((nd s.nodes i).kids.length : Int))).alloc (.cells #[.int .i64 (nd s.nodes i).kind, .slice A1 (nd s.nodes i).ints.length c1, .slice A2 (nd s.nodes i).texts.length c2, .slice A3 (nd s.nodes i).kids.length c3] 46) = W1 at HI1 ⊢
      go_loopw [38] (fun v38 W => ∃ j : Nat, j ≤ (nd s.nodes i).kids.length ∧ v38 = .int .i64 j ∧ Aside0 (O1 s.nodes w gt ct go co u5 i j (i + 1) W)) (fun v38 _ => (nd s.nodes i).kids.length - (intOf v38).toNat)
      case atStart => exact ⟨0, by omega, rfl, HI1⟩
      case round =>
        clear HI HI1 x0 x1 x2 x3
        obtain ⟨j, hj, rfl, HJ⟩ := hrel
        by_cases hjl : j < (nd s.nodes i).kids.length
        · obtain ⟨adk, rfl, hxk⟩ := at_nat (Kd.C_below HN.out HJ.out.below) j hjl
          have HQ := Aside0.mk (HP.out i hlt _ (rd_mem hjl))
          obtain ⟨k, hk⟩ : ∃ k : Nat, rd (nd s.nodes i).kids (j : Int) = (k : Int) := ⟨(rd (nd s.nodes i).kids (j : Int)).toNat, by have := HQ.out.1; omega⟩
          have hkn : k < s.nodes.length := by have := HQ.out.2; omega
          obtain ⟨Ak, ck, r, hck, hrl, hrR, hback⟩ := HJ.out.lend hlt hjl hk hkn
          have HRow := Aside0.mk hrR
          have HBack := Aside0.mk hback
          have hrl2 : r.length ≤ 1000000 := by
            have h2 := pre_succ s.nodes i
            have h3 := pre_le (ns := s.nodes) (i := i + 1) (by omega)
            have := HM.out
            rw [wt] at h2
            omega
          rw [hk] at hxk
          clear hk hrR hback hrl
          go_wp2_with (at_builtin; refine Kd.R_append (Kd.int .i64) (w0 := w) w.heap.size rfl (.tmp 47) (.tmp 49) 27 3 (.int .i64 0) 8 rfl Tryd.underlying27 info_int rfl (by decide) (by omega) (.slice Ak r.length ck) r (i : Int) [.int .i64 (i : Int)] (fun _ => True) (fun _ => False) rfl (by go_simp) rfl (fun _ h => h.elim) (fun _ _ => trivial) HRow.out HJ.out.below HJ.out.below.size (by omega) ?_; intro v2 w2 hR2 hB2 hg2 hat2; obtain ⟨A2', c2', rfl⟩ := Kd.R_slice hR2; obtain ⟨⟨x2, hx2⟩, hf2, hO2⟩ := HBack.out w2 _ hg2 hR2 hB2 hat2; simp only [List.length_append, List.length_singleton] at hO2; have HO2 := Aside0.mk hO2; clear hR2 hB2 hg2 hat2 hO2)
          go_roundw
          case rel => exact ⟨j + 1, by omega, by go_num, HO2⟩
          case measure => simp [intOf]; omega
        · obtain rfl : j = (nd s.nodes i).kids.length := by omega
          obtain ⟨hz, hO⟩ := HJ.out.rowDone hlt
          have HO := Aside0.mk hO
          clear hO
          by_cases h0 : (nd s.nodes i).kids.length = 0
          · have hz1 : (((nd s.nodes i).kids.length : Int) == 0) = true := by simp [h0]
            have HZ := Aside0.mk h0
            have hRo : (Kd.int .i64).R 3 wr w.heap.size (fun _ => True) u5 (leaves s.nodes i) := by obtain ⟨_, _, _, h⟩ := HO.out; exact h.out
            obtain ⟨Ao, ao, rfl⟩ := Kd.R_slice hRo
            have HRo := Aside0.mk hRo
            have hll := leaves_len s.nodes i
            clear h0 hRo
            go_wp2_with (at_builtin; refine Kd.R_append (Kd.int .i64) (w0 := w) w.heap.size rfl (.tmp 58) (.tmp 60) 27 3 (.int .i64 0) 8 rfl Tryd.underlying27 info_int rfl (by decide) (by omega) (.slice Ao (leaves s.nodes i).length ao) (leaves s.nodes i) (i : Int) [.int .i64 (i : Int)] (fun _ => True) (fun _ => False) rfl (by go_simp) rfl (fun _ h => h.elim) (fun _ _ => trivial) HRo.out HJ.out.below HJ.out.below.size (by omega) ?_; intro v2 w2 hR2 hB2 hg2 hat2; have HO2 := Aside0.mk (O1.leafPush HO.out HZ.out hR2 hB2 hg2 hat2); clear hR2 hB2 hg2 hat2)
            go_roundw
            case rel => exact ⟨i + 1, by omega, by go_num, HO2⟩
            case measure => simp [intOf]; omega
          · have hz1 : (((nd s.nodes i).kids.length : Int) == 0) = false := by simp [h0]
            have HO2 := Aside0.mk (O1.leaf HO.out h0)
            clear h0
            go_wp2
            go_roundw
            case rel => exact ⟨i + 1, by omega, by go_num, HO2⟩
            case measure => simp [intOf]; omega
    · obtain rfl : i = s.nodes.length := by omega
      obtain ⟨t, op, hO⟩ := HI.out.last HM.out
      have HO := Aside0.mk hO
      clear HI hO
      go_wp2
      go_loopw [5, 10] (fun v5 v10 W => ∃ (i : Nat) (op out : List Int), v10 = .int .i64 i ∧ Aside0 (O2 s.nodes w gt ct go co v5 t op out i 0 W)) (fun _ v10 _ => s.nodes.length - (intOf v10).toNat)
      case atStart => exact ⟨0, _, _, rfl, HO⟩
      case round =>
        clear HO
        obtain ⟨i, op, out, rfl, HO⟩ := hrel
        obtain ⟨Ao, ao, rfl⟩ := Kd.R_slice HO.out.om.out
        have hon := nodup_len HO.out.inv.nd HO.out.inv.pl
        by_cases hil : i < out.length
        · have hro := Kd.R_reads' HO.out.om.out
          obtain ⟨ado, rfl, hxo⟩ := at_nat hro.2.2 i hil
          have HQ := Aside0.mk (HO.out.inv.pl _ (rd_mem hil))
          obtain ⟨c0, hc0⟩ : ∃ k : Nat, rd out (i : Int) = (k : Int) := ⟨(rd out (i : Int)).toNat, by have := HQ.out.1; omega⟩
          have hcn : c0 < s.nodes.length := by have := HQ.out.2; omega
          obtain ⟨Ar, cr, hrc, hrC⟩ := HO.out.row_at c0 hcn
          have HO3 := Aside0.mk (O3.mk HO.out hc0 hil hrc)
          have hrl := HO.out.len c0 hcn
          rw [hc0] at hxo
          clear hro hc0 hrC
          go_wp2
          go_loopw [5, 77] (fun v5 v77 W => ∃ (j : Nat) (op out : List Int), v77 = .int .i64 j ∧ j ≤ (row t c0).length ∧ Aside0 (O3 s.nodes w gt ct go co Ar cr c0 v5 t op out i j W)) (fun _ v77 _ => (row t c0).length - (intOf v77).toNat)
          case atStart => exact ⟨0, _, _, rfl, by omega, HO3⟩
          case round =>
            clear HO HO3 hxo hrc hon hil
            obtain ⟨j, op1, out1, rfl, hj, HO⟩ := hrel
            obtain ⟨Ap, ap, rfl⟩ := Kd.R_slice HO.out.o.om.out
            by_cases hjl : j < (row t c0).length
            · obtain ⟨adr, rfl, hxr⟩ := at_nat (HO.out.reads hcn) j hjl
              have HQ := Aside0.mk (HO.out.o.pars.2.1 c0 hcn (rd (row t c0) (j : Int)) (by rw [rowOf_nat]; exact rd_mem hjl))
              obtain ⟨p, hp⟩ : ∃ k : Nat, rd (row t c0) (j : Int) = (k : Int) := ⟨(rd (row t c0) (j : Int)).toNat, by have := HQ.out.1; omega⟩
              have hpn : p < s.nodes.length := by have := HQ.out.2; omega
              have hcnt := HO.out.o.cnt HO.out.lt (by rw [HO.out.eq]; exact hjl) (by rw [HO.out.eq]; exact hp) hpn
              have hkl : (kids s.nodes p).length ≤ 1000000 := by
                have h1 := pre_succ s.nodes p
                have h2 := pre_le (ns := s.nodes) (i := p + 1) (by omega)
                have := HM.out
                rw [wt] at h1
                rw [kids_nat]
                omega
              obtain ⟨k1, k2, -⟩ := HO.out.o.om.count p hpn (rd op1 (p : Int) - 1)
              have hon := nodup_len HO.out.o.inv.nd HO.out.o.inv.pl
              have HP2 := Aside0.mk hp
              rw [hp] at hxr
              clear hp
              by_cases hz : rd op1 (p : Int) - 1 = 0
              · have hz1 : (rd op1 (p : Int) - 1 == 0) = true := by simpa using hz
                have HZ := Aside0.mk hz
                have HF := Aside0.mk (HO.out.o.om.count p hpn (rd op1 (p : Int) - 1)).2.2
                have HG := Aside0.mk (fun W1 v1 hR hB hg hat => HO.out.free (W1 := W1) (v1 := v1) hjl HP2.out hpn HZ.out hR hB hg hat)
                clear hz
                go_wp2_with (at_builtin; refine Kd.R_append (Kd.int .i64) (w0 := w) w.heap.size rfl (.tmp 92) (.tmp 94) 27 3 (.int .i64 0) 8 rfl Tryd.underlying27 info_int rfl (by decide) (by omega) (.slice Ap out1.length ap) out1 (p : Int) [.int .i64 (p : Int)] (fun _ => True) (fun _ => False) rfl (by go_simp) rfl (fun _ h => h.elim) (fun _ _ => trivial) HF.out.out HF.out.below HF.out.below.size (by omega) ?_; intro v3 w3 hR3 hB3 hg3 hat3; have HN := Aside0.mk (HG.out _ _ hR3 hB3 hg3 hat3); clear hR3 hB3 hg3 hat3)
                go_roundw
                case rel => exact ⟨j + 1, _, _, by go_num, by omega, HN⟩
                case measure => simp [intOf]; omega
              · have hz1 : (rd op1 (p : Int) - 1 == 0) = false := by simpa using hz
                have HN := Aside0.mk (HO.out.strike hjl HP2.out hpn hz)
                clear hz
                go_wp2
                go_roundw
                case rel => exact ⟨j + 1, _, _, by go_num, by omega, HN⟩
                case measure => simp [intOf]; omega
            · obtain rfl : j = (row t c0).length := by omega
              have HN := Aside0.mk HO.out.next
              have hon := nodup_len HO.out.o.inv.nd HO.out.o.inv.pl
              have hlt := HO.out.lt
              go_wp2
              go_roundw
              case rel => exact ⟨i + 1, _, _, by go_num, HN⟩
              case measure => simp [intOf]; omega
        · have HT := Aside0.mk (OInv.topo HO.out.pars HO.out.inv (by omega))
          go_wp2
          go_ret
          exact ⟨_, _, _, rfl, HT.out, HO.out.om.out, HO.out.om.below⟩
end Go.Proofs.YtggldnbhmebcpaaDoor.L
end
section
namespace Go.Proofs.YtggldnbhmebcpaaDoor.L
open Go.RowKit Go.ChangeShapes Go.WideShapes Go.Proofs.YtggldnbhmebcpaaDoorW.PrintWords Go.Proofs.YtggldnbhmebcpaaDoorW.PrintLast Go.Proofs.YtggldnbhmebcpaaDoorW.PrintMore
attribute [local go_sem] max2_int min2_int max_two min_two max_three min_three max_four min_four
theorem range_in {L : List Int} {n : Nat} (hL : L.Nodup) (h : ∀ x ∈ L, 0 ≤ x ∧ x < (n : Int)) (hl : n ≤ L.length) (p : Nat) (hp : p < n) : (p : Int) ∈ L := by
  apply Classical.byContradiction
  intro hn
  have := nodup_len (n := n) (L := L ++ [(p : Int)]) (List.nodup_append.2 ⟨hL, by simp, fun a ha b hb e => by rw [List.mem_singleton.1 hb] at e; exact hn (e ▸ ha)⟩) (fun x hx => by
    rcases List.mem_append.1 hx with hx | hx
    · exact h x hx
    · rw [List.mem_singleton.1 hx]; omega)
  rw [List.length_append, List.length_singleton] at this
  omega
theorem Topo.whole {ns : List Node} {L : List Int} (h : Topo ns L) (hl : ¬ L.length < ns.length) (p : Nat) (hp : p < ns.length) : ¬ Cyc ns p := h.acyclic (range_in h.nd h.pl (by omega)) p hp
theorem Topo.part {ns : List Node} {L : List Int} (hP : Places ns) (h : Topo ns L) (hl : L.length < ns.length) : ¬ ∀ p : Nat, p < ns.length → ¬ Cyc ns p := fun hc => by
  have h1 := h.cyclic hP hc
  have h2 := count_sum h.nd ((List.range ns.length).map (fun p : Nat => (p : Int)))
  have h3 : (((List.range ns.length).map (fun p : Nat => (p : Int))).filter (fun x => L.contains x)) = (List.range ns.length).map (fun p : Nat => (p : Int)) := List.filter_eq_self.2 (fun x hx => by
    obtain ⟨q, hq, rfl⟩ := List.mem_map.1 hx
    simpa using h1 q (List.mem_range.1 hq))
  rw [h3, List.length_map, List.length_range] at h2
  have h4 : ∀ M : List Int, (M.map (fun c => ((List.range ns.length).map (fun p : Nat => (p : Int))).count c)).sum ≤ M.length := fun M => by
    induction M with
    | nil => exact Nat.le_refl _
    | cons a r ih =>
      have hnd : ((List.range ns.length).map (fun p : Nat => (p : Int))).Nodup := List.Pairwise.map _ (fun a b hab h => hab (by omega)) List.nodup_range
      have := List.nodup_iff_count.1 hnd a
      rw [List.map_cons, List.sum_cons, List.length_cons]
      omega
  have := h4 L
  omega
theorem visF_bool {vs : List Int} {l : List Int} {ns : List Node} (h : ∀ k, k ∈ vs ↔ Rch ns l k) {x : Int} {y : Bool} (hy : y = true ↔ Rch ns l x) : (visF vs (.int .i64 x)).getD (.bool false) = .bool y := by
  cases y
  · exact visF_out (fun hm => by have := hy.2 ((h x).1 hm); cases this)
  · exact visF_in ((h x).2 (hy.1 rfl))
theorem bool_of (p : Prop) : ∃ y : Bool, y = true ↔ p := by
  by_cases h : p
  · exact ⟨true, fun _ => h, fun _ => rfl⟩
  · exact ⟨false, (fun h' => by cases h'), fun h' => absurd h' h⟩
theorem kids_len {ns : List Node} {i : Nat} (hi : i < ns.length) : (nd ns i).kids.length ≤ rows ns := by
  have h1 := pre_succ ns i
  have h2 := pre_le (ns := ns) (i := i + 1) (by omega)
  rw [wt] at h1
  omega
def CheckPost (s : Scene) (w : World) (e : Ending) (w' : World) : Prop := e = .returned (.tuple #[.int .i64 (gcheck s).1, .int .i64 (gcheck s).2]) ∧ Below w.heap.size w w'
theorem gcheck_root {s : Scene} (h : s.root < 0 ∨ (s.nodes.length : Int) ≤ s.root) : gcheck s = (13, -1) := by unfold gcheck; rw [if_pos h]
theorem gcheck_refs {s : Scene} (h0 : ¬ (s.root < 0 ∨ (s.nodes.length : Int) ≤ s.root)) (h : 0 ≤ refsAt s.nodes) : gcheck s = (13, refsAt s.nodes) := by unfold gcheck; rw [if_neg h0, if_pos h]
theorem gcheck_cyc {s : Scene} (h0 : ¬ (s.root < 0 ∨ (s.nodes.length : Int) ≤ s.root)) (h : ¬ 0 ≤ refsAt s.nodes) {k : Nat} (hk : k < s.nodes.length) (hn : ∀ j, j < k → ¬ Cyc s.nodes (j : Int)) (hc : Cyc s.nodes (k : Int)) : gcheck s = (14, (k : Int)) := by
  have e : cycAt s.nodes = (k : Int) := by unfold cycAt; rw [firstP_at _ 0 k hk (fun j hj => by simpa using hn j hj) (by simpa using hc)]; simp
  unfold gcheck
  rw [if_neg h0, if_neg h, e, if_pos (by omega)]
theorem gcheck_loose {s : Scene} (h0 : ¬ (s.root < 0 ∨ (s.nodes.length : Int) ≤ s.root)) (h : ¬ 0 ≤ refsAt s.nodes) (hc : ∀ j : Nat, j < s.nodes.length → ¬ Cyc s.nodes (j : Int)) {k : Nat} (hk : k < s.nodes.length) (hn : ∀ j : Nat, j < k → Rch s.nodes [s.root] (j : Int)) (hl : ¬ Rch s.nodes [s.root] (k : Int)) : gcheck s = (15, (k : Int)) := by
  have e1 : cycAt s.nodes = -1 := by unfold cycAt; exact firstP_no _ _ (fun j hj => by simpa using hc j hj)
  have e : looseAt s = (k : Int) := by unfold looseAt; rw [firstP_at _ 0 k hk (fun j hj => by simpa using hn j hj) (by simpa using hl)]; simp
  unfold gcheck
  rw [if_neg h0, if_neg h, e1, if_neg (by omega), e, if_pos (by omega)]
theorem gcheck_ok {s : Scene} (h0 : ¬ (s.root < 0 ∨ (s.nodes.length : Int) ≤ s.root)) (h : ¬ 0 ≤ refsAt s.nodes) (hc : ∀ j : Nat, j < s.nodes.length → ¬ Cyc s.nodes (j : Int)) (hn : ∀ j : Nat, j < s.nodes.length → Rch s.nodes [s.root] (j : Int)) : gcheck s = (0, 0) :=
  gcheck_zero ⟨by omega, by omega, Places.of_refs ((refsAt_lt _).resolve_right h), hc, hn⟩
theorem ret_two {a b c d : Int} (h : (a, b) = (c, d)) : Ending.returned (.tuple #[.int .i64 a, .int .i64 b]) = .returned (.tuple #[.int .i64 c, .int .i64 d]) := by rw [(Prod.mk.inj h).1, (Prod.mk.inj h).2]
set_option maxRecDepth 100000 in
set_option maxHeartbeats 8000000 in
theorem gcheck_any (A : Option Addr) (c : Nat) (s : Scene) (w : World) (h : kNode.C w A s.nodes.length s.nodes) (hM : rows s.nodes ≤ 400000) :
    Calls Tryd.prog 57 #[.agg #[.slice A s.nodes.length c, .int .i64 s.root]] w (CheckPost s w) := by
  have HR := Aside0.mk h
  have HM := Aside0.mk hM
  have b0 := h.2.1
  have HB := Aside0.mk (below_alloc (Below.refl w.heap.size w) (.cells #[.slice A s.nodes.length c, .int .i64 s.root] 24))
  have HC0 := Aside0.mk (And.intro (box_cell w _ rfl #[.slice A s.nodes.length c, .int .i64 s.root] 24 0 _ rfl) (box_cell w _ rfl #[.slice A s.nodes.length c, .int .i64 s.root] 24 1 _ rfl))
  have hu := Tryd.underlying24
  clear h hM
  by_cases hr1 : s.root < 0
  · have HE := Aside0.mk (gcheck_root (.inl hr1))
    have d1 : decide (s.root < 0) = true := decide_eq_true hr1
    clear hr1
    go_enter Tryd.func57, Tryd.ntmps57
    go_wp2
    go_ret2
    exact ⟨ret_two HE.out.symm, by repeat (first | with_reducible exact HB.out | with_reducible apply below_alloc | with_reducible apply pw_below_drewN | with_reducible apply below_drew1 | (with_reducible refine below_set ?_ (by first | omega | (simp; omega))))⟩
  have d1 : decide (s.root < 0) = false := decide_eq_false hr1
  by_cases hr2 : (s.nodes.length : Int) ≤ s.root
  · have HE := Aside0.mk (gcheck_root (.inr hr2))
    have d2 : decide ((s.nodes.length : Int) ≤ s.root) = true := decide_eq_true hr2
    clear hr1 hr2
    go_enter Tryd.func57, Tryd.ntmps57
    go_wp2
    go_ret2
    exact ⟨ret_two HE.out.symm, by repeat (first | with_reducible exact HB.out | with_reducible apply below_alloc | with_reducible apply pw_below_drewN | with_reducible apply below_drew1 | (with_reducible refine below_set ?_ (by first | omega | (simp; omega))))⟩
  have d2 : decide ((s.nodes.length : Int) ≤ s.root) = false := decide_eq_false hr2
  have H0 : Aside0 (¬ (s.root < 0 ∨ (s.nodes.length : Int) ≤ s.root)) := ⟨fun h => by omega⟩
  have hn0 : 0 < s.nodes.length := by omega
  clear hr1 hr2
  go_enter Tryd.func57, Tryd.ntmps57
  go_wp2_with fail
  refine (refs_any A c s _ (Kd.C_below HR.out HB.out)).mono ?_
  rintro e w1 ⟨rfl, hB1⟩
  have HB1 := Aside0.mk (below_step HB.out hB1)
  have HC1 := Aside0.mk (And.intro (pw_cell_below hB1 HC0.out.1) (pw_cell_below hB1 HC0.out.2))
  clear hB1
  by_cases hf : 0 ≤ refsAt s.nodes
  · have HE := Aside0.mk (gcheck_refs H0.out hf)
    have d3 : decide (0 ≤ refsAt s.nodes) = true := decide_eq_true hf
    clear hf
    go_wp2
    go_ret2
    exact ⟨ret_two HE.out.symm, HB1.out⟩
  have d3 : decide (0 ≤ refsAt s.nodes) = false := decide_eq_false hf
  have HF := Aside0.mk hf
  have HP := Aside0.mk (Places.of_refs ((refsAt_lt s.nodes).resolve_right hf))
  clear hf
  have k0 := HC1.out.1
  have k1 := HC1.out.2
  go_wp2
  go_region_held3 (fun W => W.cell? ⟨w.heap.size, 0, none⟩ = some (.slice A s.nodes.length c) ∧ W.cell? ⟨w.heap.size, 1, none⟩ = some (.int .i64 s.root))
    (first
      | (go_split_ands
         refine ⟨?_, ?_⟩
         all_goals first
           | with_reducible exact pw_cell_below hB2 (by assumption)
           | with_reducible assumption
           | (simp [*]; done)))
    (first | (go_at_call 71; refine (order_any A c s _ (Kd.C_below HR.out (below_drew1 HB1.out)) HP.out hn0 (by have := HM.out; omega)).mono ?_; rintro e w2 ⟨L, AL, cL, rfl, hT, hR2, hB2⟩; have HT := Aside0.mk hT; have HB2 := Aside0.mk (below_step (below_drew1 HB1.out) hB2); clear hT hR2))
  have HC2 := Aside0.mk (And.intro (pw_cell_below hB2 (show (w1.drew).cell? _ = _ from k0)) (pw_cell_below hB2 (show (w1.drew).cell? _ = _ from k1)))
  clear hB2 k0 k1
  by_cases hl : L.length < s.nodes.length
  · have dl : decide (L.length < s.nodes.length) = true := decide_eq_true hl
    rw [dl]
    have HX := Aside0.mk (HT.out.part HP.out hl)
    clear hl dl
    have k0 := HC2.out.1
    go_wp2
    clear k0
    go_loopw [5, 35] (fun _ v35 W => ∃ i : Nat, i ≤ s.nodes.length ∧ v35 = .int .i64 i ∧ Aside0 (∀ j, j < i → ¬ Cyc s.nodes (j : Int)) ∧ Aside0 (Below w2.heap.size w2 W)) (fun _ v35 _ => s.nodes.length - (intOf v35).toNat)
    case atStart => exact ⟨0, by omega, rfl, ⟨fun j hj => by omega⟩, ⟨Below.refl _ _⟩⟩
    case round =>
      obtain ⟨i, hi, rfl, HN, HBi⟩ := hrel
      by_cases hlt : i < s.nodes.length
      · have HBw := Aside0.mk (below_step HB2.out HBi.out)
        have k0 := pw_cell_below HBi.out HC2.out.1
        have k1 := pw_cell_below HBi.out HC2.out.2
        obtain ⟨adn, A1, c1, A2, c2, A3, c3, rfl, x0, x1, x2, x3, hNd⟩ := at_node HR.out i hlt
        replace x0 := pw_cell_below HBw.out x0
        replace x1 := pw_cell_below HBw.out x1
        replace x2 := pw_cell_below HBw.out x2
        replace x3 := pw_cell_below HBw.out x3
        have HNk := Aside0.mk hNd.k
        have hb0 := below_alloc (Below.refl wr.heap.size wr) (.cells #[.int .i64 (nd s.nodes i).kind, .slice A1 (nd s.nodes i).ints.length c1, .slice A2 (nd s.nodes i).texts.length c2, .slice A3 (nd s.nodes i).kids.length c3] 46)
        replace k0 := pw_cell_below hb0 k0
        replace k1 := pw_cell_below hb0 k1
        have k3 : (wr.alloc (.cells #[.int .i64 (nd s.nodes i).kind, .slice A1 (nd s.nodes i).ints.length c1, .slice A2 (nd s.nodes i).texts.length c2, .slice A3 (nd s.nodes i).kids.length c3] 46)).cell? ⟨wr.heap.size, 3, none⟩ = some (.slice A3 (nd s.nodes i).kids.length c3) := box_cell _ _ rfl _ _ 3 _ rfl
        have HBa := Aside0.mk (below_drew1 (below_alloc HBw.out (.cells #[.int .i64 (nd s.nodes i).kind, .slice A1 (nd s.nodes i).ints.length c1, .slice A2 (nd s.nodes i).texts.length c2, .slice A3 (nd s.nodes i).kids.length c3] 46)))
        have HBa2 := Aside0.mk (below_drew1 (below_alloc HBi.out (.cells #[.int .i64 (nd s.nodes i).kind, .slice A1 (nd s.nodes i).ints.length c1, .slice A2 (nd s.nodes i).texts.length c2, .slice A3 (nd s.nodes i).kids.length c3] 46)))
        have HKL := Aside0.mk (kids_len hlt)
        have HKI := Aside0.mk (keyI_of (x := (i : Int)) (by omega) (by omega))
        obtain ⟨y, hy⟩ := bool_of (Cyc s.nodes (i : Int))
        have HY := Aside0.mk hy
        have HYk := Aside0.mk (show y = true ↔ Rch s.nodes (nd s.nodes i).kids (i : Int) from by rw [hy, Cyc, kids_nat])
        clear hNd hb0 hy
        go_wp2
        clear x0 x1 x2 x3
        go_region_held3 (fun W => W.cell? ⟨w.heap.size, 0, none⟩ = some (.slice (some adn) s.nodes.length c) ∧ W.cell? ⟨w.heap.size, 1, none⟩ = some (.int .i64 s.root) ∧ W.cell? ⟨wr.heap.size, 3, none⟩ = some (.slice A3 (nd s.nodes i).kids.length c3))
          (first
            | (go_split_ands
               refine ⟨?_, ?_, ?_⟩
               all_goals first
                 | with_reducible assumption
                 | exact pw_cell_below hB4 (show (World.drew _).cell? _ = _ from k0)
                 | exact pw_cell_below hB4 (show (World.drew _).cell? _ = _ from k1)
                 | exact pw_cell_below hB4 (show (World.drew _).cell? _ = _ from k3)
                 | exact pw_cell_below hB3 (show (World.drew _).cell? _ = _ from k0)
                 | exact pw_cell_below hB3 (show (World.drew _).cell? _ = _ from k1)
                 | exact pw_cell_below hB3 (show (World.drew _).cell? _ = _ from k3)
                 | (simp [*]; done)))
          (first
            | (go_at_call 62; refine (clone_int A3 c3 (nd s.nodes i).kids _ (Kd.C_below HNk.out HBa.out) (by have := HKL.out; have := HM.out; omega)).mono ?_; rintro e w3 ⟨A4, c4, rfl, hR3, hB3⟩)
            | (go_at_call 72; refine (reach_any (some adn) c s (nd s.nodes i).kids _ _ _ (Kd.C_below HR.out HBa.out) HP.out (HP.out i hlt) hR3 hB3 (by have := HKL.out; have := HM.out; omega)).mono ?_; rintro e w4 ⟨b, vs, n, rfl, hMF, hbb, hvs, hB4⟩; have hlk := MapF.run_lookup _ 37 hMF keyI Tryd.underlying37 (zeroB _) HKI.out; rw [visF_bool hvs HYk.out] at hlk; clear hMF hbb hvs))
        have HB4 := Aside0.mk (below_step HBa2.out hB4)
        clear hB4 hB3 hR3 k0 k1 k3 hlk
        cases y
        · have HNi := Aside0.mk (ext_lt HN.out (show ¬ Cyc s.nodes (i : Int) from fun h => by have := HY.out.2 h; cases this))
          go_wp2
          go_roundw
          case rel => exact ⟨i + 1, by omega, by go_num, HNi, HB4⟩
          case measure => simp [intOf]; omega
        · have HE := Aside0.mk (gcheck_cyc H0.out (by have := HF.out; omega) hlt HN.out (HY.out.1 rfl))
          go_wp2
          go_ret2
          exact ⟨ret_two HE.out.symm, below_step HB2.out HB4.out⟩
      · exact absurd (fun p hp => HN.out p (by omega)) HX.out
  · have dl : decide (L.length < s.nodes.length) = false := decide_eq_false hl
    rw [dl]
    have HX := Aside0.mk (HT.out.whole hl)
    clear hl dl
    have k0 := HC2.out.1
    have k1 := HC2.out.2
    have hrt := H0.out
    go_wp2_with fail
    refine (reach_any A c s [s.root] (.slice (some ⟨w2.heap.size, 0, none⟩) 1 1) w2 _ (Kd.C_below HR.out HB2.out) HP.out (fun k hk => by rw [List.mem_singleton.1 hk]; have := H0.out; omega) (R_lits (Kd.int .i64) 3 (fun x => [.int .i64 x]) w2 w2.heap.size [s.root] (fun _ => rfl) (fun _ => rfl) (Nat.le_refl _) (by simp) rfl) (below_alloc (Below.refl _ _) _) (by have := HM.out; simp; omega)).mono ?_
    rintro e w3 ⟨b, vs, n, rfl, hMF, hbb, hvs, hB3⟩
    have HMF := Aside0.mk hMF
    have HVS := Aside0.mk hvs
    have HB3 := Aside0.mk (below_step HB2.out hB3)
    replace k0 := pw_cell_below hB3 k0
    clear hMF hbb hvs hB3 k1 hrt
    go_wp2
    clear k0
    go_loopw [8, 57] (fun _ v57 W => ∃ i : Nat, i ≤ s.nodes.length ∧ v57 = .int .i64 i ∧ W = w3 ∧ Aside0 (∀ j : Nat, j < i → Rch s.nodes [s.root] (j : Int))) (fun _ v57 _ => s.nodes.length - (intOf v57).toNat)
    case atStart => exact ⟨0, by omega, rfl, rfl, ⟨fun j hj => by omega⟩⟩
    case round =>
      obtain ⟨i, hi, rfl, rfl, HN⟩ := hrel
      by_cases hlt : i < s.nodes.length
      · have HKI := Aside0.mk (keyI_of (x := (i : Int)) (by omega) (by omega))
        obtain ⟨y, hy⟩ := bool_of (Rch s.nodes [s.root] (i : Int))
        have HY := Aside0.mk hy
        clear hy
        cases y
        · have HE := Aside0.mk (gcheck_loose H0.out (by have := HF.out; omega) HX.out hlt HN.out (fun h => by have := HY.out.2 h; cases this))
          go_wp2_with (at_lookup; refine wpList_lookup_F _ rfl (.tmp 60) (.tmp 61) 37 rfl 3 4 keyI Tryd.underlying37 (zeroB _) b n (visF vs) rfl HMF.out (.int .i64 i) (.int .i64 i) rfl HKI.out (.bool false) (visF_bool HVS.out HY.out) ?_)
          go_ret2
          exact ⟨ret_two HE.out.symm, HB3.out⟩
        · have HNi := Aside0.mk (ext_lt HN.out (HY.out.1 rfl))
          go_wp2_with (at_lookup; refine wpList_lookup_F _ rfl (.tmp 60) (.tmp 61) 37 rfl 3 4 keyI Tryd.underlying37 (zeroB _) b n (visF vs) rfl HMF.out (.int .i64 i) (.int .i64 i) rfl HKI.out (.bool true) (visF_bool HVS.out HY.out) ?_)
          go_roundw
          case rel => exact ⟨i + 1, by omega, by go_num, by first | rfl | trivial, HNi⟩
          case measure => simp [intOf]; omega
      · have HE := Aside0.mk (gcheck_ok H0.out (by have := HF.out; omega) HX.out (fun j hj => HN.out j (by omega)))
        go_wp2
        go_ret2
        exact ⟨ret_two HE.out.symm, HB3.out⟩
end Go.Proofs.YtggldnbhmebcpaaDoor.L
end
section
namespace Go.Proofs.YtggldnbhmebcpaaDoor.L
open Go.RowKit Go.ChangeShapes Go.WideShapes Go.Proofs.YtggldnbhmebcpaaDoorW.PrintWords Go.Proofs.YtggldnbhmebcpaaDoorW.PrintLast Go.Proofs.YtggldnbhmebcpaaDoorW.PrintMore
attribute [local go_sem] max2_int min2_int max_two min_two max_three min_three max_four min_four
def idx (s : Scene) (k : Int) : Nat := (ord s).idxOf k
def numsL (s : Scene) : List Int := (List.range s.nodes.length).map (fun p : Nat => (idx s (p : Int) : Int))
noncomputable def nums (s : Scene) : List Int := if (gcheck s).1 = 0 then numsL s else []
theorem numsL_len (s : Scene) : (numsL s).length = s.nodes.length := by simp [numsL]
theorem numsL_rd (s : Scene) (p : Nat) (hp : p < s.nodes.length) : rd (numsL s) (p : Int) = (idx s (p : Int) : Int) := by
  rw [rd_eq (by rw [numsL_len]; exact hp)]
  simp [numsL]
theorem perm_len {L : List Int} {n : Nat} (hL : L.Nodup) (h : ∀ x ∈ L, 0 ≤ x ∧ x < (n : Int)) (ha : ∀ p : Nat, p < n → (p : Int) ∈ L) : L.length = n := by
  refine Nat.le_antisymm (nodup_len hL h) ?_
  have h2 : ∀ (M : List Int) (f : Int → Nat), (∀ x ∈ M, 0 < f x) → M.length ≤ (M.map f).sum := fun M f => by
    induction M with
    | nil => intro _; exact Nat.zero_le _
    | cons a r ih =>
      intro hM
      have ha := hM a (by simp)
      have := ih (fun x hx => hM x (by simp [hx]))
      rw [List.map_cons, List.sum_cons, List.length_cons]
      omega
  have h3 := h2 ((List.range n).map (fun p : Nat => (p : Int))) (fun c => L.count c) (fun x hx => by
    obtain ⟨p, hp, rfl⟩ := List.mem_map.1 hx
    exact List.count_pos_iff.2 (ha p (List.mem_range.1 hp)))
  rw [List.length_map, List.length_range] at h3
  exact Nat.le_trans h3 (count_le (List.Pairwise.map _ (fun a b hab h => hab (by omega)) List.nodup_range))
theorem ord_len {s : Scene} (h : Right s) : (ord s).length = s.nodes.length := perm_len (ord_nodup h) (ord_pl h) (ord_all h)
theorem idx_at {s : Scene} (h : Right s) {m : Nat} (hm : m < s.nodes.length) : idx s (rd (ord s) (m : Int)) = m := by
  have hm' : m < (ord s).length := by rw [ord_len h]; exact hm
  rw [rd_eq hm']
  unfold idx
  exact List.Nodup.idxOf_getElem (ord_nodup h) m hm'
theorem at_idx {s : Scene} (h : Right s) {p : Nat} (hp : p < s.nodes.length) : idx s (p : Int) < s.nodes.length ∧ rd (ord s) (idx s (p : Int) : Int) = (p : Int) := by
  have h1 := List.idxOf_lt_length_of_mem (ord_all h p hp)
  refine ⟨by rw [← ord_len h]; exact h1, ?_⟩
  unfold idx
  rw [rd_eq h1]
  exact List.getElem_idxOf h1
structure NInv (s : Scene) (i : Nat) (out : List Int) : Prop where
  len : out.length = s.nodes.length
  at_ : ∀ m : Nat, m < i → m < s.nodes.length → rd out (rd (ord s) (m : Int)) = (m : Int)
theorem NInv.start (s : Scene) : NInv s 0 (List.replicate s.nodes.length 0) := ⟨by simp, fun m h => by omega⟩
theorem ord_at {s : Scene} (h : Right s) {m : Nat} (hm : m < s.nodes.length) : ∃ q : Nat, rd (ord s) (m : Int) = (q : Int) ∧ q < s.nodes.length := by
  have hm' : m < (ord s).length := by rw [ord_len h]; exact hm
  have hp := ord_pl h _ (rd_mem (l := ord s) hm')
  have h1 := hp.1
  have h2 := hp.2
  exact ⟨(rd (ord s) (m : Int)).toNat, by omega, by omega⟩
theorem NInv.set {s : Scene} {i q : Nat} {out : List Int} (hr : Right s) (h : NInv s i out) (hi : i < s.nodes.length) (hq : rd (ord s) (i : Int) = (q : Int)) (hqn : q < s.nodes.length) : NInv s (i + 1) (out.set q (i : Int)) := by
  refine ⟨by simpa using h.len, fun m hm hmn => ?_⟩
  obtain ⟨r, hrr, hrn⟩ := ord_at hr hmn
  rw [hrr, rd_set _ _ _ _ (by rw [h.len]; exact hqn)]
  by_cases e : m = i
  · subst e
    rw [hq] at hrr
    rw [if_pos (by omega)]
  · have : ¬ r = q := fun e2 => by
      have h1 := idx_at hr hmn
      have h2 := idx_at hr hi
      rw [hrr, e2] at h1
      rw [hq] at h2
      exact e (h1.symm.trans h2)
    rw [if_neg this, ← hrr]
    exact h.at_ m (by omega) hmn
theorem NInv.done {s : Scene} {out : List Int} (hr : Right s) (h : NInv s s.nodes.length out) : out = numsL s := by
  refine List.ext_getElem (by rw [h.len, numsL_len]) (fun p h1 h2 => ?_)
  rw [← rd_eq h1, ← rd_eq h2]
  rw [h.len] at h1
  obtain ⟨hi, he⟩ := at_idx hr h1
  have := h.at_ _ hi hi
  rw [he] at this
  rw [this, numsL_rd s p h1]
theorem len_rows (ns : List Node) : ns.length ≤ rows ns := by
  have h1 : ∀ i, i ≤ pre ns i := fun i => by
    induction i with
    | zero => exact Nat.zero_le _
    | succ i ih => rw [pre_succ, wt]; omega
  exact h1 _
structure NumRel (s : Scene) (w : World) (g c : Nat) (Ao : Option Addr) (co : Nat) (i : Nat) (out : List Int) (W : World) : Prop where
  inv : NInv s i out
  row : (Kd.int .i64).R 3 W w.heap.size (fun _ => True) (.slice (some ⟨g, 0, none⟩) s.nodes.length c) out
  ord : (Kd.int .i64).R 3 W w.heap.size (fun k => k ≠ g) (.slice Ao s.nodes.length co) (ord s)
  below : Below w.heap.size w W
theorem NumRel.set {s : Scene} {w : World} {g c co : Nat} {Ao : Option Addr} {i q : Nat} {out : List Int} {W : World} (hr : Right s) (h : NumRel s w g c Ao co i out W) (hi : i < s.nodes.length) (hq : rd (L.ord s) (i : Int) = (q : Int)) (hqn : q < s.nodes.length) :
    (∃ x, W.cell? ⟨g, q, none⟩ = some x) ∧ W.frozen? ⟨g, q, none⟩ = false ∧ NumRel s w g c Ao co (i + 1) (out.set q (i : Int)) (W.setCell ⟨g, q, none⟩ (.int .i64 (i : Int))) := by
  obtain ⟨c1, c2⟩ := ints_cell h.row q hqn
  obtain ⟨s1, _, s2⟩ := ints_store h.row q hqn (i : Int)
  exact ⟨⟨_, c1⟩, c2, h.inv.set hr hi hq hqn, s1, Kd.R_far (p := ⟨g, q, none⟩) h.ord (fun k hk => hk) _, below_set h.below s2⟩
set_option maxRecDepth 100000 in
set_option maxHeartbeats 4000000 in
theorem numbers_canon (A : Option Addr) (c : Nat) (s : Scene) (w : World) (h : kNode.C w A s.nodes.length s.nodes) (hM : rows s.nodes ≤ 400000) :
    Calls Tryd.prog 44 #[.agg #[.slice A s.nodes.length c, .int .i64 s.root]] w (RowPost (Kd.int .i64) 3 (nums s) w) := by
  have HR := Aside0.mk h
  have HM := Aside0.mk hM
  have b0 := h.2.1
  have HB := Aside0.mk (below_alloc (Below.refl w.heap.size w) (.cells #[.slice A s.nodes.length c, .int .i64 s.root] 24))
  have k0 := box_cell w _ rfl #[.slice A s.nodes.length c, .int .i64 s.root] 24 0 _ rfl
  have k1 := box_cell w _ rfl #[.slice A s.nodes.length c, .int .i64 s.root] 24 1 _ rfl
  have hu := Tryd.underlying24
  clear h hM
  go_enter Tryd.func44, Tryd.ntmps44
  go_wp2_with fail
  refine (gcheck_any A c s _ (Kd.C_below HR.out HB.out) HM.out).mono ?_
  rintro e w1 ⟨rfl, hB1⟩
  have HB1 := Aside0.mk (below_step HB.out hB1)
  replace k0 := pw_cell_below hB1 k0
  replace k1 := pw_cell_below hB1 k1
  clear hB1
  by_cases hz : (gcheck s).1 = 0
  · have HRt := Aside0.mk (gcheck_right.1 hz)
    have HE : Aside0 (nums s = numsL s) := ⟨by unfold nums; rw [if_pos hz]⟩
    have hnM : s.nodes.length ≤ 400000 := Nat.le_trans (len_rows _) HM.out
    have hn0 : 0 < s.nodes.length := by have := HRt.out.r0; have := HRt.out.r1; omega
    rw [hz]
    clear hz
    go_wp2_with (first
      | (refine Kd.R_make (Kd.int .i64) (w0 := w) w.heap.size 3 rfl (N := 18) rfl 27 _ _ rfl (s.nodes.length : Int) rfl rfl Tryd.underlying27 (.int .i64 0) 8 info_int rfl (by decide) (by omega) 0 (ok := fun _ => True) (okp := fun _ => True) rfl (fun _ hk => hk) trivial (by omega) (by omega) HB1.out HB1.out.size ?_; intro v2 w2 ho2 hb2 hg2 hn2; rw [Int.toNat_natCast] at ho2; obtain ⟨go, co, hv2, -, hgo, -⟩ := Kd.R_form ho2 (by rw [List.length_replicate]; exact hn0); rw [List.length_replicate] at hv2; subst hv2; have HO := Aside0.mk ho2; have HB2 := Aside0.mk hb2; have q0 := cell_grown hg2 k0 (by simp); have q1 := cell_grown hg2 k1 (by simp); clear ho2 hb2 hg2 hn2))
    clear k0 k1
    refine (canOrder_any A c s w2 (Kd.C_below HR.out HB2.out) HRt.out.dag ⟨HRt.out.r0, HRt.out.r1⟩ (by have := HM.out; omega)).mono ?_
    rintro e w3 ⟨A3, c3, rfl, hR3, hB3⟩
    have HI := Aside0.mk (show NumRel s w go co A3 c3 0 (List.replicate s.nodes.length 0) w3 from ⟨NInv.start s, Kd.R_below HO.out hB3, by
      have h := Kd.R_lower (Kd.R_mono (Kd.R_bound hR3) (ok' := fun k => k ≠ go) (fun k hk => by have h1 := Kd.R_lt HO.out go rfl; have h2 := hk.2.1; omega)) HB2.out.size
      rwa [ord_len HRt.out] at h, below_step HB2.out hB3⟩)
    rw [ord_len HRt.out]
    clear q0 q1 hR3 hB3 HO
    go_wp2
    go_loopw [22] (fun v22 W => ∃ i : Nat, i ≤ s.nodes.length ∧ v22 = .int .i64 i ∧ ∃ out, Aside0 (NumRel s w go co A3 c3 i out W)) (fun v22 _ => s.nodes.length - (intOf v22).toNat)
    case atStart => exact ⟨0, by omega, rfl, _, HI⟩
    case round =>
      clear HI
      obtain ⟨i, hi, rfl, out, HI⟩ := hrel
      by_cases hlt : i < s.nodes.length
      · obtain ⟨q, hq, hqn⟩ := ord_at HRt.out hlt
        obtain ⟨ad, rfl, hx⟩ := at_nat (Kd.R_reads' HI.out.ord).2.2 i (by rw [ord_len HRt.out]; exact hlt)
        rw [hq] at hx
        obtain ⟨⟨x, hcx⟩, hfx, hn⟩ := HI.out.set HRt.out hlt hq hqn
        have HN := Aside0.mk hn
        clear hq hn
        go_wp2
        go_roundw
        case rel => exact ⟨i + 1, by omega, by go_num, _, HN⟩
        case measure => simp [intOf]; omega
      · obtain rfl : i = s.nodes.length := by omega
        obtain rfl : out = numsL s := HI.out.inv.done HRt.out
        go_wp2
        go_ret
        exact RowPost.mk (v := .slice (some ⟨go, 0, none⟩) s.nodes.length co) (by rw [HE.out]; exact HI.out.row) HI.out.below
  · have HE : Aside0 (nums s = []) := ⟨by unfold nums; rw [if_neg hz]⟩
    have dz : ((gcheck s).1 == 0) = false := by simpa using hz
    clear hz
    go_wp2
    go_ret
    exact RowPost.mk (by rw [HE.out]; exact Kd.R_nil _ _ _ _ _) HB1.out
end Go.Proofs.YtggldnbhmebcpaaDoor.L
end
section
namespace Go.Proofs.YtggldnbhmebcpaaDoor.L
open Go.RowKit Go.ChangeShapes Go.WideShapes Go.Proofs.YtggldnbhmebcpaaDoorW.PrintWords Go.Proofs.YtggldnbhmebcpaaDoorW.PrintLast Go.Proofs.YtggldnbhmebcpaaDoorW.PrintMore
attribute [local go_sem] max2_int min2_int max_two min_two max_three min_three max_four min_four
def cntF (own : List Int) (c : Nat) : Nat → Nat
  | 0 => c
  | i + 1 => if rd own (i : Int) = (cntF own c i : Int) then cntF own c i + 1 else cntF own c i
def Rise (own : List Int) (c n : Nat) : Prop := ∀ i : Nat, i < n → 0 ≤ rd own (i : Int) ∧ rd own (i : Int) ≤ (cntF own c i : Int)
theorem cnt_mono (own : List Int) (c : Nat) : ∀ {i j : Nat}, i ≤ j → cntF own c i ≤ cntF own c j
  | i, 0, h => by obtain rfl : i = 0 := by omega
                  exact Nat.le_refl _
  | i, j + 1, h => by
    by_cases e : i = j + 1
    · subst e; exact Nat.le_refl _
    · have := cnt_mono own c (i := i) (j := j) (by omega)
      show _ ≤ (if rd own (j : Int) = (cntF own c j : Int) then cntF own c j + 1 else cntF own c j)
      split <;> omega
theorem cnt_step {own : List Int} {c i : Nat} (h : rd own (i : Int) ≤ (cntF own c i : Int)) : rd own (i : Int) < (cntF own c (i + 1) : Int) := by
  show _ < ((if rd own (i : Int) = (cntF own c i : Int) then cntF own c i + 1 else cntF own c i : Nat) : Int)
  split <;> omega
theorem Rise.lt {own : List Int} {c n : Nat} (h : Rise own c n) {i m : Nat} (hi : i < m) (hm : m ≤ n) : rd own (i : Int) < (cntF own c m : Int) := by
  have h1 := cnt_step (h i (by omega)).2
  have h2 := cnt_mono own c (i := i + 1) (j := m) (by omega)
  omega
theorem cnt_app {own t : List Int} {c : Nat} : ∀ {i : Nat}, i ≤ own.length → cntF (own ++ t) c i = cntF own c i
  | 0, _ => rfl
  | i + 1, h => by
    show (if rd (own ++ t) (i : Int) = (cntF (own ++ t) c i : Int) then cntF (own ++ t) c i + 1 else cntF (own ++ t) c i) = (if _ then _ else _)
    rw [cnt_app (by omega), rd_app (by omega) (by omega)]
theorem own_snoc (T : Lib.PrintTabs) (vs : List (List UInt8)) (l : List Node) (x : Node) : ownS T vs (l ++ [x]) = numStep T (ownS T vs l) x := by
  show (l ++ [x]).foldl (numStep T) (vs, []) = _
  rw [List.foldl_append]; rfl
theorem own_len (T : Lib.PrintTabs) (vs : List (List UInt8)) : ∀ (n : Nat) (ns : List Node), ns.length = n → (ownS T vs ns).2.length = n
  | n, ns, hn => by
    rcases snoc_cases ns with rfl | ⟨l, x, rfl⟩
    · exact hn
    · rw [own_snoc]
      match n, hn with
      | 0, hn => simp at hn
      | n + 1, hn =>
        have := own_len T vs n l (by simp at hn; exact hn)
        show ((ownS T vs l).2 ++ [_]).length = n + 1
        rw [List.length_append, this]; rfl
theorem own_riseN (T : Lib.PrintTabs) (vs : List (List UInt8)) : ∀ (n : Nat) {ns : List Node}, ns.length = n → Rise (ownS T vs ns).2 vs.length n ∧ cntF (ownS T vs ns).2 vs.length n = (ownS T vs ns).1.length
  | 0, ns, hn => by
    obtain rfl := List.eq_nil_of_length_eq_zero hn
    exact ⟨fun i hi => absurd hi (Nat.not_lt_zero _), rfl⟩
  | n + 1, ns, hn => by
    rcases snoc_cases ns with rfl | ⟨l, x, rfl⟩
    · simp at hn
    · have hl : l.length = n := by simpa using hn
      obtain ⟨ih, ic⟩ := own_riseN T vs n hl
      have hlen := own_len T vs n l hl
      rw [own_snoc]
      generalize ownS T vs l = st at ih ic hlen ⊢
      obtain ⟨us, own⟩ := st
      have hlen : own.length = n := hlen
      have ic : cntF own vs.length n = us.length := ic
      generalize hw : nodeW T x own = w
      have hv : rd (own ++ [((addW us w).idxOf w : Int)]) (n : Int) = ((addW us w).idxOf w : Int) := by rw [← hlen]; exact rd_snoc_eq
      have hc : ∀ i : Nat, i ≤ n → cntF (own ++ [((addW us w).idxOf w : Int)]) vs.length i = cntF own vs.length i := fun i hi => cnt_app (by omega)
      show Rise (own ++ [((addW us (nodeW T x own)).idxOf (nodeW T x own) : Int)]) vs.length (n + 1) ∧ cntF (own ++ [((addW us (nodeW T x own)).idxOf (nodeW T x own) : Int)]) vs.length (n + 1) = (addW us (nodeW T x own)).length
      rw [hw]
      by_cases hm : w ∈ us
      · have ea : addW us w = us := by unfold addW; rw [if_pos hm]
        have hlt := wix_lt hm
        rw [ea] at hv hc ⊢
        refine ⟨fun i hi => ?_, ?_⟩
        · rw [hc i (by omega)]
          by_cases h : i < n
          · rw [rd_app (by omega) (by omega)]; exact ih i h
          · obtain rfl : i = n := by omega
            rw [hv, ic]; omega
        · show (if _ then _ else _) = _
          rw [hc n (Nat.le_refl _), hv, ic, if_neg (by omega)]
      · have ea : addW us w = us ++ [w] := by unfold addW; rw [if_neg hm]
        have hix : (us ++ [w]).idxOf w = us.length := by
          rw [List.idxOf_append, if_neg hm]; simp
        rw [ea, hix] at hv hc ⊢
        refine ⟨fun i hi => ?_, ?_⟩
        · rw [hc i (by omega)]
          by_cases h : i < n
          · rw [rd_app (by omega) (by omega)]; exact ih i h
          · obtain rfl : i = n := by omega
            rw [hv, ic]; omega
        · show (if _ then _ else _) = _
          rw [hc n (Nat.le_refl _), hv, ic, if_pos rfl]; simp
theorem ahead_below {ns : List Node} (h : AheadN ns) {p : Nat} (hp : p < ns.length) {x : Int} (hr : Rch ns (kids ns (p : Int)) x) : 0 ≤ x ∧ x < (p : Int) := by
  induction hr with
  | base hk => exact h p hp _ (by rw [← kids_nat]; exact hk)
  | @step i k _ hk ih =>
    have := h i.toNat (by omega) k hk
    omega
theorem ahead_places {ns : List Node} (h : AheadN ns) : Places ns := fun i hi k hk => by
  have := h i hi k hk
  omega
theorem ahead_cyc {ns : List Node} (h : AheadN ns) : ∀ p : Nat, p < ns.length → ¬ Cyc ns p := fun p hp hc => by
  have := ahead_below h hp hc
  omega
end Go.Proofs.YtggldnbhmebcpaaDoor.L
end
section
namespace Go.Proofs.YtggldnbhmebcpaaDoor.L
open Go.RowKit Go.ChangeShapes Go.WideShapes Go.Proofs.YtggldnbhmebcpaaDoorW.PrintWords Go.Proofs.YtggldnbhmebcpaaDoorW.PrintLast Go.Proofs.YtggldnbhmebcpaaDoorW.PrintMore
attribute [local go_sem] max2_int min2_int max_two min_two max_three min_three max_four min_four
def Own4 (n m : Node) : Prop := n.kind = m.kind ∧ n.ints = m.ints ∧ n.texts = m.texts ∧ n.kids.length = m.kids.length
theorem Own4.refl (n : Node) : Own4 n n := ⟨rfl, rfl, rfl, rfl⟩
theorem Own4.symm {n m : Node} (h : Own4 n m) : Own4 m n := ⟨h.1.symm, h.2.1.symm, h.2.2.1.symm, h.2.2.2.symm⟩
theorem Own4.trans {n m p : Node} (h : Own4 n m) (g : Own4 m p) : Own4 n p := ⟨h.1.trans g.1, h.2.1.trans g.2.1, h.2.2.1.trans g.2.2.1, h.2.2.2.trans g.2.2.2⟩
def Like (a b : List Node) (i j : Nat) : Prop := alkC a b (alkT a b i) i j = true
theorem ahead_kid {a : List Node} (ha : AheadN a) {i k : Nat} (hi : i < a.length) (hk : k < (nd a i).kids.length) : 0 ≤ rd (nd a i).kids (k : Int) ∧ rd (nd a i).kids (k : Int) < (i : Int) := by
  rw [rd_eq hk]
  exact ha i hi _ (List.getElem_mem hk)
theorem like_iff {a b : List Node} (ha : AheadN a) (hb : AheadN b) {i j : Nat} (hi : i < a.length) (hj : j < b.length) :
    Like a b i j ↔ Own4 (nd a i) (nd b j) ∧ ∀ k : Nat, k < (nd a i).kids.length → Like a b (rd (nd a i).kids (k : Int)).toNat (rd (nd b j).kids (k : Int)).toNat := by
  unfold Like
  conv => lhs; unfold alkC
  rw [decide_eq_true_iff]
  refine ⟨fun ⟨h1, h2, h3, h4, h5⟩ => ⟨⟨h1, h2, h3, h4⟩, fun k hk => ?_⟩, fun ⟨⟨h1, h2, h3, h4⟩, h5⟩ => ⟨h1, h2, h3, h4, fun k hk => ?_⟩⟩
  · have x1 := ahead_kid ha hi hk
    have x2 := ahead_kid hb hj (k := k) (by omega)
    have := (h5 k hk).2.2
    rwa [alk_cell a b (by omega) (by omega)] at this
  · have x1 := ahead_kid ha hi hk
    have x2 := ahead_kid hb hj (k := k) (by omega)
    refine ⟨x1.2, x2.2, ?_⟩
    rw [alk_cell a b (by omega) (by omega)]
    exact h5 k hk
theorem like_co {a b : List Node} (ha : AheadN a) (hb : AheadN b) (R : Nat → Nat → Prop)
    (hR : ∀ i j : Nat, R i j → i < a.length ∧ j < b.length ∧ Own4 (nd a i) (nd b j) ∧ ∀ k : Nat, k < (nd a i).kids.length → R (rd (nd a i).kids (k : Int)).toNat (rd (nd b j).kids (k : Int)).toNat) :
    ∀ i j : Nat, R i j → Like a b i j := by
  intro i
  induction i using Nat.strongRecOn with
  | _ i ih =>
    intro j h
    obtain ⟨hi, hj, h1, h2⟩ := hR i j h
    refine (like_iff ha hb hi hj).2 ⟨h1, fun k hk => ?_⟩
    have x1 := ahead_kid ha hi hk
    exact ih _ (by omega) _ (h2 k hk)
theorem kid_nat {a : List Node} (ha : AheadN a) {i k : Nat} (hi : i < a.length) (hk : k < (nd a i).kids.length) : (rd (nd a i).kids (k : Int)).toNat < i := by
  have := ahead_kid ha hi hk
  omega
theorem like_refl {a : List Node} (ha : AheadN a) {i : Nat} (hi : i < a.length) : Like a a i i := by
  refine like_co ha ha (fun p q => p < a.length ∧ p = q) (fun p q h => ?_) i i ⟨hi, rfl⟩
  obtain ⟨hp, rfl⟩ := h
  refine ⟨hp, hp, Own4.refl _, fun k hk => ⟨?_, rfl⟩⟩
  have := kid_nat ha hp hk
  omega
theorem like_symm {a b : List Node} (ha : AheadN a) (hb : AheadN b) {i j : Nat} (hi : i < a.length) (hj : j < b.length) (h : Like a b i j) : Like b a j i := by
  refine like_co hb ha (fun p q => p < b.length ∧ q < a.length ∧ Like a b q p) (fun p q h => ?_) j i ⟨hj, hi, h⟩
  obtain ⟨hp, hq, h⟩ := h
  obtain ⟨h1, h2⟩ := (like_iff ha hb hq hp).1 h
  refine ⟨hp, hq, h1.symm, fun k hk => ?_⟩
  have hk' : k < (nd a q).kids.length := by rw [h1.2.2.2]; exact hk
  have x1 := kid_nat hb hp hk
  have x2 := kid_nat ha hq hk'
  exact ⟨by omega, by omega, h2 k hk'⟩
theorem like_trans {a b c : List Node} (ha : AheadN a) (hb : AheadN b) (hc : AheadN c) {i j m : Nat} (hi : i < a.length) (hj : j < b.length) (hm : m < c.length) (h : Like a b i j) (g : Like b c j m) : Like a c i m := by
  refine like_co ha hc (fun p q => p < a.length ∧ q < c.length ∧ ∃ r, r < b.length ∧ Like a b p r ∧ Like b c r q) (fun p q h => ?_) i m ⟨hi, hm, j, hj, h, g⟩
  obtain ⟨hp, hq, r, hr, h, g⟩ := h
  obtain ⟨h1, h2⟩ := (like_iff ha hb hp hr).1 h
  obtain ⟨g1, g2⟩ := (like_iff hb hc hr hq).1 g
  refine ⟨hp, hq, h1.trans g1, fun k hk => ?_⟩
  have hk' : k < (nd b r).kids.length := by rw [← h1.2.2.2]; exact hk
  have hk2 : k < (nd c q).kids.length := by rw [← g1.2.2.2]; exact hk'
  have x1 := kid_nat ha hp hk
  have x2 := kid_nat hb hr hk'
  have x3 := kid_nat hc hq hk2
  exact ⟨by omega, by omega, _, by omega, h2 k hk, g2 k hk'⟩
theorem like_num {T : Lib.PrintTabs} {vs : List (List UInt8)} {a b : List Node} {p q : List Int} (ha : AheadN a) (hb : AheadN b) (hp : Numd T vs a p) (hq : Numd T vs b q) {i j : Nat} (hi : i < a.length) (hj : j < b.length) :
    Like a b i j ↔ rd p (i : Int) = rd q (j : Int) := alk_num ha hb hp hq i j hi hj
end Go.Proofs.YtggldnbhmebcpaaDoor.L
end
section
namespace Go.Proofs.YtggldnbhmebcpaaDoor.L
open Go.RowKit Go.ChangeShapes Go.WideShapes Go.Proofs.YtggldnbhmebcpaaDoorW.PrintWords Go.Proofs.YtggldnbhmebcpaaDoorW.PrintLast Go.Proofs.YtggldnbhmebcpaaDoorW.PrintMore
attribute [local go_sem] max2_int min2_int max_two min_two max_three min_three max_four min_four
theorem firstF_congr {p q : Nat → Bool} (tk : List Int) {n : Nat} (h : ∀ k : Nat, k < n → p k = q k) : firstF p tk n = firstF q tk n := by
  rcases firstF_cases p tk n with ⟨e, h1⟩ | ⟨k, hk, e, hp, hn, h1⟩ <;> rcases firstF_cases q tk n with ⟨e', h1'⟩ | ⟨k', hk', e', hp', hn', h1'⟩
  · rw [e, e']
  · exact absurd (h1 k' hk' ((h k' hk').trans hp')) hn'
  · exact absurd (h1' k hk ((h k hk).symm.trans hp)) hn
  · rw [e, e']
    rcases Nat.lt_trichotomy k k' with g | g | g
    · exact absurd (h1' k g ((h k hk).symm.trans hp)) hn
    · rw [g]
    · exact absurd (h1 k' g ((h k' hk').trans hp')) hn'
theorem rndA_congr {P P' : Nat → Nat → Bool} {n : Nat} : ∀ {m : Nat}, (∀ i k : Nat, i < m → k < n → P i k = P' i k) → rndA P n m = rndA P' n m
  | 0, _ => rfl
  | m + 1, h => by
    show rndA P n m ++ [_] = rndA P' n m ++ [_]
    rw [rndA_congr (fun i k hi hk => h i k (by omega) hk), firstF_congr _ (fun k hk => h m k (by omega) hk)]
theorem rndB_congr {Q Q' : Nat → Nat → Bool} {n : Nat} {o : List Int} : ∀ {m : Nat}, (∀ i k : Nat, i < m → k < n → Q i k = Q' i k) → rndB Q n o m = rndB Q' n o m
  | 0, _ => rfl
  | m + 1, h => by
    show (rndB Q n o m).set m _ = (rndB Q' n o m).set m _
    rw [rndB_congr (fun i k hi hk => h i k (by omega) hk), firstF_congr _ (fun k hk => h m k (by omega) hk)]
theorem matP_congr {P P' Q Q' : Nat → Nat → Bool} {n m : Nat} (hP : ∀ i k : Nat, i < m → k < n → P i k = P' i k) (hQ : ∀ i k : Nat, i < m → k < n → Q i k = Q' i k) : matP P Q n m = matP P' Q' n m := by
  unfold matP
  rw [rndA_congr hP, rndB_congr hQ]
def PT (a t : List Node) (i k : Nat) : Bool := alkC t a (alkT t a i) i k
def PN (na nt : List Int) (i k : Nat) : Bool := decide (rd na (k : Int) = rd nt (i : Int))
def QK (a t : List Node) (i k : Nat) : Bool := decide (kindW (nd a k) = kindW (nd t i))
def matS (a t : List Node) : List Int := matP (PT a t) (QK a t) a.length t.length
theorem mat_num {T : Lib.PrintTabs} {vs : List (List UInt8)} {a t : List Node} {na nt : List Int} (ha : AheadN a) (ht : AheadN t) (hp : Numd T vs a na) (hq : Numd T vs t nt) : matP (PN na nt) (QK a t) a.length t.length = matS a t := by
  refine matP_congr (fun i k hi hk => ?_) (fun _ _ _ _ => rfl)
  have h := like_num ht ha hq hp hi hk
  unfold PN PT
  unfold Like at h
  by_cases e : rd na (k : Int) = rd nt (i : Int)
  · rw [decide_eq_true e, h.2 e.symm]
  · rw [decide_eq_false e]
    exact (Bool.eq_false_iff.2 (fun hh => e (h.1 hh).symm)).symm
theorem firstL_at {r tk : List Int} {d : Nat} (hd : d < r.length) (h : ∀ x ∈ r.take d, x ∈ tk) (hn : rd r (d : Int) ∉ tk) : firstL r tk = rd r (d : Int) := by
  rw [← firstL_drop h, List.drop_eq_getElem_cons hd, ← rd_eq hd, firstL_yes hn]
theorem firstL_end {r tk : List Int} (h : ∀ x ∈ r, x ∈ tk) : firstL r tk = -1 := by
  rw [← firstL_drop (l := r) (d := r.length) (fun x hx => h x (List.mem_of_mem_take hx)), List.drop_length]; rfl
theorem take_more {r tk : List Int} {d : Nat} (hd : d < r.length) (h : ∀ x ∈ r.take d, x ∈ tk) (hx : rd r (d : Int) ∈ tk) : ∀ x ∈ r.take (d + 1), x ∈ tk := fun x hh => by
  rw [List.take_succ_eq_append_getElem hd] at hh
  rcases List.mem_append.1 hh with h1 | h1
  · exact h x h1
  · rw [List.mem_singleton.1 h1, ← rd_eq hd]; exact hx
theorem take_put {r tk : List Int} {d : Nat} (hd : d < r.length) (h : ∀ x ∈ r.take d, x ∈ tk) : ∀ x ∈ r.take (d + 1), x ∈ rd r (d : Int) :: tk :=
  take_more hd (fun x hx => List.mem_cons_of_mem _ (h x hx)) (List.mem_cons_self ..)
theorem openR_mem {nums : List Int} {ns : List Node} {q : List UInt8} : ∀ {m : Nat}, ∀ x ∈ openR nums ns m q, 0 ≤ x ∧ x < (m : Int)
  | 0, x, h => by cases h
  | m + 1, x, h => by
    have ih : ∀ x ∈ openR nums ns m q, 0 ≤ x ∧ x < (m : Int) := fun x h => openR_mem x h
    have h : x ∈ updR (updR (openR nums ns m) (Lib.itoa (rd nums (m : Int))) (m : Int)) (kindW (nd ns m)) (m : Int) q := h
    have key : ∀ {r : List UInt8 → List Int} {p : List UInt8}, (∀ x ∈ r q, 0 ≤ x ∧ x < ((m + 1 : Nat) : Int)) → ∀ x ∈ updR r p (m : Int) q, 0 ≤ x ∧ x < ((m + 1 : Nat) : Int) := fun {r p} hr x hx => by
      unfold updR at hx
      split at hx
      · rename_i e
        rcases List.mem_append.1 hx with h1 | h1
        · exact hr x (e ▸ h1)
        · rw [List.mem_singleton] at h1; omega
      · exact hr x hx
    exact key (key (fun x hx => by have := ih x hx; omega)) x h
theorem openR_len {nums : List Int} {ns : List Node} {q : List UInt8} : ∀ {m : Nat}, (openR nums ns m q).length ≤ 2 * m
  | 0 => Nat.le_refl _
  | m + 1 => by
    have ih := openR_len (nums := nums) (ns := ns) (q := q) (m := m)
    show (updR (updR (openR nums ns m) (Lib.itoa (rd nums (m : Int))) (m : Int)) (kindW (nd ns m)) (m : Int) q).length ≤ _
    have key : ∀ {r : List UInt8 → List Int} {p : List UInt8}, (updR r p (m : Int) q).length ≤ (r q).length + 1 := fun {r p} => by
      unfold updR
      split
      · rename_i e; subst e; simp
      · omega
    have h1 := key (r := updR (openR nums ns m) (Lib.itoa (rd nums (m : Int))) (m : Int)) (p := kindW (nd ns m))
    have h2 := key (r := openR nums ns m) (p := Lib.itoa (rd nums (m : Int)))
    omega
theorem roundA {na nt : List Int} {ns : List Node} {n i : Nat} {tk : List Int} (htk : ∀ k : Nat, k < n → ((k : Int) ∈ tk ↔ (k : Int) ∈ rndA (PN na nt) n i)) :
    firstL (openR na ns n (Lib.itoa (rd nt (i : Int)))) tk = firstF (PN na nt i) (rndA (PN na nt) n i) n := by
  rw [openR_num, firstL_sel, firstF_tk htk]; rfl
theorem roundB {na : List Int} {a t : List Node} {o : List Int} {n i : Nat} {tk : List Int} (htk : ∀ k : Nat, k < n → ((k : Int) ∈ tk ↔ (k : Int) ∈ rndB (QK a t) n o i)) :
    firstL (openR na a n (kindW (nd t i))) tk = firstF (QK a t i) (rndB (QK a t) n o i) n := by
  rw [openR_kind, firstL_sel, firstF_tk htk]; rfl
theorem taken_app {tk o : List Int} {x : Int} {k : Nat} (h : (k : Int) ∈ tk ↔ (k : Int) ∈ o) : (k : Int) ∈ (if 0 ≤ x then x :: tk else tk) ↔ (k : Int) ∈ o ++ [x] := by
  by_cases hx : 0 ≤ x
  · rw [if_pos hx, List.mem_cons, List.mem_append, List.mem_singleton, h]
    exact Or.comm
  · rw [if_neg hx, List.mem_append, List.mem_singleton, h]
    exact ⟨.inl, fun hh => hh.elim id (fun e => absurd e (by omega))⟩
theorem taken_set {tk o : List Int} {x : Int} {i k : Nat} (hi : i < o.length) (hz : rd o (i : Int) < 0) (h : (k : Int) ∈ tk ↔ (k : Int) ∈ o) : (k : Int) ∈ (if 0 ≤ x then x :: tk else tk) ↔ (k : Int) ∈ o.set i x := by
  have e : (k : Int) ∈ o.set i x ↔ (k : Int) ∈ o ∨ (k : Int) = x := by
    refine ⟨fun hh => ?_, fun hh => ?_⟩
    · obtain ⟨j, hj, e⟩ := mem_rd hh
      rw [List.length_set] at hj
      by_cases hij : i = j
      · subst hij
        rw [rd_set1 hi] at e
        exact .inr e.symm
      · rw [rd_set2 hj hij] at e
        exact .inl (e ▸ rdm hj)
    · rcases hh with hh | hh
      · obtain ⟨j, hj, e⟩ := mem_rd hh
        have hij : i ≠ j := fun e2 => by subst e2; omega
        have := rdm (o := o.set i x) (i := j) (by simpa using hj)
        rwa [rd_set2 hj hij, e] at this
      · have := rdm (o := o.set i x) (i := i) (by simpa using hi)
        rw [rd_set1 hi] at this
        rw [hh]; exact this
  rw [e]
  by_cases hx : 0 ≤ x
  · rw [if_pos hx, List.mem_cons, h]
    exact Or.comm
  · rw [if_neg hx, h]
    exact ⟨.inl, fun hh => hh.elim id (fun e => absurd e (by omega))⟩
end Go.Proofs.YtggldnbhmebcpaaDoor.L
end
section
namespace Go.Proofs.YtggldnbhmebcpaaDoor.L
open Go.RowKit Go.ChangeShapes Go.WideShapes Go.Proofs.YtggldnbhmebcpaaDoorW.PrintWords Go.Proofs.YtggldnbhmebcpaaDoorW.PrintLast Go.Proofs.YtggldnbhmebcpaaDoorW.PrintMore
attribute [local go_sem] max2_int min2_int max_two min_two max_three min_three max_four min_four
theorem szBld : (Tryd.prog.info? 83).map (·.size) = some 2 := by kernel_rfl
theorem liesBld : liesAt Tryd.prog Tryd.prog.depth 83 (2 / Tryd.prog.cellsOf 83) 0 83 1 = true := by kernel_rfl
theorem infoB : (Tryd.prog.info? 5).map (fun i => (i.zero, i.size, i.bytes)) = some (some (.int .u8 0), 1, 1) := by kernel_rfl
theorem neB5 : 83 ≠ 5 := by decide
set_option maxHeartbeats 1000000 in
set_option maxRecDepth 100000 in
theorem ccheck_used (b : Nat) (w : World) (h0 : w.cell? ⟨b, 0, none⟩ = some (.pointer (some ⟨b, 0, none⟩))) :
    Calls Tryd.prog 63 #[.pointer (some ⟨b, 0, none⟩)] w fun e w' => e = .returned (.tuple #[]) ∧ w' = w := by
  obtain ⟨j, hj, _⟩ := Option.map_eq_some_iff.1 szBld
  have t72 := Tryd.underlying83
  have t70 := Tryd.underlying80
  go_enter Tryd.func63, Tryd.ntmps63
  go_wp2
  rw [Lib.run_neq_ptr_same w _ Tryd.underlying80 hj]
  go_wp2
  go_end0
  exact ⟨rfl, rfl⟩
set_option maxHeartbeats 1000000 in
set_option maxRecDepth 100000 in
theorem ccheck_fresh (b : Nat) (w : World) (h0 : w.cell? ⟨b, 0, none⟩ = some (.pointer none)) (hsh : w.shape? b = some (83, 2)) (hfz : w.frozen? ⟨b, 0, none⟩ = false) :
    Calls Tryd.prog 63 #[.pointer (some ⟨b, 0, none⟩)] w fun e w' => e = .returned (.tuple #[]) ∧ w' = w.setCell ⟨b, 0, none⟩ (.pointer (some ⟨b, 0, none⟩)) := by
  obtain ⟨j, hj, hjs⟩ := Option.map_eq_some_iff.1 szBld
  have t72 := Tryd.underlying83
  have t70 := Tryd.underlying80
  go_enter Tryd.func63, Tryd.ntmps63
  go_wp2
  rw [Lib.run_to_unsafe w ⟨b, 0, none⟩ Tryd.underlying80 Tryd.underlying118 hj (by rw [hjs]; decide) hsh (Nat.zero_lt_succ 1)]
  simp only [Result.andThen]
  rw [Oper.upon_value]
  go_wp2
  rw [run_callFunc_extern Tryd.func74 (by kernel_rfl) (by kernel_rfl) (by kernel_rfl) (e := Extern.AbiNoEscape.same) (by kernel_rfl)]
  rw [Lib.run_noEscape]
  simp only [Result.andThen]
  rw [Oper.upon_value]
  go_wp2
  rw [Lib.run_from_unsafe w ⟨b, 0, none⟩ Tryd.underlying118 Tryd.underlying80 hj hsh liesBld]
  simp only [Result.andThen]
  rw [Oper.upon_value]
  go_wp2
  go_end0
  exact ⟨rfl, rfl⟩
theorem ccheck_any (B b : Nat) (bs : List Value) (w : World) (h : Lib.IsBuilder 83 5 B b bs w) :
    Calls Tryd.prog 63 #[.pointer (some ⟨b, 0, none⟩)] w fun e w' => e = .returned (.tuple #[]) ∧ (Lib.BuilderAt 83 5 B b (.pointer (some ⟨b, 0, none⟩)) bs w' ∧ Below B w w') := by
  rcases h with h | h
  · refine (ccheck_fresh b w h.cell0 h.shape h.frozen0).mono ?_
    rintro e w' ⟨rfl, rfl⟩
    exact ⟨rfl, h.used _, (Below.refl B w).setCell (p := ⟨b, 0, none⟩) h.1 _⟩
  · refine (ccheck_used b w h.cell0).mono ?_
    rintro e w' ⟨rfl, rfl⟩
    exact ⟨rfl, h, Below.refl B _⟩
set_option maxHeartbeats 2000000 in
set_option maxRecDepth 100000 in
theorem wstr_any (B b : Nat) (bs : List Value) (s : ByteArray) (w : World) (h : Lib.IsBuilder 83 5 B b bs w) (hlen : bs.length + s.size ≤ 140737488355328) (hBw : B ≤ w.heap.size) :
    Calls Tryd.prog 47 #[.pointer (some ⟨b, 0, none⟩), .string s] w fun e w' => e = .returned (.tuple #[.int .i64 s.size, .nilIface]) ∧ (Lib.BuilderAt 83 5 B b (.pointer (some ⟨b, 0, none⟩)) (bs ++ Lib.strCells s) w' ∧ Below B w w') := by
  obtain ⟨i0, hi, hz0, hz1, hz2⟩ := info_parts infoB
  have t72 := Tryd.underlying83
  have t70 := Tryd.underlying80
  have t37 := Tryd.underlying81
  have t5 := Tryd.underlying5
  go_enter Tryd.func47, Tryd.ntmps47
  go_wp2_with (go_at_call 63; refine (ccheck_any B b bs _ h).mono ?_)
  rintro e w1 ⟨rfl, h1, hb1⟩
  obtain ⟨hB, v, hbk, hown, hne⟩ := h1
  have c0 : w1.cell? ⟨b, 0, none⟩ = some (.pointer (some ⟨b, 0, none⟩)) := by rw [Lib.cell_of_heap hbk]; rfl
  have c1 : w1.cell? ⟨b, 1, none⟩ = some v := by rw [Lib.cell_of_heap hbk]; rfl
  go_wp2_with (at_builtin; refine Lib.wpList_append_own_string _ rfl _ _ 81 9 rfl B 5 i0 Tryd.underlying81 Tryd.underlying9 hi hz0 hz1 hz2 _ _ _ rfl hown s rfl ?c3 ?c4 ?c5 ?_)
  case c3 => unfold maxLen; omega
  case c4 => omega
  case c5 => have := hb1.size; omega
  intro v' w2 hown' hgrow _
  have hlt : b < w1.heap.size := by
    rcases Nat.lt_or_ge b w1.heap.size with h' | h'
    · exact h'
    · simp [Array.getElem?_eq_none h'] at hbk
  have hb2 : w2.heap[b]? = some (.cells #[.pointer (some ⟨b, 0, none⟩), v] 83 (0, 0)) := by
    rw [hgrow.block b hlt (fun e => hne e.symm)]
    exact hbk
  have d0 : w2.cell? ⟨b, 0, none⟩ = some (.pointer (some ⟨b, 0, none⟩)) := by rw [Lib.cell_of_heap hb2]; rfl
  have d1 : w2.cell? ⟨b, 1, none⟩ = some v := by rw [Lib.cell_of_heap hb2]; rfl
  have f1 : w2.frozen? ⟨b, 1, none⟩ = false := Lib.frozen_of_heap hb2 1
  obtain ⟨ao, n', cap, rfl⟩ : ∃ ao n' cap, v' = .slice ao n' cap := by
    rcases hown'.2 with ⟨hv, _⟩ | ⟨g, cap, cur, hv, _⟩
    · exact ⟨_, _, _, hv⟩
    · exact ⟨_, _, _, hv⟩
  go_wp2
  go_ret2
  refine ⟨rfl, ?_, ?_⟩
  · exact Lib.BuilderAt.put (T := 83) (e := 5) hB hb2 (bs' := bs ++ Lib.strCells s) (by simpa [Lib.strCells_length] using hown') neB5
  · exact (hb1.grown hgrow (by have := hb1.size; omega) (fun k hk => (hown.lt k hk).1)).setCell (p := ⟨b, 1, none⟩) hB _
end Go.Proofs.YtggldnbhmebcpaaDoor.L
end
section
namespace Go.Proofs
open Go.Shelf
def Tryd.lays169_ren : Go.Shelf.Ren := ⟨fun | 169 => 50 | n => n, fun | 70 => 80 | 9 => 9 | 0 => 0 | 72 => 83 | 37 => 81 | 127 => 102 | 3 => 3 | 5 => 5 | n => n, fun | n => n⟩
theorem Tryd.lays169 : Go.Proofs.Lays.n169 Tryd.prog Tryd.lays169_ren := {
  mixed := by kernel_rfl
  f169 := Tryd.func50.trans (congrArg some (by kernel_rfl))
  t0 := Tryd.underlying0
  a0 := Tryd.isAgg0
  z0 := Tryd.sizeOf0
  v0 := Tryd.zeroValue0
  t3 := Tryd.underlying3
  a3 := Tryd.isAgg3
  z3 := Tryd.sizeOf3
  v3 := Tryd.zeroValue3
  t9 := Tryd.underlying9
  a9 := Tryd.isAgg9
  z9 := Tryd.sizeOf9
  v9 := Tryd.zeroValue9
  t37 := Tryd.underlying81
  a37 := Tryd.isAgg81
  z37 := Tryd.sizeOf81
  v37 := Tryd.zeroValue81
  t70 := Tryd.underlying80
  a70 := Tryd.isAgg80
  z70 := Tryd.sizeOf80
  v70 := Tryd.zeroValue80
  t72 := Tryd.underlying83
  a72 := Tryd.isAgg83
  z72 := Tryd.sizeOf83
  v72 := Tryd.zeroValue83
  t127 := Tryd.underlying102
  a127 := Tryd.isAgg102
  z127 := Tryd.sizeOf102
  v127 := Tryd.zeroValue102 }
theorem Tryd.Builder_Extra_169 : Builder.Extra Tryd.prog Tryd.lays169_ren := {
  sizeBuilder := by kernel_rfl
  liesBuilder := by kernel_rfl
  t5 := Tryd.underlying5
  a5 := Tryd.isAgg5
  z5 := Tryd.sizeOf5
  v5 := Tryd.zeroValue5
  infoByte := by kernel_rfl
  cellsByte := by kernel_rfl
  sizeByte := by kernel_rfl
  neB5 := by decide }
open Go.RowKit in
theorem Tryd.Builder_String_any (B b : Nat) (l : List UInt8) (w : World) (h : Lib.IsBuilder 83 5 B b (Lib.byteCells l) w) (hBw : B ≤ w.heap.size) :
    Calls Tryd.prog 50 #[.pointer (some ⟨b, 0, none⟩)] w fun e w' => e = .returned (.string ⟨l.toArray⟩) ∧ Below B w w' := Any.Builder_String_any Tryd.lays169 Tryd.Builder_Extra_169 B b l w h hBw
def Tryd.lays339_ren : Go.Shelf.Ren := ⟨fun | 339 => 93 | 345 => 97 | 346 => 98 | n => n, fun | 21 => 21 | 4 => 4 | 49 => 145 | 234 => 146 | 131 => 71 | 3 => 3 | 0 => 0 | 51 => 124 | 236 => 148 | 46 => 126 | n => n, fun | 20 => 5 | 21 => 6 | 22 => 7 | 23 => 8 | n => n⟩
theorem Tryd.lays339 : Go.Proofs.Lays.n339 Tryd.prog Tryd.lays339_ren := {
  mixed := by kernel_rfl
  f339 := Tryd.func93.trans (congrArg some (by kernel_rfl))
  f345 := Tryd.func97.trans (congrArg some (by kernel_rfl))
  f346 := Tryd.func98.trans (congrArg some (by kernel_rfl))
  t0 := Tryd.underlying0
  a0 := Tryd.isAgg0
  z0 := Tryd.sizeOf0
  v0 := Tryd.zeroValue0
  t3 := Tryd.underlying3
  a3 := Tryd.isAgg3
  z3 := Tryd.sizeOf3
  v3 := Tryd.zeroValue3
  t4 := Tryd.underlying4
  a4 := Tryd.isAgg4
  z4 := Tryd.sizeOf4
  v4 := Tryd.zeroValue4
  t21 := Tryd.underlying21
  a21 := Tryd.isAgg21
  z21 := Tryd.sizeOf21
  v21 := Tryd.zeroValue21
  t46 := Tryd.underlying126
  a46 := Tryd.isAgg126
  z46 := Tryd.sizeOf126
  v46 := Tryd.zeroValue126
  t49 := Tryd.underlying145
  a49 := Tryd.isAgg145
  z49 := Tryd.sizeOf145
  v49 := Tryd.zeroValue145
  t51 := Tryd.underlying124
  a51 := Tryd.isAgg124
  z51 := Tryd.sizeOf124
  v51 := Tryd.zeroValue124
  t131 := Tryd.underlying71
  a131 := Tryd.isAgg71
  z131 := Tryd.sizeOf71
  v131 := Tryd.zeroValue71
  t234 := Tryd.underlying146
  a234 := Tryd.isAgg146
  z234 := Tryd.sizeOf146
  v234 := Tryd.zeroValue146
  t236 := Tryd.underlying148
  a236 := Tryd.isAgg148
  z236 := Tryd.sizeOf148
  v236 := Tryd.zeroValue148
  g20 := by kernel_rfl
  g21 := by kernel_rfl
  g22 := by kernel_rfl
  g23 := by kernel_rfl }
def Tryd.lays177_ren : Go.Shelf.Ren := ⟨fun | 177 => 49 | 250 => 64 | 289 => 75 | 197 => 86 | 323 => 87 | 260 => 92 | 339 => 93 | 340 => 94 | 242 => 95 | 119 => 96 | 345 => 97 | 346 => 98 | 278 => 99 | n => n, fun | 9 => 9 | 5 => 5 | 4 => 4 | 3 => 3 | 37 => 81 | 21 => 21 | 105 => 128 | 46 => 126 | 119 => 141 | 0 => 0 | 139 => 144 | 138 => 143 | 49 => 145 | 234 => 146 | 131 => 71 | 51 => 124 | 236 => 148 | n => n, fun | 3 => 3 | 4 => 4 | 20 => 5 | 21 => 6 | 22 => 7 | 23 => 8 | 24 => 9 | n => n⟩
theorem Tryd.lays177 : Go.Proofs.Lays.n177 Tryd.prog Tryd.lays177_ren := {
  mixed := by kernel_rfl
  f119 := Tryd.func96.trans (congrArg some (by kernel_rfl))
  f177 := Tryd.func49.trans (congrArg some (by kernel_rfl))
  f197 := Tryd.func86.trans (congrArg some (by kernel_rfl))
  f242 := Tryd.func95.trans (congrArg some (by kernel_rfl))
  f250 := Tryd.func64.trans (congrArg some (by kernel_rfl))
  f260 := Tryd.func92.trans (congrArg some (by kernel_rfl))
  f278 := Tryd.func99.trans (congrArg some (by kernel_rfl))
  f289 := Tryd.func75.trans (congrArg some (by kernel_rfl))
  f323 := Tryd.func87.trans (congrArg some (by kernel_rfl))
  f339 := Tryd.func93.trans (congrArg some (by kernel_rfl))
  f340 := Tryd.func94.trans (congrArg some (by kernel_rfl))
  f345 := Tryd.func97.trans (congrArg some (by kernel_rfl))
  f346 := Tryd.func98.trans (congrArg some (by kernel_rfl))
  t0 := Tryd.underlying0
  a0 := Tryd.isAgg0
  z0 := Tryd.sizeOf0
  v0 := Tryd.zeroValue0
  t3 := Tryd.underlying3
  a3 := Tryd.isAgg3
  z3 := Tryd.sizeOf3
  v3 := Tryd.zeroValue3
  t4 := Tryd.underlying4
  a4 := Tryd.isAgg4
  z4 := Tryd.sizeOf4
  v4 := Tryd.zeroValue4
  t5 := Tryd.underlying5
  a5 := Tryd.isAgg5
  z5 := Tryd.sizeOf5
  v5 := Tryd.zeroValue5
  t9 := Tryd.underlying9
  a9 := Tryd.isAgg9
  z9 := Tryd.sizeOf9
  v9 := Tryd.zeroValue9
  t21 := Tryd.underlying21
  a21 := Tryd.isAgg21
  z21 := Tryd.sizeOf21
  v21 := Tryd.zeroValue21
  t37 := Tryd.underlying81
  a37 := Tryd.isAgg81
  z37 := Tryd.sizeOf81
  v37 := Tryd.zeroValue81
  t46 := Tryd.underlying126
  a46 := Tryd.isAgg126
  z46 := Tryd.sizeOf126
  v46 := Tryd.zeroValue126
  t49 := Tryd.underlying145
  a49 := Tryd.isAgg145
  z49 := Tryd.sizeOf145
  v49 := Tryd.zeroValue145
  t51 := Tryd.underlying124
  a51 := Tryd.isAgg124
  z51 := Tryd.sizeOf124
  v51 := Tryd.zeroValue124
  t105 := Tryd.underlying128
  a105 := Tryd.isAgg128
  z105 := Tryd.sizeOf128
  v105 := Tryd.zeroValue128
  t119 := Tryd.underlying141
  a119 := Tryd.isAgg141
  z119 := Tryd.sizeOf141
  t131 := Tryd.underlying71
  a131 := Tryd.isAgg71
  z131 := Tryd.sizeOf71
  v131 := Tryd.zeroValue71
  t138 := Tryd.underlying143
  a138 := Tryd.isAgg143
  z138 := Tryd.sizeOf143
  v138 := Tryd.zeroValue143
  t139 := Tryd.underlying144
  a139 := Tryd.isAgg144
  z139 := Tryd.sizeOf144
  v139 := Tryd.zeroValue144
  t234 := Tryd.underlying146
  a234 := Tryd.isAgg146
  z234 := Tryd.sizeOf146
  v234 := Tryd.zeroValue146
  t236 := Tryd.underlying148
  a236 := Tryd.isAgg148
  z236 := Tryd.sizeOf148
  v236 := Tryd.zeroValue148
  g3 := by kernel_rfl
  g4 := by kernel_rfl
  g20 := by kernel_rfl
  g21 := by kernel_rfl
  g22 := by kernel_rfl
  g23 := by kernel_rfl
  g24 := by kernel_rfl }
open Go.RowKit in
theorem Tryd.strconv_Quote (T : Lib.PrintTabs) (s : ByteArray) (w : World) (hlen : 10 * s.size + 12 ≤ 140737488355328) (hT : Lib.PrintTabsAt 5 6 7 8 T w) (hU : Lib.Utf8Tabs 3 4 w) :
    Calls Tryd.prog 49 #[.string s] w fun e w' => e = .returned (.string (strOfNums (Lib.quoteZ T s))) ∧ Below w.heap.size w w' := Any.strconv_Quote Tryd.lays177 (by kernel_rfl) T s w hlen hT hU
def Tryd.laysM171_ren : Go.Shelf.Ren := ⟨fun | 171 => 24 | 243 => 38 | 246 => 51 | 283 => 65 | 284 => 66 | 285 => 67 | 286 => 68 | 129 => 77 | 317 => 76 | 318 => 78 | 319 => 79 | 320 => 80 | 337 => 88 | 338 => 89 | n => n, fun | 3 => 3 | 9 => 9 | 2 => 2 | 4 => 4 | 171 => 103 | 0 => 0 | 53 => 104 | 37 => 81 | 5 => 5 | 173 => 107 | 212 => 123 | 51 => 124 | 20 => 20 | 213 => 125 | 46 => 126 | 232 => 139 | 233 => 140 | n => n, fun | 17 => 0 | 18 => 1 | 19 => 2 | n => n⟩
theorem Tryd.laysM171 : Go.Proofs.LaysM.n171 Tryd.prog Tryd.laysM171_ren := {
  mixed := by kernel_rfl
  f129 := Tryd.func77.trans (congrArg some (by kernel_rfl))
  f171 := Tryd.func24.trans (congrArg some (by kernel_rfl))
  f243 := Tryd.func38.trans (congrArg some (by kernel_rfl))
  f246 := Tryd.func51.trans (congrArg some (by kernel_rfl))
  f283 := Tryd.func65.trans (congrArg some (by kernel_rfl))
  f284 := Tryd.func66.trans (congrArg some (by kernel_rfl))
  f285 := Tryd.func67.trans (congrArg some (by kernel_rfl))
  f286 := Tryd.func68.trans (congrArg some (by kernel_rfl))
  f317 := Tryd.func76.trans (congrArg some (by kernel_rfl))
  f318 := Tryd.func78.trans (congrArg some (by kernel_rfl))
  f319 := Tryd.func79.trans (congrArg some (by kernel_rfl))
  f320 := Tryd.func80.trans (congrArg some (by kernel_rfl))
  f337 := Tryd.func88.trans (congrArg some (by kernel_rfl))
  f338 := Tryd.func89.trans (congrArg some (by kernel_rfl))
  t0 := Tryd.underlying0
  a0 := Tryd.isAgg0
  z0 := Tryd.sizeOf0
  v0 := Tryd.zeroValue0
  t2 := Tryd.underlying2
  a2 := Tryd.isAgg2
  z2 := Tryd.sizeOf2
  v2 := Tryd.zeroValue2
  t3 := Tryd.underlying3
  a3 := Tryd.isAgg3
  z3 := Tryd.sizeOf3
  v3 := Tryd.zeroValue3
  t4 := Tryd.underlying4
  a4 := Tryd.isAgg4
  z4 := Tryd.sizeOf4
  v4 := Tryd.zeroValue4
  t5 := Tryd.underlying5
  a5 := Tryd.isAgg5
  z5 := Tryd.sizeOf5
  v5 := Tryd.zeroValue5
  t9 := Tryd.underlying9
  a9 := Tryd.isAgg9
  z9 := Tryd.sizeOf9
  v9 := Tryd.zeroValue9
  t20 := Tryd.underlying20
  a20 := Tryd.isAgg20
  z20 := Tryd.sizeOf20
  v20 := Tryd.zeroValue20
  t37 := Tryd.underlying81
  a37 := Tryd.isAgg81
  z37 := Tryd.sizeOf81
  v37 := Tryd.zeroValue81
  t46 := Tryd.underlying126
  a46 := Tryd.isAgg126
  z46 := Tryd.sizeOf126
  v46 := Tryd.zeroValue126
  t51 := Tryd.underlying124
  a51 := Tryd.isAgg124
  z51 := Tryd.sizeOf124
  v51 := Tryd.zeroValue124
  t53 := Tryd.underlying104
  a53 := Tryd.isAgg104
  z53 := Tryd.sizeOf104
  v53 := Tryd.zeroValue104
  t171 := Tryd.underlying103
  a171 := Tryd.isAgg103
  z171 := Tryd.sizeOf103
  v171 := Tryd.zeroValue103
  t173 := Tryd.underlying107
  a173 := Tryd.isAgg107
  z173 := Tryd.sizeOf107
  v173 := Tryd.zeroValue107
  t212 := Tryd.underlying123
  a212 := Tryd.isAgg123
  z212 := Tryd.sizeOf123
  v212 := Tryd.zeroValue123
  t213 := Tryd.underlying125
  a213 := Tryd.isAgg125
  z213 := Tryd.sizeOf125
  t232 := Tryd.underlying139
  a232 := Tryd.isAgg139
  z232 := Tryd.sizeOf139
  v232 := Tryd.zeroValue139
  t233 := Tryd.underlying140
  a233 := Tryd.isAgg140
  z233 := Tryd.sizeOf140
  v233 := Tryd.zeroValue140
  g17 := by kernel_rfl
  g18 := by kernel_rfl
  g19 := by kernel_rfl
  i0 := by kernel_rfl
  i2 := by kernel_rfl
  i3 := by kernel_rfl
  i4 := by kernel_rfl
  i5 := by kernel_rfl
  i9 := by kernel_rfl
  i20 := by kernel_rfl
  i37 := by kernel_rfl
  i46 := by kernel_rfl
  i51 := by kernel_rfl
  i53 := by kernel_rfl
  i171 := by kernel_rfl
  i173 := by kernel_rfl
  i212 := by kernel_rfl
  i232 := by kernel_rfl
  i233 := by kernel_rfl
  m17 := by kernel_rfl
  m18 := by kernel_rfl
  m19 := by kernel_rfl }
open Go.RowKit Go.Sort Go.Lib in
theorem Tryd.strconv_Itoa (n : Int) (h0 : -9223372036854775808 ≤ n) (h1 : n ≤ 9223372036854775807) (w : World) (htab : Lib.TabIs Tryd.prog w "internal/strconv.uint64pow10" .u64 Lib.pow10Tab) :
    Calls Tryd.prog 24 #[.int .i64 n] w fun e w' => e = .returned (.string ⟨(Lib.itoa n).toArray⟩) ∧ ∃ k os, w' = grow (w.drewN k) os := Any.strconv_Itoa Tryd.laysM171 n h0 h1 w htab
def Tryd.laysM173_ren : Go.Shelf.Ren := ⟨fun | 173 => 48 | 246 => 51 | 283 => 65 | 284 => 66 | 285 => 67 | 286 => 68 | 129 => 77 | 317 => 76 | 318 => 78 | 319 => 79 | 320 => 80 | 337 => 88 | 338 => 89 | n => n, fun | 2 => 2 | 3 => 3 | 9 => 9 | 4 => 4 | 171 => 103 | 0 => 0 | 53 => 104 | 37 => 81 | 5 => 5 | 173 => 107 | 212 => 123 | 51 => 124 | 20 => 20 | 213 => 125 | 46 => 126 | 232 => 139 | 233 => 140 | n => n, fun | 17 => 0 | 18 => 1 | 19 => 2 | n => n⟩
theorem Tryd.laysM173 : Go.Proofs.LaysM.n173 Tryd.prog Tryd.laysM173_ren := {
  mixed := by kernel_rfl
  f129 := Tryd.func77.trans (congrArg some (by kernel_rfl))
  f173 := Tryd.func48.trans (congrArg some (by kernel_rfl))
  f246 := Tryd.func51.trans (congrArg some (by kernel_rfl))
  f283 := Tryd.func65.trans (congrArg some (by kernel_rfl))
  f284 := Tryd.func66.trans (congrArg some (by kernel_rfl))
  f285 := Tryd.func67.trans (congrArg some (by kernel_rfl))
  f286 := Tryd.func68.trans (congrArg some (by kernel_rfl))
  f317 := Tryd.func76.trans (congrArg some (by kernel_rfl))
  f318 := Tryd.func78.trans (congrArg some (by kernel_rfl))
  f319 := Tryd.func79.trans (congrArg some (by kernel_rfl))
  f320 := Tryd.func80.trans (congrArg some (by kernel_rfl))
  f337 := Tryd.func88.trans (congrArg some (by kernel_rfl))
  f338 := Tryd.func89.trans (congrArg some (by kernel_rfl))
  t0 := Tryd.underlying0
  a0 := Tryd.isAgg0
  z0 := Tryd.sizeOf0
  v0 := Tryd.zeroValue0
  t2 := Tryd.underlying2
  a2 := Tryd.isAgg2
  z2 := Tryd.sizeOf2
  v2 := Tryd.zeroValue2
  t3 := Tryd.underlying3
  a3 := Tryd.isAgg3
  z3 := Tryd.sizeOf3
  v3 := Tryd.zeroValue3
  t4 := Tryd.underlying4
  a4 := Tryd.isAgg4
  z4 := Tryd.sizeOf4
  v4 := Tryd.zeroValue4
  t5 := Tryd.underlying5
  a5 := Tryd.isAgg5
  z5 := Tryd.sizeOf5
  v5 := Tryd.zeroValue5
  t9 := Tryd.underlying9
  a9 := Tryd.isAgg9
  z9 := Tryd.sizeOf9
  v9 := Tryd.zeroValue9
  t20 := Tryd.underlying20
  a20 := Tryd.isAgg20
  z20 := Tryd.sizeOf20
  v20 := Tryd.zeroValue20
  t37 := Tryd.underlying81
  a37 := Tryd.isAgg81
  z37 := Tryd.sizeOf81
  v37 := Tryd.zeroValue81
  t46 := Tryd.underlying126
  a46 := Tryd.isAgg126
  z46 := Tryd.sizeOf126
  v46 := Tryd.zeroValue126
  t51 := Tryd.underlying124
  a51 := Tryd.isAgg124
  z51 := Tryd.sizeOf124
  v51 := Tryd.zeroValue124
  t53 := Tryd.underlying104
  a53 := Tryd.isAgg104
  z53 := Tryd.sizeOf104
  v53 := Tryd.zeroValue104
  t171 := Tryd.underlying103
  a171 := Tryd.isAgg103
  z171 := Tryd.sizeOf103
  v171 := Tryd.zeroValue103
  t173 := Tryd.underlying107
  a173 := Tryd.isAgg107
  z173 := Tryd.sizeOf107
  v173 := Tryd.zeroValue107
  t212 := Tryd.underlying123
  a212 := Tryd.isAgg123
  z212 := Tryd.sizeOf123
  v212 := Tryd.zeroValue123
  t213 := Tryd.underlying125
  a213 := Tryd.isAgg125
  z213 := Tryd.sizeOf125
  t232 := Tryd.underlying139
  a232 := Tryd.isAgg139
  z232 := Tryd.sizeOf139
  v232 := Tryd.zeroValue139
  t233 := Tryd.underlying140
  a233 := Tryd.isAgg140
  z233 := Tryd.sizeOf140
  v233 := Tryd.zeroValue140
  g17 := by kernel_rfl
  g18 := by kernel_rfl
  g19 := by kernel_rfl
  i0 := by kernel_rfl
  i2 := by kernel_rfl
  i3 := by kernel_rfl
  i4 := by kernel_rfl
  i5 := by kernel_rfl
  i9 := by kernel_rfl
  i20 := by kernel_rfl
  i37 := by kernel_rfl
  i46 := by kernel_rfl
  i51 := by kernel_rfl
  i53 := by kernel_rfl
  i171 := by kernel_rfl
  i173 := by kernel_rfl
  i212 := by kernel_rfl
  i232 := by kernel_rfl
  i233 := by kernel_rfl
  m17 := by kernel_rfl
  m18 := by kernel_rfl
  m19 := by kernel_rfl }
open Go.RowKit Go.Sort Go.Lib in
theorem Tryd.strconv_FormatInt_10 (n : Int) (h0 : -9223372036854775808 ≤ n) (h1 : n ≤ 9223372036854775807) (w : World) (htab : Lib.TabIs Tryd.prog w "internal/strconv.uint64pow10" .u64 Lib.pow10Tab) :
    Calls Tryd.prog 48 #[.int .i64 n, .int .i64 10] w fun e w' => e = .returned (.string ⟨(Lib.itoa n).toArray⟩) ∧ ∃ k os, w' = grow (w.drewN k) os := Any.strconv_FormatInt_10 Tryd.laysM173 n h0 h1 w htab
def Tryd.lays260_ren : Go.Shelf.Ren := ⟨fun | 260 => 92 | n => n, fun | 9 => 9 | 21 => 21 | 3 => 3 | 4 => 4 | 5 => 5 | 119 => 141 | 0 => 0 | 46 => 126 | 139 => 144 | 138 => 143 | n => n, fun | 3 => 3 | 4 => 4 | n => n⟩
theorem Tryd.lays260 : Go.Proofs.Lays.n260 Tryd.prog Tryd.lays260_ren := {
  mixed := by kernel_rfl
  f260 := Tryd.func92.trans (congrArg some (by kernel_rfl))
  t0 := Tryd.underlying0
  a0 := Tryd.isAgg0
  z0 := Tryd.sizeOf0
  v0 := Tryd.zeroValue0
  t3 := Tryd.underlying3
  a3 := Tryd.isAgg3
  z3 := Tryd.sizeOf3
  v3 := Tryd.zeroValue3
  t4 := Tryd.underlying4
  a4 := Tryd.isAgg4
  z4 := Tryd.sizeOf4
  v4 := Tryd.zeroValue4
  t5 := Tryd.underlying5
  a5 := Tryd.isAgg5
  z5 := Tryd.sizeOf5
  v5 := Tryd.zeroValue5
  t9 := Tryd.underlying9
  a9 := Tryd.isAgg9
  z9 := Tryd.sizeOf9
  v9 := Tryd.zeroValue9
  t21 := Tryd.underlying21
  a21 := Tryd.isAgg21
  z21 := Tryd.sizeOf21
  v21 := Tryd.zeroValue21
  t46 := Tryd.underlying126
  a46 := Tryd.isAgg126
  z46 := Tryd.sizeOf126
  v46 := Tryd.zeroValue126
  t119 := Tryd.underlying141
  a119 := Tryd.isAgg141
  z119 := Tryd.sizeOf141
  t138 := Tryd.underlying143
  a138 := Tryd.isAgg143
  z138 := Tryd.sizeOf143
  v138 := Tryd.zeroValue143
  t139 := Tryd.underlying144
  a139 := Tryd.isAgg144
  z139 := Tryd.sizeOf144
  v139 := Tryd.zeroValue144
  g3 := by kernel_rfl
  g4 := by kernel_rfl }
def Tryd.laysNm231_ren : Go.Shelf.Ren := ⟨fun | 31 => 59 | 37 => 73 | n => n, fun | 3 => 3 | 4 => 4 | n => n, fun | n => n⟩
theorem Tryd.laysNm231 : Go.Proofs.Lays2.n31 Tryd.prog Tryd.laysNm231_ren := {
  mixed := by kernel_rfl
  f31 := Tryd.func59.trans (congrArg some (by kernel_rfl))
  f37 := Tryd.func73.trans (congrArg some (by kernel_rfl))
  t3 := Tryd.underlying3
  a3 := Tryd.isAgg3
  z3 := Tryd.sizeOf3
  v3 := Tryd.zeroValue3
  t4 := Tryd.underlying4
  a4 := Tryd.isAgg4
  z4 := Tryd.sizeOf4
  v4 := Tryd.zeroValue4 }
open Go.RowKit Go.Lib in
theorem Tryd.cmp_Less_int2 (x y : Int) (w : World) :
    Calls Tryd.prog 59 #[.int .i64 x, .int .i64 y] w fun e w' => e = .returned (.bool (decide (x < y))) ∧ w' = w := Any.cmp_Less_int2 Tryd.laysNm231 x y w
end Go.Proofs
end
section
namespace Go.Proofs.YtggldnbhmebcpaaDoor.L
open Go.RowKit Go.ChangeShapes Go.WideShapes Go.Proofs.YtggldnbhmebcpaaDoorW.PrintWords Go.Proofs.YtggldnbhmebcpaaDoorW.PrintLast Go.Proofs.YtggldnbhmebcpaaDoorW.PrintMore
attribute [local go_sem] max2_int min2_int max_two min_two max_three min_three max_four min_four
def iota (n : Nat) : List Int := (List.range n).map (fun p : Nat => (p : Int))
theorem iota_len (n : Nat) : (iota n).length = n := by simp [iota]
theorem iota_rd (n i : Nat) (h : i < n) : rd (iota n) (i : Int) = (i : Int) := by
  rw [rd_eq (by rw [iota_len]; exact h)]
  simp [iota]
set_option maxRecDepth 100000 in
set_option maxHeartbeats 2000000 in
theorem sorted_iota (A : Option Addr) (c n : Nat) (w : World) (h : (Kd.int .i64).C w A n (iota n)) (hn : n ≤ 1000000) :
    Calls Tryd.prog 45 #[.slice A n c] w fun e w' => e = .returned (.bool true) ∧ Below w.heap.size w w' := by
  have HR := Aside0.mk h
  have HB := Aside0.mk (Below.refl w.heap.size w)
  clear h
  go_enter Tryd.func45, Tryd.ntmps45
  go_wp2
  go_loopw [3] (fun v3 W => ∃ i : Int, -1 ≤ i ∧ i < n ∧ v3 = .int .i64 i ∧ Aside0 (Below w.heap.size w W)) (fun v3 _ => (intOf v3).toNat)
  case atStart => exact ⟨(n : Int) - 1, by omega, by omega, by go_num, HB⟩
  case round =>
    obtain ⟨i, h0, h1, rfl, HW⟩ := hrel
    by_cases hp : 0 < i
    · obtain ⟨j, rfl⟩ : ∃ j : Nat, i = (j : Int) + 1 := ⟨(i - 1).toNat, by omega⟩
      have HRw := Aside0.mk (Kd.C_below HR.out HW.out)
      obtain ⟨ad, rfl, x0⟩ := at_nat HRw.out j (by omega)
      obtain ⟨ad', he, x1⟩ := at_nat HRw.out (j + 1) (by omega)
      injection he with he
      subst he
      rw [iota_rd n j (by omega)] at x0
      rw [iota_rd n (j + 1) (by omega)] at x1
      have d1 : decide ((j : Int) + 1 < (j : Int)) = false := decide_eq_false (by omega)
      have hw1 : IntKind.i64.wrap ((j : Int) + 1 - 1) = (j : Int) := by rw [wrap_i (by omega) (by omega)]; omega
      push_cast at x1
      replace x1 : wr.cell? ⟨ad.block, ad.off + (j + 1), none⟩ = some (.int .i64 ((j : Int) + 1)) := x1
      have b1 : (0 : Int) ≤ (j : Int) + 1 := by omega
      have b2 : (j : Int) + 1 < (n : Int) := by omega
      have b3 : (j : Int) < (n : Int) := by omega
      have d0 : decide (0 < (j : Int) + 1) = true := decide_eq_true (by omega)
      go_wp2
      go_quiet (first | (go_at_call 59; refine Calls.quiet_of_same (Tryd.cmp_Less_int2 _ _ _)))
      go_wp2
      go_roundw
      case rel => exact ⟨(j : Int), by omega, by omega, by go_num, ⟨below_step HW.out (pw_below_drewN (Below.refl _ _) nq)⟩⟩
      case measure => simp [intOf]
    · have d : decide (0 < i) = false := decide_eq_false hp
      go_wp2
      go_ret
      exact ⟨rfl, HW.out⟩

noncomputable def isC (s : Scene) : Bool := decide (nums s = iota (nums s).length ∧ 0 < (nums s).length)
theorem iota_of {l : List Int} (h : ∀ j : Nat, j < l.length → rd l (j : Int) = (j : Int)) : l = iota l.length := by
  refine List.ext_getElem (iota_len _).symm (fun i h1 h2 => ?_)
  rw [← rd_eq h1, ← rd_eq h2, h i h1, iota_rd _ _ h1]
theorem isC_bad {s : Scene} {i : Nat} (hi : i < (nums s).length) (h : ¬ rd (nums s) (i : Int) = (i : Int)) : isC s = false := by
  unfold isC
  refine decide_eq_false (fun hh => h ?_)
  rw [hh.1, iota_rd _ _ hi]
set_option maxRecDepth 100000 in
set_option maxHeartbeats 4000000 in
theorem is_any (A : Option Addr) (c : Nat) (s : Scene) (w : World) (h : kNode.C w A s.nodes.length s.nodes) (hM : rows s.nodes ≤ 400000) :
    Calls Tryd.prog 36 #[.agg #[.slice A s.nodes.length c, .int .i64 s.root]] w fun e w' => e = .returned (.bool (isC s)) ∧ Below w.heap.size w w' := by
  have HR := Aside0.mk h
  have HM := Aside0.mk hM
  have b0 := h.2.1
  have HB := Aside0.mk (below_alloc (Below.refl w.heap.size w) (.cells #[.slice A s.nodes.length c, .int .i64 s.root] 24))
  have k0 := box_cell w _ rfl #[.slice A s.nodes.length c, .int .i64 s.root] 24 0 _ rfl
  have k1 := box_cell w _ rfl #[.slice A s.nodes.length c, .int .i64 s.root] 24 1 _ rfl
  have hu := Tryd.underlying24
  have hnl : (nums s).length ≤ 400000 := by
    unfold nums
    split
    · rw [numsL_len]; exact Nat.le_trans (len_rows _) hM
    · simp
  clear h hM
  go_enter Tryd.func36, Tryd.ntmps36
  go_wp2_with fail
  refine (numbers_canon A c s _ (Kd.C_below HR.out HB.out) HM.out).mono ?_
  rintro e w1 ⟨A1, c1, rfl, hR1, hB1⟩
  have HB1 := Aside0.mk (below_step HB.out hB1)
  have HR1 := Aside0.mk (Kd.R_reads' hR1).2.2
  clear hB1 hR1 k0 k1
  go_wp2
  go_loopw [10] (fun v10 W => ∃ i : Nat, i ≤ (nums s).length ∧ v10 = .int .i64 i ∧ Aside0 (∀ j : Nat, j < i → rd (nums s) (j : Int) = (j : Int)) ∧ W = w1) (fun v10 _ => (nums s).length - (intOf v10).toNat)
  case atStart => exact ⟨0, by omega, rfl, ⟨fun j h => by omega⟩, rfl⟩
  case round =>
    obtain ⟨i, hi, rfl, HI, rfl⟩ := hrel
    by_cases hlt : i < (nums s).length
    · obtain ⟨ad, rfl, x⟩ := at_nat HR1.out i hlt
      by_cases he : rd (nums s) (i : Int) = (i : Int)
      · have HN := Aside0.mk (ext_lt HI.out he)
        rw [he] at x
        clear he
        go_wp2
        go_roundw
        case rel => exact ⟨i + 1, by omega, by go_num, HN, by first | rfl | trivial⟩
        case measure => simp [intOf]; omega
      · have HE := Aside0.mk (isC_bad hlt he)
        have d : ((i : Int) != rd (nums s) (i : Int)) = true := by simpa using fun h => he h.symm
        clear he
        go_wp2
        go_ret
        exact ⟨ret_bool HE.out.symm, HB1.out⟩
    · obtain rfl : i = (nums s).length := by omega
      have HE := Aside0.mk (iota_of HI.out)
      by_cases hp : 0 < (nums s).length
      · have HC := Aside0.mk (show isC s = true from decide_eq_true ⟨HE.out, hp⟩)
        have d : decide (0 < ((nums s).length : Int)) = true := decide_eq_true (by omega)
        have HI2 := Aside0.mk (show (Kd.int .i64).C wr A1 (nums s).length (iota (nums s).length) from HE.out ▸ HR1.out)
        clear HI
        go_wp2_with fail
        refine (sorted_iota A1 c1 _ _ HI2.out (by omega)).mono ?_
        rintro e w2 ⟨rfl, hB2⟩
        go_wp2
        go_ret
        exact ⟨ret_bool HC.out.symm, below_step HB1.out hB2⟩
      · have HC := Aside0.mk (show isC s = false from decide_eq_false (fun h => hp h.2))
        have d : decide (0 < ((nums s).length : Int)) = false := decide_eq_false (by omega)
        clear HI
        go_wp2
        go_ret
        exact ⟨ret_bool HC.out.symm, HB1.out⟩
end Go.Proofs.YtggldnbhmebcpaaDoor.L
end
section
namespace Go.Proofs.YtggldnbhmebcpaaDoor.L
open Go.RowKit Go.ChangeShapes Go.WideShapes Go.Proofs.YtggldnbhmebcpaaDoorW.PrintWords Go.Proofs.YtggldnbhmebcpaaDoorW.PrintLast Go.Proofs.YtggldnbhmebcpaaDoorW.PrintMore
attribute [local go_sem] max2_int min2_int max_two min_two max_three min_three max_four min_four
theorem kNode_mkM {w : World} {base : Nat} {ok : Nat → Prop} {n : Node} {v1 v2 v3 : Value} (h1 : (Kd.int .i64).R 2 w base ok v1 n.ints) (h2 : Kd.string.R 9 w base ok v2 n.texts) (h3 : (Kd.int .i64).R 3 w base ok v3 n.kids) :
    kNode.M w base ok n [.int .i64 n.kind, v1, v2, v3] := ⟨[_], [v1, v2, v3], rfl, rfl, ⟨[v1], [v2, v3], rfl, ⟨v1, rfl, h1⟩, ⟨[v2], [v3], rfl, ⟨v2, rfl, h2⟩, ⟨v3, rfl, h3⟩⟩⟩⟩
theorem kNode_openM {w : World} {base : Nat} {ok : Nat → Prop} {n : Node} {cs : List Value} (h : kNode.M w base ok n cs) : ∃ v1 v2 v3, cs = [.int .i64 n.kind, v1, v2, v3] ∧ (Kd.int .i64).R 2 w base ok v1 n.ints ∧ Kd.string.R 9 w base ok v2 n.texts ∧ (Kd.int .i64).R 3 w base ok v3 n.kids := by
  obtain ⟨_, _, rfl, rfl, ⟨_, _, rfl, ⟨v1, rfl, h1⟩, ⟨_, _, rfl, ⟨v2, rfl, h2⟩, ⟨v3, rfl, h3⟩⟩⟩⟩ := h
  exact ⟨v1, v2, v3, rfl, h1, h2, h3⟩
def Small (n : Node) : Prop := n.ints.length ≤ 1000000 ∧ n.texts.length ≤ 1000000 ∧ n.kids.length ≤ 1000000
def IsNodeM (base : Nat) (n : Node) (v : Value) (w : World) : Prop := ∃ v1 v2 v3, v = .agg #[.int .i64 n.kind, v1, v2, v3] ∧ kNode.M w base (fun _ => True) n [.int .i64 n.kind, v1, v2, v3]
def CopyPost (n : Node) (w : World) (e : Ending) (w' : World) : Prop := ∃ v, e = .returned v ∧ IsNodeM w.heap.size n v w' ∧ Below w.heap.size w w'
set_option maxRecDepth 100000 in
set_option maxHeartbeats 400000 in
theorem copy_any (n : Node) (A1 : Option Addr) (c1 : Nat) (A2 : Option Addr) (c2 : Nat) (A3 : Option Addr) (c3 : Nat) (w : World) (h : NodeC w n A1 c1 A2 c2 A3 c3) (hs : Small n) :
    Calls Tryd.prog 46 #[.agg #[.int .i64 n.kind, .slice A1 n.ints.length c1, .slice A2 n.texts.length c2, .slice A3 n.kids.length c3]] w (CopyPost n w) := by
  have HN := Aside0.mk h
  have HS := Aside0.mk hs
  have HB := Aside0.mk (Below.refl w.heap.size w)
  clear h hs
  have HL := Aside0.mk (show Lives 4 (w.heap.size + 1) ((w.alloc (Obj.cells #[.int .i64 n.kind, .slice A1 n.ints.length c1, .slice A2 n.texts.length c2, .slice A3 n.kids.length c3] 46)).alloc (Obj.cells #[Value.int IntKind.i64 0, Value.slice none 0 0, Value.slice none 0 0, Value.slice none 0 0] 46)) from by
    have := Lives.new (w.alloc (Obj.cells #[.int .i64 n.kind, .slice A1 n.ints.length c1, .slice A2 n.texts.length c2, .slice A3 n.kids.length c3] 46)) #[Value.int IntKind.i64 0, Value.slice none 0 0, Value.slice none 0 0, Value.slice none 0 0] 46
    simpa using this)
  have HBa := Aside0.mk (below_alloc (below_alloc HB.out (Obj.cells #[.int .i64 n.kind, .slice A1 n.ints.length c1, .slice A2 n.texts.length c2, .slice A3 n.kids.length c3] 46)) (Obj.cells #[Value.int IntKind.i64 0, Value.slice none 0 0, Value.slice none 0 0, Value.slice none 0 0] 46))
  have hu := Tryd.underlying46
  have hL0 := fun (W : World) (h : Lives 4 (w.heap.size + 1) W) => h.at 0 (by omega)
  have hL1 := fun (W : World) (h : Lives 4 (w.heap.size + 1) W) => h.at 1 (by omega)
  have hL2 := fun (W : World) (h : Lives 4 (w.heap.size + 1) W) => h.at 2 (by omega)
  have hL3 := fun (W : World) (h : Lives 4 (w.heap.size + 1) W) => h.at 3 (by omega)
  go_enter Tryd.func46, Tryd.ntmps46
  go_wp2_with fail
  go_region_held3 (fun W => W.cell? ⟨w.heap.size, 0, none⟩ = some (.int .i64 n.kind) ∧ W.cell? ⟨w.heap.size, 1, none⟩ = some (.slice A1 n.ints.length c1) ∧ W.cell? ⟨w.heap.size, 2, none⟩ = some (.slice A2 n.texts.length c2) ∧ W.cell? ⟨w.heap.size, 3, none⟩ = some (.slice A3 n.kids.length c3) ∧ Lives 4 (w.heap.size + 1) W)
    (first
      | (go_split_ands
         refine ⟨?_, ?_, ?_, ?_, ?_⟩
         all_goals first
           | with_reducible exact HL.out
           | with_reducible exact pw_cell_below hB (by assumption)
           | with_reducible exact Lives.below (by assumption) hB
           | with_reducible exact far_set (far_set (far_set (far_set (by assumption) _ _ (by simp) _) _ _ (by simp) _) _ _ (by simp) _) _ _ (by simp) _
           | with_reducible exact Lives.set (Lives.set (Lives.set (Lives.set (by assumption) _ _) _ _) _ _) _ _
           | (simp; done)
           | exact HL.out))
    (first
      | (go_at_call 60; refine (clone_i64 A1 c1 n.ints _ ?_ ?_).mono ?_; (exact Kd.C_below HN.out.i (below_drew HBa.out)); (exact Nat.le_trans HS.out.1 (by omega)); rintro e w1 ⟨B1, d1, rfl, hR1, hB1⟩; have HB1 := Aside0.mk (below_step (below_drew HBa.out) hB1); have hB := hB1)
      | (go_at_call 61; refine (clone_str A2 c2 n.texts _ ?_ ?_).mono ?_; (exact Kd.C_below HN.out.t HB1.out); (exact Nat.le_trans HS.out.2.1 (by omega)); rintro e w2 ⟨B2, d2, rfl, hR2, hB2⟩; have HB2 := Aside0.mk (below_step HB1.out hB2); have hB := hB2)
      | (go_at_call 62; refine (clone_int A3 c3 n.kids _ ?_ ?_).mono ?_; (exact Kd.C_below HN.out.k HB2.out); (exact Nat.le_trans HS.out.2.2 (by omega)); rintro e w3 ⟨B3, d3, rfl, hR3, hB3⟩; have HB3 := Aside0.mk (below_step HB2.out hB3); have hB := hB3))
  have HSz := Aside0.mk (show w.heap.size + 2 ≤ w1.heap.size from by have := hB1.size; simpa using this)
  have HSz2 := Aside0.mk hB2.size
  have HR1 := Aside0.mk (Kd.R_below (Kd.R_below hR1 hB2) hB3)
  have HR2 := Aside0.mk (Kd.R_below hR2 hB3)
  have HR3 := Aside0.mk hR3
  have HLv := Aside0.mk (Lives.below (Lives.below (Lives.below (Lives.drew HL.out) hB1) hB2) hB3)
  clear hB hB1 hB2 hB3 hR1 hR2 hR3 hL0 hL1 hL2 hL3
  go_wp2
  have h4 := HLv.out.set4 (.int .i64 n.kind) (.slice B1 n.ints.length d1) (.slice B2 n.texts.length d2) (.slice B3 n.kids.length d3)
  exact bodyPost_ret (v := .agg #[.int .i64 n.kind, .slice B1 n.ints.length d1, .slice B2 n.texts.length d2, .slice B3 n.kids.length d3]) (by simp [results, Tryd.results46, go_sem, h4]) rfl
    ⟨_, rfl, ⟨_, _, _, rfl, kNode_mkM (Kd.R_lower (R_old4 HR1.out (by simp) _ _ _ _) (by simp; omega)) (Kd.R_lower (R_old4 HR2.out (by have := HSz.out; omega) _ _ _ _) (by have := HSz.out; omega)) (Kd.R_lower (R_old4 HR3.out (by have := HSz.out; have := HSz2.out; omega) _ _ _ _) (by have := HSz.out; have := HSz2.out; omega))⟩, below_set4 HB3.out (by omega)⟩
end Go.Proofs.YtggldnbhmebcpaaDoor.L
end
section
namespace Go.Proofs.YtggldnbhmebcpaaDoor.L
open Go.RowKit Go.ChangeShapes Go.WideShapes Go.Proofs.YtggldnbhmebcpaaDoorW.PrintWords Go.Proofs.YtggldnbhmebcpaaDoorW.PrintLast Go.Proofs.YtggldnbhmebcpaaDoorW.PrintMore
attribute [local go_sem] max2_int min2_int max_two min_two max_three min_three max_four min_four
def relab (s : Scene) (n : Node) : Node := ⟨n.kind, n.ints, n.texts, n.kids.map (fun k => (idx s k : Int))⟩
def canonL (s : Scene) : List Node := (ord s).map (fun a => relab s (nd s.nodes a.toNat))
theorem info_nodez : (Tryd.prog.info? 46).map (fun i => (i.zero, i.size, i.bytes)) = some (some (.agg #[.int .i64 0, .slice none 0 0, .slice none 0 0, .slice none 0 0]), 4, 80) := by kernel_rfl
theorem box2 {W : World} {b : Nat} {x0 x1 : Value} {T : TypeId} (h : W.heap[b]? = some (.cells #[x0, x1] T (0, 0))) (u0 u1 : Value) : ((W.setCell ⟨b, 0, none⟩ u0).setCell ⟨b, 1, none⟩ u1).heap[b]? = some (.cells #[u0, u1] T (0, 0)) := by
  have := blk_set (blk_set h 0 u0) 1 u1
  simpa using this
theorem box4 {W : World} {b : Nat} {x0 x1 x2 x3 : Value} {T : TypeId} (h : W.heap[b]? = some (.cells #[x0, x1, x2, x3] T (0, 0))) (u0 u1 u2 u3 : Value) : ((((W.setCell ⟨b, 0, none⟩ u0).setCell ⟨b, 1, none⟩ u1).setCell ⟨b, 2, none⟩ u2).setCell ⟨b, 3, none⟩ u3).heap[b]? = some (.cells #[u0, u1, u2, u3] T (0, 0)) := by
  have := blk_set (blk_set (blk_set (blk_set h 0 u0) 1 u1) 2 u2) 3 u3
  simpa using this
theorem set_grown (W : World) (b i : Nat) (u : Value) : W.grownBy (W.setCell ⟨b, i, none⟩ u) (some b) := ⟨rfl, rfl, rfl, by simp, fun k _ hk => Below.heap_setCell W ⟨b, i, none⟩ u k (fun e => hk (by rw [e]))⟩
theorem R_type {α : Type} {d : Kd α} {e base : Nat} {ok : Nat → Prop} {W : World} {v : Value} {xs : List α} {g : Nat} {cells : Array Value} {T : TypeId} (h : d.R e W base ok v xs) (hb : W.heap[g]? = some (.cells cells T (0, 0))) (hT : ¬ T ∈ e :: d.E) (u : Value) (i : Nat) : d.R e (W.setCell ⟨g, i, none⟩ u) base ok v xs :=
  Kd.R_mono (Kd.R_grown (Kd.R_bound h) (set_grown W g i u) (fun k hk he => by
    injection he with he
    obtain ⟨_, _, _, q, hq, cs, hc⟩ := hk
    subst he
    rw [hb] at hc
    injection hc with hc
    injection hc with _ hc
    subst hc
    exact hT hq)) (fun _ hk => hk.1)
theorem below_set2 {B b : Nat} {w W : World} {u0 u1 : Value} (h : Below B w W) (hb : B ≤ b) : Below B w ((W.setCell ⟨b, 0, none⟩ u0).setCell ⟨b, 1, none⟩ u1) := (h.setCell (p := ⟨b, 0, none⟩) hb u0).setCell (p := ⟨b, 1, none⟩) hb u1
structure CanRel (s : Scene) (w : World) (A2 : Option Addr) (c2 gs gn i : Nat) (l : List Node) (W : World) : Prop where
  len : l.length = s.nodes.length
  at_ : ∀ p : Nat, p < i → p < s.nodes.length → nd l (idx s (p : Int)) = relab s (nd s.nodes p)
  box : W.heap[gs]? = some (.cells #[.slice (some ⟨gn, 0, none⟩) s.nodes.length s.nodes.length, .int .i64 ((s.nodes.length : Int) - 1)] 24 (0, 0))
  row : kNode.R 46 W w.heap.size (fun _ => True) (.slice (some ⟨gn, 0, none⟩) s.nodes.length s.nodes.length) l
  num : (Kd.int .i64).R 3 W w.heap.size (fun _ => True) (.slice A2 s.nodes.length c2) (numsL s)
  res : W.heap[w.heap.size + 1]? = some (.cells #[.slice none 0 0, .int .i64 0] 24 (0, 0))
  lt : w.heap.size + 1 < W.heap.size
  below : Below w.heap.size w W
theorem CanRel.start {s : Scene} {w W : World} {A2 : Option Addr} {c2 gs gn : Nat} (hb : W.heap[gs]? = some (.cells #[.slice none 0 0, .int .i64 0] 24 (0, 0))) (hne : gs ≠ w.heap.size + 1) (hge : w.heap.size ≤ gs)
    (hr : kNode.R 46 W w.heap.size (fun _ => True) (.slice (some ⟨gn, 0, none⟩) s.nodes.length s.nodes.length) (List.replicate s.nodes.length nodez)) (hn : (Kd.int .i64).R 3 W w.heap.size (fun _ => True) (.slice A2 s.nodes.length c2) (numsL s))
    (hl : W.heap[w.heap.size + 1]? = some (.cells #[.slice none 0 0, .int .i64 0] 24 (0, 0))) (hB : Below w.heap.size w W) :
    CanRel s w A2 c2 gs gn 0 (List.replicate s.nodes.length nodez) ((W.setCell ⟨gs, 0, none⟩ (.slice (some ⟨gn, 0, none⟩) s.nodes.length s.nodes.length)).setCell ⟨gs, 1, none⟩ (.int .i64 ((s.nodes.length : Int) - 1))) := by
  have h1 := R_type hr hb (by decide) (.slice (some ⟨gn, 0, none⟩) s.nodes.length s.nodes.length) 0
  have h1' := R_type h1 (blk_set hb 0 _) (by decide) (.int .i64 ((s.nodes.length : Int) - 1)) 1
  have h2 := R_type hn hb (by decide) (.slice (some ⟨gn, 0, none⟩) s.nodes.length s.nodes.length) 0
  have h2' := R_type h2 (blk_set hb 0 _) (by decide) (.int .i64 ((s.nodes.length : Int) - 1)) 1
  refine ⟨by simp, fun p h => by omega, box2 hb _ _, h1', h2', ?_, ?_, below_set2 hB hge⟩
  · rw [Below.heap_setCell _ _ _ _ (Ne.symm hne), Below.heap_setCell _ _ _ _ (Ne.symm hne)]; exact hl
  · have := blk_lt hl
    simpa using this
section
variable {s : Scene} {w W W1 : World} {A2 : Option Addr} {c2 gs gn i : Nat} {l : List Node}
theorem CanRel.later (h : CanRel s w A2 c2 gs gn i l W) (hb : Below W.heap.size W W1) : CanRel s w A2 c2 gs gn i l W1 :=
  ⟨h.len, h.at_, (hb.block gs (blk_lt h.box)).trans h.box, Kd.R_below h.row hb, Kd.R_below h.num hb, (hb.block _ h.lt).trans h.res, Nat.lt_of_lt_of_le h.lt hb.size, below_step h.below hb⟩
theorem CanRel.drew (h : CanRel s w A2 c2 gs gn i l W) : CanRel s w A2 c2 gs gn i l W.drew := h.later (pw_below_drewN (Below.refl _ _) 1)
theorem nd_set (l : List Node) (i j : Nat) (n : Node) (h : i < l.length) : nd (l.set i n) j = if j = i then n else nd l j := by
  unfold nd
  rw [List.getD_eq_getElem?_getD, List.getD_eq_getElem?_getD, List.getElem?_set]
  by_cases e : j = i
  · subst e; rw [if_pos rfl, if_pos rfl, if_pos h]; rfl
  · rw [if_neg e, if_neg (fun h => e h.symm)]
theorem idx_inj {s : Scene} (hr : Right s) {p q : Nat} (hp : p < s.nodes.length) (hq : q < s.nodes.length) (h : idx s (p : Int) = idx s (q : Int)) : p = q := by
  have h1 := (at_idx hr hp).2
  have h2 := (at_idx hr hq).2
  rw [h] at h1
  rw [h1] at h2
  omega
theorem CanRel.put (hr : Right s) (h : CanRel s w A2 c2 gs gn i l W) (hi : i < s.nodes.length) {B : Nat} {v1 v2 v3 : Value} (hM : kNode.M W B (fun _ => True) (relab s (nd s.nodes i)) [.int .i64 (nd s.nodes i).kind, v1, v2, v3]) (hB : gn < B) (hwB : w.heap.size ≤ B) :
    CanRel s w A2 c2 gs gn (i + 1) (l.set (idx s (i : Int)) (relab s (nd s.nodes i))) ((((W.setCell ⟨gn, idx s (i : Int) * 4, none⟩ (.int .i64 (nd s.nodes i).kind)).setCell ⟨gn, idx s (i : Int) * 4 + 1, none⟩ v1).setCell ⟨gn, idx s (i : Int) * 4 + 2, none⟩ v2).setCell ⟨gn, idx s (i : Int) * 4 + 3, none⟩ v3) := by
  have hp := (at_idx hr hi).1
  obtain ⟨c, hcl, _, hcc, _⟩ := R_elemN h.row nodez (idx s (i : Int)) hp
  have hM' : kNode.M W w.heap.size (fun k => True ∧ B ≤ k) (relab s (nd s.nodes i)) [.int .i64 (nd s.nodes i).kind, v1, v2, v3] := by
    obtain ⟨x1, x2, x3, e, h1, h2, h3⟩ := kNode_openM hM
    injection e with _ e
    injection e with e1 e
    injection e with e2 e
    injection e with e3 _
    subst e1 e2 e3
    exact kNode_mkM (Kd.R_lower (Kd.R_mono (Kd.R_bound h1) (fun k hk => ⟨trivial, hk.2.1⟩)) hwB) (Kd.R_lower (Kd.R_mono (Kd.R_bound h2) (fun k hk => ⟨trivial, hk.2.1⟩)) hwB) (Kd.R_lower (Kd.R_mono (Kd.R_bound h3) (fun k hk => ⟨trivial, hk.2.1⟩)) hwB)
  obtain ⟨hs, hg⟩ := R_segN h.row (idx s (i : Int)) hp (seg := [.int .i64 (nd s.nodes i).kind, v1, v2, v3]) (j := 0) hcl hcc (Nat.le_refl 4) (x' := relab s (nd s.nodes i)) (okp := fun k => True ∧ B ≤ k)
    (by
      have hc4 : c.length = 4 := hcl
      rw [List.take_zero, List.drop_eq_nil_of_le (by simp [hc4])]
      exact hM') (fun k hk => ⟨trivial, by have := hk.2; omega⟩)
  have e : W.setCells gn (idx s (i : Int) * kNode.sz + 0) [.int .i64 (nd s.nodes i).kind, v1, v2, v3] = (((W.setCell ⟨gn, idx s (i : Int) * 4, none⟩ (.int .i64 (nd s.nodes i).kind)).setCell ⟨gn, idx s (i : Int) * 4 + 1, none⟩ v1).setCell ⟨gn, idx s (i : Int) * 4 + 2, none⟩ v2).setCell ⟨gn, idx s (i : Int) * 4 + 3, none⟩ v3 := rfl
  rw [e] at hs hg
  obtain ⟨cells, hc⟩ := Kd.R_typed h.row gn rfl
  have hgw := Kd.R_base h.row gn rfl
  refine ⟨by simpa using h.len, fun p hpi hpn => ?_, blk_grown h.box hg (fun e => ?_), hs, Kd.R_grown1 h.num rfl hg (Kd.R_ne h.num hc (by decide)), ?_, ?_, h.below.grown hg h.below.size (fun q hq => by injection hq with hq; omega)⟩
  · rw [nd_set _ _ _ _ (by rw [h.len]; exact hp)]
    by_cases e : p = i
    · subst e; rw [if_pos rfl]
    · rw [if_neg (fun e2 => e (idx_inj hr hpn hi e2))]
      exact h.at_ p (by omega) hpn
  · injection e with e; subst e; rw [h.box] at hc; cases hc
  · refine blk_grown h.res hg (fun e => ?_)
    injection e with e; rw [← e, h.res] at hc; cases hc
  · exact Nat.lt_of_lt_of_le h.lt hg.size
theorem CanRel.done (hr : Right s) (h : CanRel s w A2 c2 gs gn s.nodes.length l W) : l = canonL s := by
  have hl : (canonL s).length = s.nodes.length := by unfold canonL; rw [List.length_map, ord_len hr]
  refine List.ext_getElem (by rw [h.len, hl]) (fun q h1 h2 => ?_)
  have hq : q < s.nodes.length := by rw [← h.len]; exact h1
  obtain ⟨p, hp, hpn⟩ := ord_at hr hq
  have h3 := h.at_ p hpn hpn
  have h4 := idx_at hr hq
  rw [hp] at h4
  rw [h4] at h3
  unfold nd at h3
  rw [getD_eq _ h1] at h3
  have h5 : (canonL s)[q] = relab s (nd s.nodes (rd (ord s) (q : Int)).toNat) := by
    have h6 : (canonL s)[q]? = some (relab s (nd s.nodes (rd (ord s) (q : Int)).toNat)) := by
      unfold canonL
      have h7 : q < (ord s).length := by rw [ord_len hr]; exact hq
      rw [List.getElem?_map, List.getElem?_eq_getElem h7, rd_eq h7]
      rfl
    exact Option.some.inj ((List.getElem?_eq_getElem h2).symm.trans h6)
  rw [h3, h5, hp, Int.toNat_natCast]
  rfl
end
end Go.Proofs.YtggldnbhmebcpaaDoor.L
end
section
namespace Go.Proofs.YtggldnbhmebcpaaDoor.L
open Go.RowKit Go.ChangeShapes Go.WideShapes Go.Proofs.YtggldnbhmebcpaaDoorW.PrintWords Go.Proofs.YtggldnbhmebcpaaDoorW.PrintLast Go.Proofs.YtggldnbhmebcpaaDoorW.PrintMore
attribute [local go_sem] max2_int min2_int max_two min_two max_three min_three max_four min_four
def Tabs (w : World) : Prop := Lib.Utf8Tabs 3 4 w
theorem Tabs.below {w w' : World} (h : Tabs w) (hb : Below w.heap.size w w') : Tabs w' := Utf8Tabs_below h hb
end Go.Proofs.YtggldnbhmebcpaaDoor.L
end
