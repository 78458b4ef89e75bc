/- Part 5 of the texts that YtdfneldenipljaaDoorRowCP rests on, joined by a program: what its functions come to. Conditions: those that each theorem states. -/
import Derived.Test.YtdfneldenipljaaDoorQcd
import Derived.Shelf.RegionOpenPlain
import Derived.Lib.Strings
import Derived.Lib.Slices
import Derived.Lib.Walk
import Derived.Lib.Builder
import Derived.Lib.AppendStr
import Derived.Lib.UnsafeStr
import Derived.Laws.Externs
import Derived.Laws.IdiomCopy
import Derived.Shelf.Unicode.DecodeSlow
set_option linter.unusedVariables false
set_option linter.unusedSimpArgs false
section
namespace Go.Proofs.YtdfneldenipljaaDoor.L
open Go.RowKit Go.ChangeShapes Go.WideShapes Go.Proofs.YtdfneldenipljaaDoorW.PrintWords Go.Proofs.YtdfneldenipljaaDoorW.PrintLast Go.Proofs.YtdfneldenipljaaDoorW.PrintMore
attribute [local go_sem] max2_int min2_int max_two min_two max_three min_three max_four min_four
def nodeW (T : Lib.PrintTabs) (n : Node) (own : List Int) : List UInt8 := wordL T n.kind n.ints n.texts (n.kids.map (rd own))
theorem nodeW_inj (T : Lib.PrintTabs) {n m : Node} {o p : List Int} : nodeW T n o = nodeW T m p ↔ (n.kind = m.kind ∧ n.ints = m.ints ∧ n.texts = m.texts ∧ n.kids.map (rd o) = m.kids.map (rd p)) := by
  unfold nodeW
  exact word_inj T
def addW (vs : List (List UInt8)) (x : List UInt8) : List (List UInt8) := if x ∈ vs then vs else vs ++ [x]
theorem addW_in (vs : List (List UInt8)) (x : List UInt8) : x ∈ addW vs x := by
  unfold addW
  split
  · assumption
  · simp
theorem addW_pre (vs : List (List UInt8)) (x : List UInt8) : vs <+: addW vs x := by
  unfold addW
  split
  · exact List.prefix_refl _
  · exact List.prefix_append _ _
theorem addW_mem {vs : List (List UInt8)} {x y : List UInt8} (h : y ∈ addW vs x) : y ∈ vs ∨ y = x := by
  unfold addW at h
  split at h
  · exact .inl h
  · simpa using h
theorem addW_nodup {vs : List (List UInt8)} (h : vs.Nodup) (x : List UInt8) : (addW vs x).Nodup := by
  unfold addW
  split
  · exact h
  · rename_i hx
    refine List.nodup_append.2 ⟨h, by simp, fun a ha b hb => ?_⟩
    rw [List.mem_singleton.1 hb]
    exact fun e => hx (e ▸ ha)
theorem wix_pre {vs us : List (List UInt8)} {x : List UInt8} (h : vs <+: us) (hx : x ∈ vs) : us.idxOf x = vs.idxOf x := by
  obtain ⟨t, rfl⟩ := h
  rw [List.idxOf_append, if_pos hx]
theorem wix_lt {vs : List (List UInt8)} {x : List UInt8} (h : x ∈ vs) : vs.idxOf x < vs.length := List.idxOf_lt_length_iff.2 h
theorem wix_inj {vs : List (List UInt8)} {x y : List UInt8} (hx : x ∈ vs) (hy : y ∈ vs) (h : vs.idxOf x = vs.idxOf y) : x = y := by
  have h1 := List.getElem_idxOf (wix_lt hx)
  have h2 := List.getElem_idxOf (wix_lt hy)
  rw [← h1, ← h2]
  simp only [h]
def numStep (T : Lib.PrintTabs) (st : List (List UInt8) × List Int) (n : Node) : List (List UInt8) × List Int :=
  (addW st.1 (nodeW T n st.2), st.2 ++ [((addW st.1 (nodeW T n st.2)).idxOf (nodeW T n st.2) : Int)])
def ownS (T : Lib.PrintTabs) (vs : List (List UInt8)) (ns : List Node) : List (List UInt8) × List Int := ns.foldl (numStep T) (vs, [])
def allS (T : Lib.PrintTabs) (l : List Scene) : List (List UInt8) × List (List Int) := l.foldl (fun st s => ((ownS T st.1 s.nodes).1, st.2 ++ [(ownS T st.1 s.nodes).2])) ([], [])
def AheadN (ns : List Node) : Prop := ∀ p : Nat, p < ns.length → ∀ k ∈ (nd ns p).kids, 0 ≤ k ∧ k < (p : Int)
structure Numd (T : Lib.PrintTabs) (vs : List (List UInt8)) (ns : List Node) (own : List Int) : Prop where
  len : own.length = ns.length
  mem : ∀ j : Nat, j < ns.length → nodeW T (nd ns j) own ∈ vs
  num : ∀ j : Nat, j < ns.length → rd own (j : Int) = (vs.idxOf (nodeW T (nd ns j) own) : Int)
theorem Numd.pre {T : Lib.PrintTabs} {vs us : List (List UInt8)} {ns : List Node} {own : List Int} (h : Numd T vs ns own) (hp : vs <+: us) : Numd T us ns own :=
  ⟨h.len, fun j hj => hp.subset (h.mem j hj), fun j hj => by rw [h.num j hj, wix_pre hp (h.mem j hj)]⟩
theorem rd_app {a b : List Int} {k : Int} (h0 : 0 ≤ k) (h : k < (a.length : Int)) : rd (a ++ b) k = rd a k := by
  unfold rd
  rw [List.getD_eq_getElem?_getD, List.getD_eq_getElem?_getD, List.getElem?_append_left (by omega)]
theorem nodeW_app (T : Lib.PrintTabs) {n : Node} {a b : List Int} (h : ∀ k ∈ n.kids, 0 ≤ k ∧ k < (a.length : Int)) : nodeW T n (a ++ b) = nodeW T n a :=
  (nodeW_inj T).2 ⟨rfl, rfl, rfl, List.map_congr_left fun k hk => rd_app (h k hk).1 (h k hk).2⟩
theorem nd_snoc_lt {l : List Node} {x : Node} {j : Nat} (h : j < l.length) : nd (l ++ [x]) j = nd l j := by
  unfold nd
  rw [List.getD_eq_getElem?_getD, List.getD_eq_getElem?_getD, List.getElem?_append_left h]
theorem nd_snoc_eq {l : List Node} {x : Node} : nd (l ++ [x]) l.length = x := by
  unfold nd
  rw [List.getD_eq_getElem?_getD, List.getElem?_append_right (Nat.le_refl _)]
  simp
theorem rd_snoc_eq {l : List Int} {x : Int} : rd (l ++ [x]) (l.length : Int) = x := by
  unfold rd
  rw [Int.toNat_natCast, List.getD_eq_getElem?_getD, List.getElem?_append_right (Nat.le_refl _)]
  simp
theorem AheadN.init {l : List Node} {x : Node} (h : AheadN (l ++ [x])) : AheadN l := fun p hp k hk => h p (by rw [List.length_append]; omega) k (by rw [nd_snoc_lt hp]; exact hk)
structure OwnSpec (T : Lib.PrintTabs) (vs : List (List UInt8)) (ns : List Node) (r : List (List UInt8) × List Int) : Prop where
  pre : vs <+: r.1
  numd : Numd T r.1 ns r.2
  from_ : ∀ x ∈ r.1, x ∈ vs ∨ ∃ j : Nat, j < ns.length ∧ x = nodeW T (nd ns j) r.2
  nodup : vs.Nodup → r.1.Nodup
theorem own_specN (T : Lib.PrintTabs) (vs : List (List UInt8)) : ∀ (n : Nat) {ns : List Node}, ns.length = n → AheadN ns → OwnSpec T vs ns (ownS T vs ns) := by
  intro n
  induction n using Nat.strongRecOn with
  | _ n IH =>
  intro ns hn hA
  rcases snoc_cases ns with rfl | ⟨l, x, rfl⟩
  · exact ⟨List.prefix_refl _, ⟨rfl, fun j hj => absurd hj (Nat.not_lt_zero _), fun j hj => absurd hj (Nat.not_lt_zero _)⟩, fun x hx => .inl hx, fun h => h⟩
  · have ih := IH l.length (by simp at hn; omega) rfl hA.init
    have hk : ∀ k ∈ x.kids, 0 ≤ k ∧ k < ((ownS T vs l).2.length : Int) := fun k hk => by
      rw [ih.numd.len]
      have := hA l.length (by simp) k (by rw [nd_snoc_eq]; exact hk)
      exact this
    have e : ownS T vs (l ++ [x]) = numStep T (ownS T vs l) x := by
      show (l ++ [x]).foldl (numStep T) (vs, []) = _
      rw [List.foldl_append]; rfl
    rw [e]
    generalize ownS T vs l = st at ih hk ⊢
    obtain ⟨us, own⟩ := st
    have hlen : own.length = l.length := ih.numd.len
    have key : ∀ j : Nat, j < (l ++ [x]).length → nodeW T (nd (l ++ [x]) j) (own ++ [((addW us (nodeW T x own)).idxOf (nodeW T x own) : Int)]) = if j < l.length then nodeW T (nd l j) own else nodeW T x own := fun j hj => by
      by_cases h : j < l.length
      · rw [if_pos h, nd_snoc_lt h]
        refine nodeW_app T fun k hk' => ?_
        have := hA.init j h k hk'
        omega
      · have hj' : j = l.length := by simp at hj; omega
        subst hj'
        rw [if_neg h, nd_snoc_eq]
        exact nodeW_app T hk
    have hm : ∀ j : Nat, j < (l ++ [x]).length → (if j < l.length then nodeW T (nd l j) own else nodeW T x own) ∈ addW us (nodeW T x own) := fun j hj => by
      by_cases h : j < l.length
      · rw [if_pos h]; exact (addW_pre _ _).subset (ih.numd.mem j h)
      · rw [if_neg h]; exact addW_in _ _
    refine ⟨ih.pre.trans (addW_pre _ _), ⟨by show (own ++ [_]).length = _; simp [hlen], fun j hj => ?_, fun j hj => ?_⟩, fun y hy => ?_, fun h => addW_nodup (ih.nodup h) _⟩
    · show nodeW T _ (own ++ [_]) ∈ addW us (nodeW T x own)
      rw [key j hj]; exact hm j hj
    · show rd (own ++ [_]) (j : Int) = ((addW us (nodeW T x own)).idxOf (nodeW T _ (own ++ [_])) : Int)
      rw [key j hj]
      by_cases h : j < l.length
      · rw [if_pos h, rd_app (by omega) (by omega), wix_pre (addW_pre _ _) (ih.numd.mem j h)]
        exact ih.numd.num j h
      · have hj' : j = l.length := by simp at hj; omega
        subst hj'
        rw [if_neg h, ← hlen, rd_snoc_eq]
    · rcases addW_mem hy with hy | rfl
      · rcases ih.from_ y hy with hy | ⟨j, hj, rfl⟩
        · exact .inl hy
        · refine .inr ⟨j, by simp; omega, ?_⟩
          show _ = nodeW T _ (own ++ [_])
          rw [key j (by simp; omega), if_pos hj]
      · refine .inr ⟨l.length, by simp, ?_⟩
        show _ = nodeW T _ (own ++ [_])
        rw [key l.length (by simp), if_neg (by omega)]
theorem own_spec (T : Lib.PrintTabs) (vs : List (List UInt8)) {ns : List Node} (hA : AheadN ns) : OwnSpec T vs ns (ownS T vs ns) := own_specN T vs ns.length rfl hA
def alkC (a b : List Node) (out : List (List Bool)) (i j : Nat) : Bool :=
  decide ((nd a i).kind = (nd b j).kind ∧ (nd a i).ints = (nd b j).ints ∧ (nd a i).texts = (nd b j).texts ∧ (nd a i).kids.length = (nd b j).kids.length ∧
    ∀ k : Nat, k < (nd a i).kids.length → rd (nd a i).kids (k : Int) < (i : Int) ∧ rd (nd b j).kids (k : Int) < (j : Int) ∧ ((out.getD (rd (nd a i).kids (k : Int)).toNat []).getD (rd (nd b j).kids (k : Int)).toNat false) = true)
def alkT (a b : List Node) : Nat → List (List Bool)
  | 0 => []
  | i + 1 => alkT a b i ++ [(List.range b.length).map (alkC a b (alkT a b i) i)]
theorem alkT_len (a b : List Node) : ∀ n, (alkT a b n).length = n
  | 0 => rfl
  | n + 1 => by unfold alkT; rw [List.length_append, alkT_len a b n]; rfl
theorem alkT_row (a b : List Node) : ∀ {n i : Nat}, i < n → (alkT a b n).getD i [] = (List.range b.length).map (alkC a b (alkT a b i) i)
  | n + 1, i, h => by
    show (alkT a b n ++ [(List.range b.length).map (alkC a b (alkT a b n) n)]).getD i [] = _
    rw [List.getD_eq_getElem?_getD]
    by_cases hi : i < n
    · rw [List.getElem?_append_left (by rw [alkT_len]; exact hi), ← List.getD_eq_getElem?_getD]
      exact alkT_row a b hi
    · obtain rfl : i = n := by omega
      rw [List.getElem?_append_right (by rw [alkT_len]; exact Nat.le_refl _), alkT_len]
      simp
theorem alk_cell (a b : List Node) {n i j : Nat} (hi : i < n) (hj : j < b.length) : ((alkT a b n).getD i []).getD j false = alkC a b (alkT a b i) i j := by
  rw [alkT_row a b hi, List.getD_eq_getElem?_getD, List.getElem?_map, List.getElem?_range hj]
  rfl
theorem alk_num {T : Lib.PrintTabs} {vs : List (List UInt8)} {a b : List Node} {p q : List Int} (ha : AheadN a) (hb : AheadN b) (hp : Numd T vs a p) (hq : Numd T vs b q) :
    ∀ i j : Nat, i < a.length → j < b.length → (alkC a b (alkT a b i) i j = true ↔ rd p (i : Int) = rd q (j : Int)) := by
  intro i
  induction i using Nat.strongRecOn with
  | _ i ih =>
    intro j hi hj
    have hw : rd p (i : Int) = rd q (j : Int) ↔ nodeW T (nd a i) p = nodeW T (nd b j) q := by
      rw [hp.num i hi, hq.num j hj]
      refine ⟨fun h => wix_inj (hp.mem i hi) (hq.mem j hj) (by omega), fun h => by rw [h]⟩
    rw [hw, nodeW_inj]
    unfold alkC
    rw [decide_eq_true_iff]
    refine ⟨fun ⟨h1, h2, h3, h4, h5⟩ => ⟨h1, h2, h3, ?_⟩, fun ⟨h1, h2, h3, h4⟩ => ⟨h1, h2, h3, ?_, ?_⟩⟩
    · refine List.ext_getElem (by simpa using h4) fun k g1 g2 => ?_
      rw [List.getElem_map, List.getElem_map]
      rw [List.length_map] at g1 g2
      obtain ⟨e1, e2, e3⟩ := h5 k g1
      rw [rd_eq g1] at e1 e3
      rw [rd_eq g2] at e2 e3
      have hx := ha i hi _ (List.getElem_mem g1)
      have hy := hb j hj _ (List.getElem_mem g2)
      rw [alk_cell a b (by omega) (by omega)] at e3
      have := (ih _ (by omega) _ (by omega) (by omega)).1 e3
      rwa [Int.toNat_of_nonneg hx.1, Int.toNat_of_nonneg hy.1] at this
    · have := congrArg List.length h4
      simpa using this
    · intro k g1
      have hlen := congrArg List.length h4
      rw [List.length_map, List.length_map] at hlen
      have g2 : k < (nd b j).kids.length := by omega
      rw [rd_eq g1, rd_eq g2]
      have hx := ha i hi _ (List.getElem_mem g1)
      have hy := hb j hj _ (List.getElem_mem g2)
      refine ⟨hx.2, hy.2, ?_⟩
      rw [alk_cell a b (by omega) (by omega)]
      refine (ih _ (by omega) _ (by omega) (by omega)).2 ?_
      rw [Int.toNat_of_nonneg hx.1, Int.toNat_of_nonneg hy.1]
      have h6 : ((nd a i).kids.map (rd p))[k]'(by rw [List.length_map]; exact g1) = ((nd b j).kids.map (rd q))[k]'(by rw [List.length_map]; exact g2) := by simp only [h4]
      rwa [List.getElem_map, List.getElem_map] at h6
end Go.Proofs.YtdfneldenipljaaDoor.L
end
section
namespace Go.Proofs.YtdfneldenipljaaDoor.L
open Go.RowKit Go.ChangeShapes Go.WideShapes Go.Proofs.YtdfneldenipljaaDoorW.PrintWords Go.Proofs.YtdfneldenipljaaDoorW.PrintLast Go.Proofs.YtdfneldenipljaaDoorW.PrintMore
attribute [local go_sem] max2_int min2_int max_two min_two max_three min_three max_four min_four
def cntF (own : List Int) (c : Nat) : Nat → Nat
  | 0 => c
  | i + 1 => if rd own (i : Int) = (cntF own c i : Int) then cntF own c i + 1 else cntF own c i
def Rise (own : List Int) (c n : Nat) : Prop := ∀ i : Nat, i < n → 0 ≤ rd own (i : Int) ∧ rd own (i : Int) ≤ (cntF own c i : Int)
theorem cnt_mono (own : List Int) (c : Nat) : ∀ {i j : Nat}, i ≤ j → cntF own c i ≤ cntF own c j
  | i, 0, h => by obtain rfl : i = 0 := by omega
                  exact Nat.le_refl _
  | i, j + 1, h => by
    by_cases e : i = j + 1
    · subst e; exact Nat.le_refl _
    · have := cnt_mono own c (i := i) (j := j) (by omega)
      show _ ≤ (if rd own (j : Int) = (cntF own c j : Int) then cntF own c j + 1 else cntF own c j)
      split <;> omega
theorem cnt_step {own : List Int} {c i : Nat} (h : rd own (i : Int) ≤ (cntF own c i : Int)) : rd own (i : Int) < (cntF own c (i + 1) : Int) := by
  show _ < ((if rd own (i : Int) = (cntF own c i : Int) then cntF own c i + 1 else cntF own c i : Nat) : Int)
  split <;> omega
theorem Rise.lt {own : List Int} {c n : Nat} (h : Rise own c n) {i m : Nat} (hi : i < m) (hm : m ≤ n) : rd own (i : Int) < (cntF own c m : Int) := by
  have h1 := cnt_step (h i (by omega)).2
  have h2 := cnt_mono own c (i := i + 1) (j := m) (by omega)
  omega
theorem cnt_app {own t : List Int} {c : Nat} : ∀ {i : Nat}, i ≤ own.length → cntF (own ++ t) c i = cntF own c i
  | 0, _ => rfl
  | i + 1, h => by
    show (if rd (own ++ t) (i : Int) = (cntF (own ++ t) c i : Int) then cntF (own ++ t) c i + 1 else cntF (own ++ t) c i) = (if _ then _ else _)
    rw [cnt_app (by omega), rd_app (by omega) (by omega)]
theorem own_snoc (T : Lib.PrintTabs) (vs : List (List UInt8)) (l : List Node) (x : Node) : ownS T vs (l ++ [x]) = numStep T (ownS T vs l) x := by
  show (l ++ [x]).foldl (numStep T) (vs, []) = _
  rw [List.foldl_append]; rfl
theorem own_len (T : Lib.PrintTabs) (vs : List (List UInt8)) : ∀ (n : Nat) (ns : List Node), ns.length = n → (ownS T vs ns).2.length = n
  | n, ns, hn => by
    rcases snoc_cases ns with rfl | ⟨l, x, rfl⟩
    · exact hn
    · rw [own_snoc]
      match n, hn with
      | 0, hn => simp at hn
      | n + 1, hn =>
        have := own_len T vs n l (by simp at hn; exact hn)
        show ((ownS T vs l).2 ++ [_]).length = n + 1
        rw [List.length_append, this]; rfl
theorem own_riseN (T : Lib.PrintTabs) (vs : List (List UInt8)) : ∀ (n : Nat) {ns : List Node}, ns.length = n → Rise (ownS T vs ns).2 vs.length n ∧ cntF (ownS T vs ns).2 vs.length n = (ownS T vs ns).1.length
  | 0, ns, hn => by
    obtain rfl := List.eq_nil_of_length_eq_zero hn
    exact ⟨fun i hi => absurd hi (Nat.not_lt_zero _), rfl⟩
  | n + 1, ns, hn => by
    rcases snoc_cases ns with rfl | ⟨l, x, rfl⟩
    · simp at hn
    · have hl : l.length = n := by simpa using hn
      obtain ⟨ih, ic⟩ := own_riseN T vs n hl
      have hlen := own_len T vs n l hl
      rw [own_snoc]
      generalize ownS T vs l = st at ih ic hlen ⊢
      obtain ⟨us, own⟩ := st
      have hlen : own.length = n := hlen
      have ic : cntF own vs.length n = us.length := ic
      generalize hw : nodeW T x own = w
      have hv : rd (own ++ [((addW us w).idxOf w : Int)]) (n : Int) = ((addW us w).idxOf w : Int) := by rw [← hlen]; exact rd_snoc_eq
      have hc : ∀ i : Nat, i ≤ n → cntF (own ++ [((addW us w).idxOf w : Int)]) vs.length i = cntF own vs.length i := fun i hi => cnt_app (by omega)
      show Rise (own ++ [((addW us (nodeW T x own)).idxOf (nodeW T x own) : Int)]) vs.length (n + 1) ∧ cntF (own ++ [((addW us (nodeW T x own)).idxOf (nodeW T x own) : Int)]) vs.length (n + 1) = (addW us (nodeW T x own)).length
      rw [hw]
      by_cases hm : w ∈ us
      · have ea : addW us w = us := by unfold addW; rw [if_pos hm]
        have hlt := wix_lt hm
        rw [ea] at hv hc ⊢
        refine ⟨fun i hi => ?_, ?_⟩
        · rw [hc i (by omega)]
          by_cases h : i < n
          · rw [rd_app (by omega) (by omega)]; exact ih i h
          · obtain rfl : i = n := by omega
            rw [hv, ic]; omega
        · show (if _ then _ else _) = _
          rw [hc n (Nat.le_refl _), hv, ic, if_neg (by omega)]
      · have ea : addW us w = us ++ [w] := by unfold addW; rw [if_neg hm]
        have hix : (us ++ [w]).idxOf w = us.length := by
          rw [List.idxOf_append, if_neg hm]; simp
        rw [ea, hix] at hv hc ⊢
        refine ⟨fun i hi => ?_, ?_⟩
        · rw [hc i (by omega)]
          by_cases h : i < n
          · rw [rd_app (by omega) (by omega)]; exact ih i h
          · obtain rfl : i = n := by omega
            rw [hv, ic]; omega
        · show (if _ then _ else _) = _
          rw [hc n (Nat.le_refl _), hv, ic, if_pos rfl]; simp
theorem ahead_below {ns : List Node} (h : AheadN ns) {p : Nat} (hp : p < ns.length) {x : Int} (hr : Rch ns (kids ns (p : Int)) x) : 0 ≤ x ∧ x < (p : Int) := by
  induction hr with
  | base hk => exact h p hp _ (by rw [← kids_nat]; exact hk)
  | @step i k _ hk ih =>
    have := h i.toNat (by omega) k hk
    omega
theorem ahead_places {ns : List Node} (h : AheadN ns) : Places ns := fun i hi k hk => by
  have := h i hi k hk
  omega
theorem ahead_cyc {ns : List Node} (h : AheadN ns) : ∀ p : Nat, p < ns.length → ¬ Cyc ns p := fun p hp hc => by
  have := ahead_below h hp hc
  omega
end Go.Proofs.YtdfneldenipljaaDoor.L
end
section
namespace Go.Proofs.YtdfneldenipljaaDoor.L
open Go.RowKit Go.ChangeShapes Go.WideShapes Go.Proofs.YtdfneldenipljaaDoorW.PrintWords Go.Proofs.YtdfneldenipljaaDoorW.PrintLast Go.Proofs.YtdfneldenipljaaDoorW.PrintMore
attribute [local go_sem] max2_int min2_int max_two min_two max_three min_three max_four min_four
theorem ints_ext {a b : List Int} (hl : a.length = b.length) (h : ∀ j : Nat, j < a.length → rd a (j : Int) = rd b (j : Int)) : a = b :=
  List.ext_getElem hl fun j h1 h2 => by have := h j h1; rwa [rd_eq h1, rd_eq h2] at this
set_option maxRecDepth 100000 in
set_option maxHeartbeats 2000000 in
theorem ints_draw (A : Option Addr) (c : Nat) (a : List Int) (B : Option Addr) (d : Nat) (b : List Int) (w : World) (h : (Kd.int .i64).C w A a.length a) (h' : (Kd.int .i64).C w B b.length b) :
    Calls Tryd.prog 18 #[.slice A a.length c, .slice B b.length d] w fun e w' => e = .returned (.bool (decide (a = b))) ∧ Drawn0 w w' := by
  have HA := Aside0.mk h
  have HBn := Aside0.mk h'
  have b0 := h.2.1
  have b1 := h'.2.1
  clear h h'
  by_cases hl : a.length = b.length
  · have HLn := Aside0.mk hl
    rw [← hl]
    clear hl
    go_enter Tryd.func18, Tryd.ntmps18
    go_wp2
    go_loopw [5] (fun v5 W => ∃ i : Nat, i ≤ a.length ∧ v5 = .int .i64 i ∧ Aside0 (∀ j : Nat, j < i → rd a (j : Int) = rd b (j : Int)) ∧ Drawn0 w W) (fun v5 _ => a.length - (intOf v5).toNat)
    case atStart => exact ⟨0, by omega, rfl, ⟨fun j h => by omega⟩, Drawn0.refl _⟩
    case round =>
      obtain ⟨i, hi, rfl, HJ, ⟨m, rfl⟩⟩ := hrel
      by_cases hlt : i < a.length
      · obtain ⟨ad, rfl, x1⟩ := at_nat HA.out i hlt
        obtain ⟨bd, rfl, x2⟩ := at_nat HBn.out i (by rw [← HLn.out]; exact hlt)
        by_cases he : rd a (i : Int) = rd b (i : Int)
        · have de : (rd a (i : Int) != rd b (i : Int)) = false := by simp [he]
          have HJ2 := Aside0.mk (ext_lt HJ.out he)
          clear he
          go_wp2
          go_region
          go_wp2
          go_roundw
          case rel => exact ⟨i + 1, by omega, by go_num, HJ2, by repeat (first | exact Drawn0.refl _ | apply Drawn0.step)⟩
          case measure => simp [intOf]; omega
        · have de : (rd a (i : Int) != rd b (i : Int)) = true := by simp [he]
          have HE : Aside0 (decide (a = b) = false) := ⟨decide_eq_false (fun hh => he (by rw [hh]))⟩
          clear he
          go_wp2
          go_region
          go_wp2
          go_ret
          exact ⟨ret_bool HE.out.symm, by repeat (first | exact Drawn0.refl _ | apply Drawn0.step)⟩
      · obtain rfl : i = a.length := by omega
        have HE : Aside0 (decide (a = b) = true) := ⟨decide_eq_true (ints_ext HLn.out HJ.out)⟩
        go_wp2
        go_ret
        exact ⟨ret_bool HE.out.symm, by repeat (first | exact Drawn0.refl _ | apply Drawn0.step)⟩
  · have HE : Aside0 (decide (a = b) = false) := ⟨decide_eq_false (fun hh => hl (by rw [hh]))⟩
    have dl : (a.length != b.length) = true := by simp [hl]
    have dl' : ((a.length : Int) != (b.length : Int)) = true := by simp; omega
    clear hl
    go_enter Tryd.func18, Tryd.ntmps18
    go_wp2
    go_ret
    exact ⟨ret_bool HE.out.symm, Drawn0.refl _⟩
theorem ints_any (A : Option Addr) (c : Nat) (a : List Int) (B : Option Addr) (d : Nat) (b : List Int) (w : World) (h : (Kd.int .i64).C w A a.length a) (h' : (Kd.int .i64).C w B b.length b) :
    Calls Tryd.prog 18 #[.slice A a.length c, .slice B b.length d] w fun e w' => e = .returned (.bool (decide (a = b))) ∧ Below w.heap.size w w' := by
  refine (ints_draw A c a B d b w h h').mono ?_
  rintro e w' ⟨rfl, m, rfl⟩
  exact ⟨rfl, pw_below_drewN (Below.refl _ _) m⟩
theorem ints_same (A : Option Addr) (c : Nat) (a : List Int) (B : Option Addr) (d : Nat) (w : World) (h : (Kd.int .i64).C w A a.length a) (h' : (Kd.int .i64).C w B a.length a) (n : Nat) :
    Calls Tryd.prog 18 #[.slice A a.length c, .slice B a.length d] (w.drewN n) fun e w' => e = .returned (.bool true) ∧ ∃ m, w' = w.drewN m := by
  refine Calls.quiet_of ((ints_draw A c a B d a _ (Kd.C_below h (pw_below_drewN (Below.refl _ _) n)) (Kd.C_below h' (pw_below_drewN (Below.refl _ _) n))).mono ?_)
  rintro e w' ⟨rfl, m, rfl⟩
  exact ⟨by simp, m, rfl⟩
def greatC (s : Scene) : Bool := greatS s || decide (25 < s.nodes.length)
def great19 (l : List Scene) : Bool := decide (4 < l.length ∨ ∃ j, j < l.length ∧ greatC (sc l j) = true)
set_option maxRecDepth 100000 in
set_option maxHeartbeats 2000000 in
theorem great19_any (A : Option Addr) (c : Nat) (l : List Scene) (w : World) (h : kScene.C w A l.length l) :
    Calls Tryd.prog 14 #[.slice A l.length c] w fun e w' => e = .returned (.bool (great19 l)) ∧ Below w.heap.size w w' := by
  have HR := Aside0.mk h
  have b0 := h.2.1
  have hus := Tryd.underlying34
  clear h
  by_cases h4 : 4 < l.length
  · have HE : Aside0 (great19 l = true) := ⟨decide_eq_true (.inl h4)⟩
    have d4 : decide ((4 : Int) < (l.length : Int)) = true := decide_eq_true (by omega)
    go_enter Tryd.func14, Tryd.ntmps14
    go_wp2
    go_ret
    exact ⟨ret_bool HE.out.symm, Below.refl _ _⟩
  · have H4 := Aside0.mk h4
    have d4 : decide ((4 : Int) < (l.length : Int)) = false := decide_eq_false (by omega)
    have d4n : decide (4 < l.length) = false := decide_eq_false h4
    clear h4
    go_enter Tryd.func14, Tryd.ntmps14
    go_wp2
    go_loopw [10] (fun v10 W => ∃ i : Nat, i ≤ l.length ∧ v10 = .int .i64 i ∧ Aside0 (∀ j : Nat, j < i → greatC (sc l j) = false) ∧ Aside0 (Below w.heap.size w W)) (fun v10 _ => l.length - (intOf v10).toNat)
    case atStart => exact ⟨0, by omega, rfl, ⟨fun j h => by omega⟩, ⟨Below.refl _ _⟩⟩
    case round =>
      obtain ⟨i, hi, rfl, HJ, HW⟩ := hrel
      by_cases hlt : i < l.length
      · obtain ⟨ad, B, d, rfl, x0, x1, hd, hS⟩ := at_scene HR.out i hlt
        replace x0 := pw_cell_below HW.out x0
        replace x1 := pw_cell_below HW.out x1
        have HS := Aside0.mk hS
        have hS2 := hS.2.1
        have HJJ := Aside0.mk (fun hc : greatC (sc l i) = false => ext_lt HJ.out hc)
        have HBad := Aside0.mk (fun hc : greatC (sc l i) = true => (show great19 l = true from decide_eq_true (.inr ⟨i, hlt, hc⟩)))
        clear hS hd
        generalize sc l i = s at x0 x1 HS hS2 HJJ HBad
        have hA := below_alloc (Below.refl wr.heap.size wr) (.cells #[.slice B s.nodes.length d, .int .i64 s.root] 34)
        have q0 := box_cell wr _ rfl #[.slice B s.nodes.length d, .int .i64 s.root] 34 0 (.slice B s.nodes.length d) rfl
        have q1 := box_cell wr _ rfl #[.slice B s.nodes.length d, .int .i64 s.root] 34 1 (.int .i64 s.root) rfl
        have HW1 := Aside0.mk (below_step HW.out hA)
        clear hA
        go_wp2_with fail
        refine (greatS_any B d s _ (Kd.C_below HS.out HW1.out)).mono ?_
        rintro e w2 ⟨rfl, hB2⟩
        replace q0 := pw_cell_below hB2 q0
        have HW2 := Aside0.mk (below_step HW1.out hB2)
        clear hB2 x0 x1 q1
        cases hg : greatS s with
        | true =>
          have HE := Aside0.mk (HBad.out (by unfold greatC; rw [hg]; rfl))
          clear hg
          go_wp2
          go_ret
          exact ⟨ret_bool HE.out.symm, HW2.out⟩
        | false =>
          by_cases h25 : 25 < s.nodes.length
          · have HE := Aside0.mk (HBad.out (by unfold greatC; rw [hg, decide_eq_true h25]; rfl))
            have d25 : decide ((25 : Int) < (s.nodes.length : Int)) = true := decide_eq_true (by omega)
            have d25n : decide (25 < s.nodes.length) = true := decide_eq_true h25
            clear hg h25
            go_wp2
            go_ret
            exact ⟨ret_bool HE.out.symm, HW2.out⟩
          · have HJ2 := Aside0.mk (HJJ.out (by unfold greatC; rw [hg, decide_eq_false h25]; rfl))
            have d25 : decide ((25 : Int) < (s.nodes.length : Int)) = false := decide_eq_false (by omega)
            have d25n : decide (25 < s.nodes.length) = false := decide_eq_false h25
            clear hg h25
            go_wp2
            go_roundw
            case rel => exact ⟨i + 1, by omega, by go_num, HJ2, HW2⟩
            case measure => simp [intOf]; omega
      · obtain rfl : i = l.length := by omega
        have HE : Aside0 (great19 l = false) := ⟨decide_eq_false (fun hh => by
          rcases hh with hh | ⟨j, hj, hh⟩
          · exact H4.out hh
          · have := HJ.out j hj
            rw [hh] at this; cases this)⟩
        go_wp2
        go_ret
        exact ⟨ret_bool HE.out.symm, HW.out⟩
end Go.Proofs.YtdfneldenipljaaDoor.L
end
section
namespace Go.Proofs.YtdfneldenipljaaDoor.L
open Go.RowKit Go.ChangeShapes Go.WideShapes Go.Proofs.YtdfneldenipljaaDoorW.PrintWords Go.Proofs.YtdfneldenipljaaDoorW.PrintLast Go.Proofs.YtdfneldenipljaaDoorW.PrintMore
attribute [local go_sem] max2_int min2_int max_two min_two max_three min_three max_four min_four
theorem szBld : (Tryd.prog.info? 70).map (·.size) = some 2 := by kernel_rfl
theorem liesBld : liesAt Tryd.prog Tryd.prog.depth 70 (2 / Tryd.prog.cellsOf 70) 0 70 1 = true := by kernel_rfl
theorem infoB : (Tryd.prog.info? 5).map (fun i => (i.zero, i.size, i.bytes)) = some (some (.int .u8 0), 1, 1) := by kernel_rfl
theorem neB5 : 70 ≠ 5 := by decide
set_option maxHeartbeats 1000000 in
set_option maxRecDepth 100000 in
theorem ccheck_used (b : Nat) (w : World) (h0 : w.cell? ⟨b, 0, none⟩ = some (.pointer (some ⟨b, 0, none⟩))) :
    Calls Tryd.prog 68 #[.pointer (some ⟨b, 0, none⟩)] w fun e w' => e = .returned (.tuple #[]) ∧ w' = w := by
  obtain ⟨j, hj, _⟩ := Option.map_eq_some_iff.1 szBld
  have t72 := Tryd.underlying70
  have t70 := Tryd.underlying67
  go_enter Tryd.func68, Tryd.ntmps68
  go_wp2
  rw [Lib.run_neq_ptr_same w _ Tryd.underlying67 hj]
  go_wp2
  go_end0
  exact ⟨rfl, rfl⟩
set_option maxHeartbeats 1000000 in
set_option maxRecDepth 100000 in
theorem ccheck_fresh (b : Nat) (w : World) (h0 : w.cell? ⟨b, 0, none⟩ = some (.pointer none)) (hsh : w.shape? b = some (70, 2)) (hfz : w.frozen? ⟨b, 0, none⟩ = false) :
    Calls Tryd.prog 68 #[.pointer (some ⟨b, 0, none⟩)] w fun e w' => e = .returned (.tuple #[]) ∧ w' = w.setCell ⟨b, 0, none⟩ (.pointer (some ⟨b, 0, none⟩)) := by
  obtain ⟨j, hj, hjs⟩ := Option.map_eq_some_iff.1 szBld
  have t72 := Tryd.underlying70
  have t70 := Tryd.underlying67
  go_enter Tryd.func68, Tryd.ntmps68
  go_wp2
  rw [Lib.run_to_unsafe w ⟨b, 0, none⟩ Tryd.underlying67 Tryd.underlying102 hj (by rw [hjs]; decide) hsh (Nat.zero_lt_succ 1)]
  simp only [Result.andThen]
  rw [Oper.upon_value]
  go_wp2
  rw [run_callFunc_extern Tryd.func78 (by kernel_rfl) (by kernel_rfl) (by kernel_rfl) (e := Extern.AbiNoEscape.same) (by kernel_rfl)]
  rw [Lib.run_noEscape]
  simp only [Result.andThen]
  rw [Oper.upon_value]
  go_wp2
  rw [Lib.run_from_unsafe w ⟨b, 0, none⟩ Tryd.underlying102 Tryd.underlying67 hj hsh liesBld]
  simp only [Result.andThen]
  rw [Oper.upon_value]
  go_wp2
  go_end0
  exact ⟨rfl, rfl⟩
theorem ccheck_any (B b : Nat) (bs : List Value) (w : World) (h : Lib.IsBuilder 70 5 B b bs w) :
    Calls Tryd.prog 68 #[.pointer (some ⟨b, 0, none⟩)] w fun e w' => e = .returned (.tuple #[]) ∧ (Lib.BuilderAt 70 5 B b (.pointer (some ⟨b, 0, none⟩)) bs w' ∧ Below B w w') := by
  rcases h with h | h
  · refine (ccheck_fresh b w h.cell0 h.shape h.frozen0).mono ?_
    rintro e w' ⟨rfl, rfl⟩
    exact ⟨rfl, h.used _, (Below.refl B w).setCell (p := ⟨b, 0, none⟩) h.1 _⟩
  · refine (ccheck_used b w h.cell0).mono ?_
    rintro e w' ⟨rfl, rfl⟩
    exact ⟨rfl, h, Below.refl B _⟩
set_option maxHeartbeats 2000000 in
set_option maxRecDepth 100000 in
theorem wstr_any (B b : Nat) (bs : List Value) (s : ByteArray) (w : World) (h : Lib.IsBuilder 70 5 B b bs w) (hlen : bs.length + s.size ≤ 140737488355328) (hBw : B ≤ w.heap.size) :
    Calls Tryd.prog 51 #[.pointer (some ⟨b, 0, none⟩), .string s] w fun e w' => e = .returned (.tuple #[.int .i64 s.size, .nilIface]) ∧ (Lib.BuilderAt 70 5 B b (.pointer (some ⟨b, 0, none⟩)) (bs ++ Lib.strCells s) w' ∧ Below B w w') := by
  obtain ⟨i0, hi, hz0, hz1, hz2⟩ := info_parts infoB
  have t72 := Tryd.underlying70
  have t70 := Tryd.underlying67
  have t37 := Tryd.underlying68
  have t5 := Tryd.underlying5
  go_enter Tryd.func51, Tryd.ntmps51
  go_wp2_with (go_at_call 68; refine (ccheck_any B b bs _ h).mono ?_)
  rintro e w1 ⟨rfl, h1, hb1⟩
  obtain ⟨hB, v, hbk, hown, hne⟩ := h1
  have c0 : w1.cell? ⟨b, 0, none⟩ = some (.pointer (some ⟨b, 0, none⟩)) := by rw [Lib.cell_of_heap hbk]; rfl
  have c1 : w1.cell? ⟨b, 1, none⟩ = some v := by rw [Lib.cell_of_heap hbk]; rfl
  go_wp2_with (at_builtin; refine Lib.wpList_append_own_string _ rfl _ _ 68 9 rfl B 5 i0 Tryd.underlying68 Tryd.underlying9 hi hz0 hz1 hz2 _ _ _ rfl hown s rfl ?c3 ?c4 ?c5 ?_)
  case c3 => unfold maxLen; omega
  case c4 => omega
  case c5 => have := hb1.size; omega
  intro v' w2 hown' hgrow _
  have hlt : b < w1.heap.size := by
    rcases Nat.lt_or_ge b w1.heap.size with h' | h'
    · exact h'
    · simp [Array.getElem?_eq_none h'] at hbk
  have hb2 : w2.heap[b]? = some (.cells #[.pointer (some ⟨b, 0, none⟩), v] 70 (0, 0)) := by
    rw [hgrow.block b hlt (fun e => hne e.symm)]
    exact hbk
  have d0 : w2.cell? ⟨b, 0, none⟩ = some (.pointer (some ⟨b, 0, none⟩)) := by rw [Lib.cell_of_heap hb2]; rfl
  have d1 : w2.cell? ⟨b, 1, none⟩ = some v := by rw [Lib.cell_of_heap hb2]; rfl
  have f1 : w2.frozen? ⟨b, 1, none⟩ = false := Lib.frozen_of_heap hb2 1
  obtain ⟨ao, n', cap, rfl⟩ : ∃ ao n' cap, v' = .slice ao n' cap := by
    rcases hown'.2 with ⟨hv, _⟩ | ⟨g, cap, cur, hv, _⟩
    · exact ⟨_, _, _, hv⟩
    · exact ⟨_, _, _, hv⟩
  go_wp2
  go_ret2
  refine ⟨rfl, ?_, ?_⟩
  · exact Lib.BuilderAt.put (T := 70) (e := 5) hB hb2 (bs' := bs ++ Lib.strCells s) (by simpa [Lib.strCells_length] using hown') neB5
  · exact (hb1.grown hgrow (by have := hb1.size; omega) (fun k hk => (hown.lt k hk).1)).setCell (p := ⟨b, 1, none⟩) hB _
end Go.Proofs.YtdfneldenipljaaDoor.L
end
section
namespace Go.Proofs.YtdfneldenipljaaDoor.L
open Go.RowKit Go.ChangeShapes Go.WideShapes Go.Proofs.YtdfneldenipljaaDoorW.PrintWords Go.Proofs.YtdfneldenipljaaDoorW.PrintLast Go.Proofs.YtdfneldenipljaaDoorW.PrintMore
attribute [local go_sem] max2_int min2_int max_two min_two max_three min_three max_four min_four
def Tabs (w : World) : Prop := Lib.Utf8Tabs 3 4 w
theorem Tabs.below {w w' : World} (h : Tabs w) (hb : Below w.heap.size w w') : Tabs w' := Utf8Tabs_below h hb
end Go.Proofs.YtdfneldenipljaaDoor.L
end
