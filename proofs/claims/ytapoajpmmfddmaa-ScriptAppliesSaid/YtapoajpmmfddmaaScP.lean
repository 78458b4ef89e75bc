/- Plain facts on edits: what they make, how many places they keep, where Make stands; and on the longest common part. Conditions: those that each theorem states. -/
import Derived.Test.YtapoajpmmfddmaaScA
namespace Go.Proofs.Ytapoajpmmfddmaa.Sc
open Go.RowKit Go.Proofs.YtapoajpmmfddmaaW.PrintWords Go.Proofs.YtapoajpmmfddmaaW.PrintLast Go.Proofs.YtapoajpmmfddmaaW.PrintMore
attribute [local go_sem] max2_int min2_int max_two min_two max_three min_three max_four min_four
/-! ### what edits make -/
def stepE (s : Option (List Int × List Int)) (e : Ed) : Option (List Int × List Int) :=
  match s with
  | none => none
  | some (o, r) => if e.kind = 3 then some (o ++ [e.n], r) else if (e.kind = 1 ∨ e.kind = 2) ∧ 1 ≤ e.n ∧ e.n ≤ (r.length : Int) then some (o ++ (if e.kind = 1 then r.take e.n.toNat else []), r.drop e.n.toNat) else none
def runE (a : List Int) (l : List Ed) : Option (List Int × List Int) := l.foldl stepE (some ([], a))
theorem runE_snoc (a : List Int) (l : List Ed) (e : Ed) : runE a (l ++ [e]) = stepE (runE a l) e := by unfold runE; rw [List.foldl_append]; rfl
theorem foldl_none (l : List Ed) : l.foldl stepE none = none := by induction l with | nil => rfl | cons e l ih => exact ih
theorem runE_none {a : List Int} {l : List Ed} {k : Nat} (h : runE a (l.take k) = none) : runE a l = none := by
  rw [← List.take_append_drop k l]
  unfold runE at h ⊢
  rw [List.foldl_append, h, foldl_none]
theorem runE_step {a : List Int} {l : List Ed} {k : Nat} (h : k < l.length) : runE a (l.take (k + 1)) = stepE (runE a (l.take k)) (ed l k) := by
  rw [List.take_succ_eq_append_getElem h, runE_snoc, ed_eq h]
/-- Both Apply's answer. -/
def app (a : List Int) (l : List Ed) : List Int × Bool := match runE a l with | some (o, []) => (o, true) | _ => ([], false)

def kept (l : List Ed) : Int := (l.map fun e => if e.kind = 1 then max e.n 0 else 0).sum
theorem kept_snoc (l : List Ed) (e : Ed) : kept (l ++ [e]) = kept l + if e.kind = 1 then max e.n 0 else 0 := by simp [kept]
theorem kept_nonneg (l : List Ed) : 0 ≤ kept l := by
  induction l with
  | nil => simp [kept]
  | cons e l ih =>
    have : kept (e :: l) = (if e.kind = 1 then max e.n 0 else 0) + kept l := by simp [kept]
    rw [this]
    split <;> omega
theorem keptW_kept (l : List Ed) : ∀ k, k ≤ l.length → kept (l.take k) ≤ kept l := by
  intro k hk
  have h : kept l = kept (l.take k) + kept (l.drop k) := by
    conv => lhs; rw [← List.take_append_drop k l]
    unfold kept
    rw [List.map_append, List.sum_append]
  have := kept_nonneg (l.drop k)
  omega
theorem keptW_eq {l : List Ed} (h : kept l ≤ 9223372036854775807) : keptW l = kept l := by
  have : ∀ k, k ≤ l.length → keptW (l.take k) = kept (l.take k) := by
    intro k
    induction k with
    | zero => intro _; simp [keptW, kept]
    | succ k ih =>
      intro hk
      have h1 := ih (by omega)
      rw [keptW_step (by omega), h1, List.take_succ_eq_append_getElem (by omega), kept_snoc, ← ed_eq (by omega)]
      by_cases he : (ed l k).kind = 1
      · rw [if_pos he, if_pos he]
        have h2 := keptW_kept l (k + 1) hk
        rw [List.take_succ_eq_append_getElem (by omega), kept_snoc, ← ed_eq (by omega), if_pos he] at h2
        have h3 := kept_nonneg (l.take k)
        rw [show (if (ed l k).n < 0 then 0 else (ed l k).n) = max (ed l k).n 0 from by omega]
        exact wrap_id (by omega) (by omega)
      · rw [if_neg he, if_neg he]; omega
  have := this l.length (Nat.le_refl _)
  rwa [List.take_length] at this

def Sep (l : List Ed) : Prop := ∀ k, k + 1 < l.length → (ed l (k + 1)).kind ≠ 3 → (ed l k).kind ≠ (ed l (k + 1)).kind
theorem ed_snoc (l : List Ed) (e : Ed) (k : Nat) : ed (l ++ [e]) k = if k < l.length then ed l k else if k = l.length then e else edz := by
  unfold ed
  rw [List.getD_eq_getElem?_getD, List.getD_eq_getElem?_getD, List.getElem?_append]
  by_cases h : k < l.length
  · rw [if_pos h, if_pos h]
  · rw [if_neg h, if_neg h]
    by_cases h2 : k = l.length
    · subst h2; simp
    · rw [if_neg h2, List.getElem?_eq_none (by simp; omega)]; rfl
theorem sep_snoc {l : List Ed} {e : Ed} (h : Sep l) (he : 0 < l.length → e.kind ≠ 3 → (lastE l).kind ≠ e.kind) : Sep (l ++ [e]) := by
  intro k hk hne
  rw [List.length_append, List.length_singleton] at hk
  rw [ed_snoc, if_pos (show k < l.length by omega)]
  by_cases h1 : k + 1 < l.length
  · rw [ed_snoc, if_pos h1] at hne ⊢
    exact h k h1 hne
  · rw [ed_snoc, if_neg h1, if_pos (by omega)] at hne ⊢
    have := he (by omega) hne
    unfold lastE at this
    rwa [show l.length - 1 = k from by omega] at this
theorem sep_init {l : List Ed} {e : Ed} (h : Sep (l ++ [e])) : Sep l := by
  intro k hk hne
  have := h k (by rw [List.length_append]; omega)
  rw [ed_snoc, if_pos (by omega), ed_snoc, if_pos (by omega)] at this
  exact this hne
theorem lastE_snoc (l : List Ed) (e : Ed) : lastE (l ++ [e]) = e := by
  unfold lastE
  rw [List.length_append, List.length_singleton, Nat.add_sub_cancel, ed_snoc, if_neg (by omega), if_pos rfl]
theorem snoc_cases {α : Type} (l : List α) : l = [] ∨ ∃ i e, l = i ++ [e] := by
  rcases List.eq_nil_or_concat l with h | ⟨i, e, h⟩
  · exact .inl h
  · exact .inr ⟨i, e, by rw [h, List.concat_eq_append]⟩
theorem addE_snoc (i : List Ed) (e : Ed) (kd : Int) : addE (i ++ [e]) kd = if e.kind = kd then i ++ [⟨kd, e.n + 1⟩] else i ++ [e] ++ [⟨kd, 1⟩] := by
  unfold addE
  rw [lastE_snoc]
  by_cases h : e.kind = kd
  · rw [if_pos ⟨by simp, h⟩, if_pos h]
    simp
  · rw [if_neg (fun h' => h h'.2), if_neg h]
theorem addE_nil (kd : Int) : addE [] kd = [⟨kd, 1⟩] := rfl
/-- One more place kept, or dropped. -/
theorem run_add {a o r : List Int} {x : Int} {l : List Ed} {kd : Int} (hk : kd = 1 ∨ kd = 2) (h : runE a l = some (o, x :: r)) : runE a (addE l kd) = some (o ++ (if kd = 1 then [x] else []), r) := by
  have h3 : kd ≠ 3 := by omega
  have hnew : stepE (some (o, x :: r)) ⟨kd, 1⟩ = some (o ++ (if kd = 1 then [x] else []), r) := by
    unfold stepE
    simp only []
    rw [if_neg h3, if_pos ⟨hk, by omega, by simp; omega⟩]
    simp
  rcases snoc_cases l with rfl | ⟨i, e, rfl⟩
  · rw [addE_nil, show ([⟨kd, 1⟩] : List Ed) = [] ++ [⟨kd, 1⟩] from rfl, runE_snoc, h, hnew]
  · rw [addE_snoc]
    by_cases he : e.kind = kd
    · rw [if_pos he, runE_snoc]
      rw [runE_snoc] at h
      cases hi : runE a i with
      | none => rw [hi] at h; simp [stepE] at h
      | some p =>
        obtain ⟨o', r'⟩ := p
        rw [hi] at h
        unfold stepE at h ⊢
        simp only [] at h ⊢
        rw [if_neg (by omega)] at h
        rw [if_neg h3]
        by_cases hc : (e.kind = 1 ∨ e.kind = 2) ∧ 1 ≤ e.n ∧ e.n ≤ (r'.length : Int)
        · rw [if_pos hc] at h
          simp only [Option.some.injEq, Prod.mk.injEq] at h
          obtain ⟨ho, hr⟩ := h
          have hlt : e.n.toNat < r'.length := by
            have := congrArg List.length hr
            rw [List.length_drop, List.length_cons] at this
            omega
          rw [if_pos ⟨hk, by omega, by omega⟩]
          rw [List.drop_eq_getElem_cons hlt] at hr
          injection hr with hx hr
          have e1 : (e.n + 1).toNat = e.n.toNat + 1 := by omega
          rw [e1, hr]
          by_cases h1 : kd = 1
          · rw [if_pos h1, if_pos h1, ← ho, if_pos (by omega), List.take_succ_eq_append_getElem hlt, hx, List.append_assoc]
          · rw [if_neg h1, if_neg h1, ← ho, if_neg (by omega)]
            simp
        · rw [if_neg hc] at h; simp at h
    · rw [if_neg he, runE_snoc, h, hnew]
theorem run_put {a o r : List Int} {l : List Ed} (y : Int) (h : runE a l = some (o, r)) : runE a (l ++ [⟨3, y⟩]) = some (o ++ [y], r) := by
  rw [runE_snoc, h]; rfl
theorem kept_add {l : List Ed} {kd : Int} (_hk : kd = 1 ∨ kd = 2) (hp : ∀ e ∈ l, e.kind = 1 ∨ e.kind = 2 → 1 ≤ e.n) : kept (addE l kd) = kept l + if kd = 1 then 1 else 0 := by
  rcases snoc_cases l with rfl | ⟨i, e, rfl⟩
  · rw [addE_nil, show ([⟨kd, 1⟩] : List Ed) = [] ++ [⟨kd, 1⟩] from rfl, kept_snoc]
    by_cases h1 : kd = 1 <;> simp [h1] <;> omega
  · rw [addE_snoc]
    have := hp e (by simp)
    by_cases he : e.kind = kd
    · rw [if_pos he, kept_snoc, kept_snoc]
      by_cases h1 : kd = 1
      · have := this (by omega)
        rw [if_pos h1, if_pos h1, if_pos (by omega)]
        simp only []
        omega
      · rw [if_neg h1, if_neg h1, if_neg (by omega)]; omega
    · rw [if_neg he, kept_snoc _ ⟨kd, 1⟩]
      by_cases h1 : kd = 1 <;> simp [h1] <;> omega
theorem sep_add {l : List Ed} {kd : Int} (h : Sep l) : Sep (addE l kd) := by
  rcases snoc_cases l with rfl | ⟨i, e, rfl⟩
  · rw [addE_nil]; intro k hk; simp at hk
  · rw [addE_snoc]
    by_cases he : e.kind = kd
    · rw [if_pos he]
      refine sep_snoc (sep_init h) (fun h0 hne => ?_)
      have := h (i.length - 1) (by rw [List.length_append, List.length_singleton]; omega)
      rw [ed_snoc, if_neg (by omega), if_pos (by omega), ed_snoc, if_pos (by omega)] at this
      simp only [] at hne ⊢
      unfold lastE
      rw [← he]
      exact this (by omega)
    · rw [if_neg he]
      refine sep_snoc h (fun _ _ => ?_)
      rw [lastE_snoc]; exact he
theorem add_length (l : List Ed) (kd : Int) : (addE l kd).length ≤ l.length + 1 := by
  unfold addE
  split
  · rw [List.length_set]; omega
  · simp
theorem add_mem {l : List Ed} {kd : Int} {e : Ed} (h : e ∈ addE l kd) : e ∈ l ∨ e = ⟨kd, 1⟩ ∨ ∃ e' ∈ l, e'.kind = kd ∧ e = ⟨kd, e'.n + 1⟩ := by
  rcases snoc_cases l with rfl | ⟨i, e', rfl⟩
  · rw [addE_nil] at h; simp at h; exact .inr (.inl h)
  · rw [addE_snoc] at h
    by_cases he : e'.kind = kd
    · rw [if_pos he] at h
      rcases List.mem_append.1 h with h | h
      · exact .inl (by simp [h])
      · rw [List.mem_singleton] at h; exact .inr (.inr ⟨e', by simp, he, h⟩)
    · rw [if_neg he] at h
      rcases List.mem_append.1 h with h | h
      · exact .inl h
      · rw [List.mem_singleton] at h; exact .inr (.inl h)

/-- Where Make stands. -/
structure MInv (a b : List Int) (out : List Ed) (i j : Nat) : Prop where
  hi : i ≤ a.length
  hj : j ≤ b.length
  run : runE a out = some (b.take j, a.drop i)
  sep : Sep out
  keeps : kept out + Lc a b i j = Lc a b 0 0
  mem : ∀ e ∈ out, ((e.kind = 1 ∨ e.kind = 2) ∧ 1 ≤ e.n ∧ e.n ≤ (i : Int)) ∨ e.kind = 3
  len : out.length ≤ i + j
  nil_left : a = [] → out = (b.take j).map (fun y => ⟨3, y⟩)
  nil_right : b = [] → out = if i = 0 then [] else [⟨2, (i : Int)⟩]
  same : a = b → i = j ∧ out = if i = 0 then [] else [⟨1, (i : Int)⟩]
theorem MInv.start (a b : List Int) : MInv a b [] 0 0 where
  hi := Nat.zero_le _
  hj := Nat.zero_le _
  run := rfl
  sep := fun k hk => by simp at hk
  keeps := by simp [kept]
  mem := fun e h => by simp at h
  len := by simp
  nil_left := fun _ => by simp
  nil_right := fun _ => rfl
  same := fun _ => ⟨rfl, rfl⟩
section
variable {a b : List Int} {out : List Ed} {i j : Nat} (h : MInv a b out i j)
include h
theorem MInv.pos {e : Ed} (he : e ∈ out) (hk : e.kind = 1 ∨ e.kind = 2) : 1 ≤ e.n := by rcases h.mem e he with h | h <;> omega
theorem MInv.add_mem' {kd : Int} (hk : kd = 1 ∨ kd = 2) (e : Ed) (he : e ∈ addE out kd) : ((e.kind = 1 ∨ e.kind = 2) ∧ 1 ≤ e.n ∧ e.n ≤ ((i + 1 : Nat) : Int)) ∨ e.kind = 3 := by
  rcases add_mem he with he | rfl | ⟨e', he', h1, rfl⟩
  · rcases h.mem e he with h | h
    · exact .inl ⟨h.1, h.2.1, by omega⟩
    · exact .inr h
  · exact .inl ⟨hk, Int.le_refl _, by simp; omega⟩
  · rcases h.mem e' he' with h | h
    · exact .inl ⟨hk, by simp; omega, by simp; omega⟩
    · omega
theorem MInv.keep (h1 : i < a.length) (h2 : j < b.length) (he : rd a (i : Int) = rd b (j : Int)) : MInv a b (addE out 1) (i + 1) (j + 1) where
  hi := h1
  hj := h2
  run := by
    rw [run_add (.inl rfl) (h.run.trans (by rw [rd_drop a i h1])), if_pos rfl, rd_take b j h2, he]
  sep := sep_add h.sep
  keeps := by
    rw [kept_add (.inl rfl) (fun e he hk => h.pos he hk), if_pos rfl, ← h.keeps, Lc_eq h1 h2 he]; omega
  mem := h.add_mem' (.inl rfl)
  len := by have := add_length out 1; have := h.len; omega
  nil_left := fun e => by subst e; simp at h1
  nil_right := fun e => by subst e; simp at h2
  same := fun e => by
    obtain ⟨rfl, ho⟩ := h.same e
    refine ⟨rfl, ?_⟩
    rw [ho]
    by_cases h0 : i = 0
    · subst h0; rfl
    · rw [if_neg h0, if_neg (by omega), show ([⟨1, (i : Int)⟩] : List Ed) = [] ++ [⟨1, (i : Int)⟩] from rfl, addE_snoc, if_pos rfl]; simp
theorem MInv.drop (h1 : i < a.length) (hL : Lc a b i j = Lc a b (i + 1) j) (hne : a = b → False) : MInv a b (addE out 2) (i + 1) j where
  hi := h1
  hj := h.hj
  run := by
    rw [run_add (.inr rfl) (h.run.trans (by rw [rd_drop a i h1])), if_neg (by omega)]; simp
  sep := sep_add h.sep
  keeps := by
    rw [kept_add (.inr rfl) (fun e he hk => h.pos he hk), if_neg (by omega), ← h.keeps, hL]; omega
  mem := h.add_mem' (.inr rfl)
  len := by have := add_length out 2; have := h.len; omega
  nil_left := fun e => by subst e; simp at h1
  nil_right := fun e => by
    rw [h.nil_right e]
    by_cases h0 : i = 0
    · subst h0; rfl
    · rw [if_neg h0, if_neg (by omega), show ([⟨2, (i : Int)⟩] : List Ed) = [] ++ [⟨2, (i : Int)⟩] from rfl, addE_snoc, if_pos rfl]; simp
  same := fun e => (hne e).elim
theorem MInv.put (h2 : j < b.length) (hL : Lc a b i j = Lc a b i (j + 1)) (hne : a = b → False) : MInv a b (out ++ [⟨3, rd b (j : Int)⟩]) i (j + 1) where
  hi := h.hi
  hj := h2
  run := by rw [run_put _ h.run, rd_take b j h2]
  sep := sep_snoc h.sep (fun _ hk => (hk rfl).elim)
  keeps := by rw [kept_snoc, ← h.keeps, hL]; simp
  mem := fun e he => by
    rcases List.mem_append.1 he with he | he
    · exact h.mem e he
    · rw [List.mem_singleton] at he; subst he; exact .inr rfl
  len := by have := h.len; simp; omega
  nil_left := fun e => by rw [h.nil_left e, rd_take b j h2, List.map_append]; rfl
  nil_right := fun e => by subst e; simp at h2
  same := fun e => (hne e).elim
end
theorem same_eq {a b : List Int} {out : List Ed} {i j : Nat} (h : MInv a b out i j) (e : a = b) : rd a (i : Int) = rd b (j : Int) := by
  obtain ⟨rfl, _⟩ := h.same e
  rw [e]
/-! ### the longest common part, by any way -/
theorem lcs_sub : ∀ (n : Nat) (a b : List Int), a.length + b.length ≤ n → (∃ s : List Int, s.Sublist a ∧ s.Sublist b ∧ s.length = lcs a b) ∧ ∀ s : List Int, s.Sublist a → s.Sublist b → s.length ≤ lcs a b := by
  intro n
  induction n with
  | zero =>
    intro a b h
    have : a = [] := List.eq_nil_of_length_eq_zero (by omega)
    subst this
    exact ⟨⟨[], List.nil_sublist _, List.nil_sublist _, by rw [lcs_nil_left]; rfl⟩, fun s h1 _ => by rw [List.sublist_nil.1 h1]; simp⟩
  | succ n ih =>
    intro a b h
    cases a with
    | nil => exact ⟨⟨[], List.nil_sublist _, List.nil_sublist _, by rw [lcs_nil_left]; rfl⟩, fun s h1 _ => by rw [List.sublist_nil.1 h1]; simp⟩
    | cons x xs =>
      cases b with
      | nil => exact ⟨⟨[], List.nil_sublist _, List.nil_sublist _, by rw [lcs_nil_right]; rfl⟩, fun s _ h1 => by rw [List.sublist_nil.1 h1]; simp⟩
      | cons y ys =>
        simp only [List.length_cons] at h
        rw [lcs_cons]
        by_cases e : x = y
        · subst e
          obtain ⟨⟨s, h1, h2, h3⟩, h4⟩ := ih xs ys (by omega)
          rw [if_pos rfl]
          refine ⟨⟨x :: s, h1.cons_cons x, h2.cons_cons x, by rw [List.length_cons, h3]⟩, fun s h1 h2 => ?_⟩
          have := h4 s.tail h1.tail h2.tail
          rw [List.length_tail] at this
          omega
        · obtain ⟨⟨s, h1, h2, h3⟩, h4⟩ := ih xs (y :: ys) (by simp only [List.length_cons]; omega)
          obtain ⟨⟨s', h1', h2', h3'⟩, h4'⟩ := ih (x :: xs) ys (by simp only [List.length_cons]; omega)
          rw [if_neg e]
          constructor
          · rcases Nat.le_total (lcs xs (y :: ys)) (lcs (x :: xs) ys) with hl | hl
            · exact ⟨s', h1', h2'.cons y, by rw [h3']; omega⟩
            · exact ⟨s, h1.cons x, h2, by rw [h3]; omega⟩
          · intro t t1 t2
            cases t with
            | nil => simp
            | cons z t =>
              by_cases hz : z = x
              · have : (z :: t).Sublist ys := by
                  cases t2 with
                  | cons _ h => exact h
                  | cons_cons _ h => exact (e hz.symm).elim
                have := h4' _ t1 this
                omega
              · have : (z :: t).Sublist xs := by
                  cases t1 with
                  | cons _ h => exact h
                  | cons_cons _ h => exact (hz rfl).elim
                have := h4 _ this t2
                omega
theorem lcs_ex (a b : List Int) : ∃ s : List Int, s.Sublist a ∧ s.Sublist b ∧ s.length = lcs a b := (lcs_sub _ a b (Nat.le_refl _)).1
theorem lcs_max {a b s : List Int} (h1 : s.Sublist a) (h2 : s.Sublist b) : s.length ≤ lcs a b := (lcs_sub _ a b (Nat.le_refl _)).2 s h1 h2
theorem lcs_comm (a b : List Int) : lcs a b = lcs b a := by
  obtain ⟨s, h1, h2, h3⟩ := lcs_ex a b
  obtain ⟨t, t1, t2, t3⟩ := lcs_ex b a
  have := lcs_max h2 h1
  have := lcs_max t2 t1
  omega
theorem lcs_reverse (a b : List Int) : lcs a.reverse b.reverse = lcs a b := by
  obtain ⟨s, h1, h2, h3⟩ := lcs_ex a b
  obtain ⟨t, t1, t2, t3⟩ := lcs_ex a.reverse b.reverse
  have e1 := lcs_max h1.reverse h2.reverse
  have e2 := lcs_max (by simpa using t1.reverse) (by simpa using t2.reverse : t.reverse.Sublist b) (a := a)
  rw [List.length_reverse] at e1 e2
  omega
theorem lcs_ahead (m a b : List Int) : m.length + lcs a b ≤ lcs (m ++ a) (m ++ b) := by
  obtain ⟨s, h1, h2, h3⟩ := lcs_ex a b
  have := lcs_max (h1.append_left m) (h2.append_left m)
  rw [List.length_append] at this
  omega
theorem lcs_snoc_left (x : Int) (xs ys : List Int) : lcs (x :: xs) ys ≤ lcs xs ys + 1 := by
  obtain ⟨s, h1, h2, h3⟩ := lcs_ex (x :: xs) ys
  have := lcs_max (s := s.tail) h1.tail ((List.tail_sublist s).trans h2)
  rw [List.length_tail, List.tail_cons] at this
  omega
/-- The reference's entry. -/
def Pc (a b : List Int) (i k : Nat) : Int := (lcs (a.take i).reverse (b.take k).reverse : Int)
theorem Pc_zero_left (a b : List Int) (k : Nat) : Pc a b 0 k = 0 := by unfold Pc; rw [List.take_zero, List.reverse_nil, lcs_nil_left]; rfl
theorem Pc_zero_right (a b : List Int) (i : Nat) : Pc a b i 0 = 0 := by unfold Pc; rw [List.take_zero, List.reverse_nil, lcs_nil_right]; rfl
theorem Pc_full (a b : List Int) : Pc a b a.length b.length = lcs a b := by unfold Pc; rw [List.take_length, List.take_length, lcs_reverse]
theorem Pc_bound (a b : List Int) (i k : Nat) : 0 ≤ Pc a b i k ∧ Pc a b i k ≤ (a.length : Int) := by
  unfold Pc
  have h := lcs_le_left (a.take i).reverse (b.take k).reverse
  rw [List.length_reverse, List.length_take] at h
  omega
theorem Pc_eq {a b : List Int} {i k : Nat} (h1 : i < a.length) (h2 : k < b.length) (h : rd a (i : Int) = rd b (k : Int)) : Pc a b (i + 1) (k + 1) = Pc a b i k + 1 ∧ Pc a b i (k + 1) ≤ Pc a b i k + 1 ∧ Pc a b (i + 1) k ≤ Pc a b i k + 1 := by
  unfold Pc
  rw [rd_take a i h1, rd_take b k h2, List.reverse_append, List.reverse_append, List.reverse_singleton, List.reverse_singleton]
  simp only [List.singleton_append]
  rw [lcs_cons, if_pos h]
  have e1 := lcs_snoc_left (rd b (k : Int)) (b.take k).reverse (a.take i).reverse
  have e2 := lcs_snoc_left (rd a (i : Int)) (a.take i).reverse (b.take k).reverse
  rw [lcs_comm, lcs_comm (b.take k).reverse] at e1
  omega
theorem Pc_ne {a b : List Int} {i k : Nat} (h1 : i < a.length) (h2 : k < b.length) (h : rd a (i : Int) ≠ rd b (k : Int)) : Pc a b (i + 1) (k + 1) = max (Pc a b i (k + 1)) (Pc a b (i + 1) k) := by
  unfold Pc
  rw [rd_take a i h1, rd_take b k h2, List.reverse_append, List.reverse_append, List.reverse_singleton, List.reverse_singleton]
  simp only [List.singleton_append]
  rw [lcs_cons, if_neg h]
  omega
theorem Lc_zero (a b : List Int) : Lc a b 0 0 = lcs a b := rfl
end Go.Proofs.Ytapoajpmmfddmaa.Sc
