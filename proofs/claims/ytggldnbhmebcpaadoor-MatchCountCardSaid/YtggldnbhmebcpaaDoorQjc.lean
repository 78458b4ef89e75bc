/- Part 3 of the texts that YtggldnbhmebcpaaDoorRowMC rests on, joined by a program: what its functions come to. Conditions: those that each theorem states. -/
import Derived.Test.YtggldnbhmebcpaaDoorQjb
import Derived.Lib.ItoaNum
import Derived.Lib.Bytes
set_option linter.unusedVariables false
set_option linter.unusedSimpArgs false
section
namespace Go.Proofs.YtggldnbhmebcpaaDoor.L
open Go.RowKit Go.ChangeShapes Go.WideShapes Go.Proofs.YtggldnbhmebcpaaDoorW.PrintWords Go.Proofs.YtggldnbhmebcpaaDoorW.PrintLast Go.Proofs.YtggldnbhmebcpaaDoorW.PrintMore
attribute [local go_sem] max2_int min2_int max_two min_two max_three min_three max_four min_four
theorem hexDigit_range {x : Nat} (h : x < 16) : 0 ≤ Lib.hexDigit x ∧ Lib.hexDigit x < 256 := by
  unfold Lib.hexDigit
  split <;> omega
def Rg (l : List Int) : Prop := ∀ x ∈ l, 0 ≤ x ∧ x < 256
theorem Rg.nil : Rg [] := fun x h => by cases h
theorem Rg.cons {a : Int} {l : List Int} (h : 0 ≤ a ∧ a < 256) (hl : Rg l) : Rg (a :: l) := fun x hx => by
  rcases List.mem_cons.1 hx with rfl | hx
  · exact h
  · exact hl x hx
theorem Rg.ite {c : Prop} [Decidable c] {a b : List Int} (ha : c → Rg a) (hb : ¬ c → Rg b) : Rg (if c then a else b) := by
  by_cases h : c
  · rw [if_pos h]; exact ha h
  · rw [if_neg h]; exact hb h
theorem hexDigits_range (r : Nat) : ∀ n, ∀ x ∈ Lib.hexDigits r n, 0 ≤ x ∧ x < 256
  | 0, x, h => by cases h
  | n + 1, x, h => by
    unfold Lib.hexDigits at h
    rcases List.mem_cons.1 h with rfl | h
    · exact hexDigit_range (Nat.mod_lt _ (by omega))
    · exact hexDigits_range r n x h
theorem enc_range {r : Int} (h : RuneOk r) : ∀ x ∈ Lib.encodeRuneZ r, 0 ≤ x ∧ x < 256 := by
  intro x hx
  rcases enc_forms h with ⟨e, a, b⟩ | ⟨e, a, b⟩ | ⟨e, a, b⟩ | ⟨e, a, b⟩ <;> rw [e] at hx <;> simp only [List.mem_cons, List.not_mem_nil, or_false] at hx
  · omega
  · rcases hx with rfl | rfl <;> omega
  · rcases hx with rfl | rfl | rfl <;> omega
  · rcases hx with rfl | rfl | rfl | rfl <;> omega
theorem qenc_range (T : Lib.PrintTabs) {k : QKey} (h : k.Ok) : ∀ x ∈ qenc T k, 0 ≤ x ∧ x < 256 := by
  cases k with
  | bad b =>
    have hb : 128 ≤ b ∧ b < 256 := h
    intro x hx
    simp only [qenc, List.mem_cons, List.not_mem_nil, or_false] at hx
    rcases hx with rfl | rfl | rfl | rfl
    · omega
    · omega
    · exact hexDigit_range (by omega)
    · exact hexDigit_range (by omega)
  | rune r =>
    have hr : RuneOk r := h
    show Rg (Lib.escRune T r)
    have two : ∀ a b : Int, 0 ≤ a ∧ a < 256 → 0 ≤ b ∧ b < 256 → Rg [a, b] := fun a b h1 h2 => Rg.cons h1 (Rg.cons h2 Rg.nil)
    unfold Lib.escRune
    refine Rg.ite (fun c => two _ _ (by omega) (by omega)) fun _ => ?_
    refine Rg.ite (fun _ => enc_range hr) fun _ => ?_
    refine Rg.ite (fun c => two _ _ (by omega) (by omega)) fun _ => ?_
    refine Rg.ite (fun c => two _ _ (by omega) (by omega)) fun _ => ?_
    refine Rg.ite (fun c => two _ _ (by omega) (by omega)) fun _ => ?_
    refine Rg.ite (fun c => two _ _ (by omega) (by omega)) fun _ => ?_
    refine Rg.ite (fun c => two _ _ (by omega) (by omega)) fun _ => ?_
    refine Rg.ite (fun c => two _ _ (by omega) (by omega)) fun _ => ?_
    refine Rg.ite (fun c => two _ _ (by omega) (by omega)) fun _ => ?_
    refine Rg.ite (fun c => Rg.cons (by omega) (Rg.cons (by omega) (two _ _ (hexDigit_range (by omega)) (hexDigit_range (by omega))))) fun _ => ?_
    refine Rg.ite (fun c => Rg.cons (by omega) (Rg.cons (by omega) (hexDigits_range _ _))) fun _ => ?_
    refine Rg.ite (fun c => Rg.cons (by omega) (Rg.cons (by omega) (hexDigits_range _ _))) fun _ => ?_
    exact Rg.cons (by omega) (Rg.cons (by omega) (hexDigits_range _ _))
theorem quoteFrom_range (T : Lib.PrintTabs) : ∀ (f : Nat) (s : ByteArray), ∀ x ∈ Lib.quoteFrom T f s, 0 ≤ x ∧ x < 256
  | 0, s, x, h => by cases h
  | f + 1, s, x, h => by
    unfold Lib.quoteFrom at h
    split at h
    · rename_i h0
      rcases List.mem_append.1 h with h | h
      · rw [qkey_step] at h
        exact qenc_range T (step_bytes s h0).1 x h
      · exact quoteFrom_range T f _ x h
    · cases h
theorem quoteZ_range (T : Lib.PrintTabs) (s : ByteArray) : ∀ x ∈ Lib.quoteZ T s, 0 ≤ x ∧ x < 256 := by
  intro x h
  unfold Lib.quoteZ at h
  rcases List.mem_cons.1 h with rfl | h
  · omega
  rcases List.mem_append.1 h with h | h
  · exact quoteFrom_range T _ _ x h
  · simp only [List.mem_cons, List.not_mem_nil, or_false] at h; omega
def back (l : List UInt8) : List Int := l.map fun b => (b.toNat : Int)
theorem back_bytes {l : List Int} (h : ∀ x ∈ l, 0 ≤ x ∧ x < 256) : back (Lib.bytesOf l) = l := by
  induction l with
  | nil => rfl
  | cons x l ih =>
    have h1 := h x (by simp)
    have h2 : back (Lib.bytesOf (x :: l)) = ((UInt8.ofNat x.toNat).toNat : Int) :: back (Lib.bytesOf l) := rfl
    rw [h2, ih (fun y hy => h y (by simp [hy]))]
    congr 1
    have : (UInt8.ofNat x.toNat).toNat = x.toNat % 256 := by simp
    rw [this]
    omega
theorem back_append (a b : List UInt8) : back (a ++ b) = back a ++ back b := List.map_append
theorem back_inj {a b : List UInt8} (h : back a = back b) : a = b := by
  refine (List.map_inj_right (fun x y e => ?_)).1 h
  exact UInt8.toNat_inj.1 (by omega)
def qB (T : Lib.PrintTabs) (s : ByteArray) : List UInt8 := Lib.bytesOf (Lib.quoteZ T s)
theorem qB_inj (T : Lib.PrintTabs) {s s' : ByteArray} {r r' : List UInt8} (h : qB T s ++ r = qB T s' ++ r') : s = s' ∧ r = r' := by
  have h1 : back (qB T s ++ r) = back (qB T s' ++ r') := by rw [h]
  rw [back_append, back_append, qB, qB, back_bytes (quoteZ_range T s), back_bytes (quoteZ_range T s')] at h1
  obtain ⟨h2, h3⟩ := quote_inj T h1
  exact ⟨h2, back_inj h3⟩
theorem qB_head (T : Lib.PrintTabs) (s : ByteArray) : ∃ l, qB T s = 34 :: l := ⟨_, rfl⟩
def numC (x : UInt8) : Prop := x = 45 ∨ (48 ≤ x.toNat ∧ x.toNat ≤ 57)
theorem dec_digit (u : Nat) : ∀ x ∈ Lib.decDigits u, 48 ≤ x.toNat ∧ x.toNat ≤ 57 := by
  induction u using Nat.strongRecOn with
  | _ u ih =>
    intro x hx
    rw [Lib.decDigits] at hx
    split at hx
    · rename_i h
      simp only [List.mem_cons, List.not_mem_nil, or_false] at hx
      subst hx
      have : (UInt8.ofNat (48 + u)).toNat = (48 + u) % 256 := by simp
      rw [this]; omega
    · rename_i h
      rcases List.mem_append.1 hx with hx | hx
      · exact ih (u / 10) (by omega) x hx
      · simp only [List.mem_cons, List.not_mem_nil, or_false] at hx
        subst hx
        have : (UInt8.ofNat (48 + u % 10)).toNat = (48 + u % 10) % 256 := by simp
        rw [this]; omega
def decV (l : List UInt8) : Nat := l.foldl (fun a x => 10 * a + (x.toNat - 48)) 0
theorem decV_dec (u : Nat) : decV (Lib.decDigits u) = u := by
  induction u using Nat.strongRecOn with
  | _ u ih =>
    rw [Lib.decDigits]
    split
    · rename_i h
      show 10 * 0 + ((UInt8.ofNat (48 + u)).toNat - 48) = u
      have : (UInt8.ofNat (48 + u)).toNat = (48 + u) % 256 := by simp
      rw [this]; omega
    · rename_i h
      unfold decV
      rw [List.foldl_append]
      have := ih (u / 10) (by omega)
      unfold decV at this
      rw [this]
      show 10 * (u / 10) + ((UInt8.ofNat (48 + u % 10)).toNat - 48) = u
      have : (UInt8.ofNat (48 + u % 10)).toNat = (48 + u % 10) % 256 := by simp
      rw [this]; omega
theorem dec_inj {u v : Nat} (h : Lib.decDigits u = Lib.decDigits v) : u = v := by rw [← decV_dec u, ← decV_dec v, h]
theorem dec_ne (u : Nat) : ∃ x l, Lib.decDigits u = x :: l ∧ 48 ≤ x.toNat := by
  cases h : Lib.decDigits u with
  | nil =>
    have h1 : decV (Lib.decDigits u) = 0 := by rw [h]; rfl
    rw [decV_dec] at h1
    subst h1
    rw [Lib.decDigits, dif_pos (by omega)] at h
    cases h
  | cons x l => exact ⟨x, l, rfl, (dec_digit u x (by rw [h]; simp)).1⟩
theorem itoa_num (n : Int) : ∀ x ∈ Lib.itoa n, numC x := by
  intro x hx
  unfold Lib.itoa at hx
  split at hx
  · rcases List.mem_cons.1 hx with rfl | hx
    · exact .inl rfl
    · exact .inr (dec_digit _ x hx)
  · exact .inr (dec_digit _ x hx)
theorem itoa_head (n : Int) : ∃ x l, Lib.itoa n = x :: l ∧ numC x := by
  cases h : Lib.itoa n with
  | nil =>
    unfold Lib.itoa at h
    split at h
    · cases h
    · obtain ⟨x, l, e, _⟩ := dec_ne n.toNat
      rw [e] at h; cases h
  | cons x l => exact ⟨x, l, rfl, itoa_num n x (by rw [h]; simp)⟩
theorem itoa_inj {a b : Int} (h : Lib.itoa a = Lib.itoa b) : a = b := by
  unfold Lib.itoa at h
  split at h <;> split at h
  · injection h with _ h
    have := dec_inj h
    omega
  · obtain ⟨x, l, e, hx⟩ := dec_ne b.toNat
    rw [e] at h
    injection h with h1 _
    subst h1
    exact absurd hx (by decide)
  · obtain ⟨x, l, e, hx⟩ := dec_ne a.toNat
    rw [e] at h
    injection h with h1 _
    subst h1
    exact absurd hx (by decide)
  · have := dec_inj h
    omega
theorem span_eq {p : UInt8 → Prop} : ∀ {l l' r r' : List UInt8}, (∀ x ∈ l, p x) → (∀ x ∈ l', p x) → (∀ x t, r = x :: t → ¬ p x) → (∀ x t, r' = x :: t → ¬ p x) → l ++ r = l' ++ r' → l = l' ∧ r = r'
  | [], [], _, _, _, _, _, _, h => ⟨rfl, h⟩
  | [], y :: l', r, r', _, h2, h3, _, h => absurd (h2 y (by simp)) (h3 y _ (by simpa using h))
  | x :: l, [], r, r', h1, _, _, h4, h => absurd (h1 x (by simp)) (h4 x (l ++ r) (by simpa using h.symm))
  | x :: l, y :: l', r, r', h1, h2, h3, h4, h => by
    rw [List.cons_append, List.cons_append] at h
    injection h with e h
    obtain ⟨e1, e2⟩ := span_eq (fun z hz => h1 z (by simp [hz])) (fun z hz => h2 z (by simp [hz])) h3 h4 h
    exact ⟨by rw [e, e1], e2⟩
def Stop (r : List UInt8) : Prop := r = [] ∨ ∃ t, r = 32 :: t ∧ ∀ x u, t = x :: u → ¬ numC x
theorem not_num32 : ¬ numC 32 := fun h => by rcases h with h | h <;> revert h <;> decide
def wNums (l : List Int) : List UInt8 := l.flatMap fun v => 32 :: Lib.itoa v
theorem wNums_cons (v : Int) (l : List Int) (r : List UInt8) : wNums (v :: l) ++ r = 32 :: (Lib.itoa v ++ (wNums l ++ r)) := by simp [wNums]
theorem wNums_stop (l : List Int) {r : List UInt8} (h : Stop r) : ∀ x t, wNums l ++ r = x :: t → ¬ numC x := by
  intro x t e
  cases l with
  | nil =>
    rcases h with rfl | ⟨t', rfl, _⟩
    · cases e
    · have e : (32 : UInt8) :: t' = x :: t := e
      injection e with e _; subst e; exact not_num32
  | cons v l =>
    rw [wNums_cons] at e
    injection e with e _; subst e; exact not_num32
theorem wNums_inj : ∀ {l l' : List Int} {r r' : List UInt8}, Stop r → Stop r' → wNums l ++ r = wNums l' ++ r' → l = l' ∧ r = r'
  | [], [], _, _, _, _, h => ⟨rfl, h⟩
  | [], v :: l', r, r', h1, _, h => by
    rw [wNums_cons] at h
    have h : r = 32 :: (Lib.itoa v ++ (wNums l' ++ r')) := h
    obtain ⟨x, u, e, hx⟩ := itoa_head v
    rcases h1 with rfl | ⟨t, rfl, ht⟩
    · cases h
    · injection h with _ h
      exact absurd hx (ht x (u ++ (wNums l' ++ r')) (by rw [h, e]; rfl))
  | v :: l, [], r, r', _, h2, h => by
    rw [wNums_cons] at h
    have h : 32 :: (Lib.itoa v ++ (wNums l ++ r)) = r' := h
    obtain ⟨x, u, e, hx⟩ := itoa_head v
    rcases h2 with rfl | ⟨t, rfl, ht⟩
    · cases h
    · injection h with _ h
      exact absurd hx (ht x (u ++ (wNums l ++ r)) (by rw [← h, e]; rfl))
  | v :: l, v' :: l', r, r', h1, h2, h => by
    rw [wNums_cons, wNums_cons] at h
    injection h with _ h
    obtain ⟨e1, e2⟩ := span_eq (itoa_num v) (itoa_num v') (wNums_stop l h1) (wNums_stop l' h2) h
    obtain ⟨e3, e4⟩ := wNums_inj h1 h2 e2
    exact ⟨by rw [itoa_inj e1, e3], e4⟩
def wTexts (T : Lib.PrintTabs) (l : List ByteArray) : List UInt8 := l.flatMap fun s => 32 :: qB T s
theorem wTexts_cons (T : Lib.PrintTabs) (v : ByteArray) (l : List ByteArray) (r : List UInt8) : wTexts T (v :: l) ++ r = 32 :: (qB T v ++ (wTexts T l ++ r)) := by simp [wTexts]
theorem wTexts_inj (T : Lib.PrintTabs) : ∀ {l l' : List ByteArray} {r r' : List UInt8}, wTexts T l ++ 32 :: 47 :: r = wTexts T l' ++ 32 :: 47 :: r' → l = l' ∧ r = r'
  | [], [], r, r', h => by
    have h : 32 :: 47 :: r = 32 :: 47 :: r' := h
    injection h with _ h
    injection h with _ h
    exact ⟨rfl, h⟩
  | [], v :: l', r, r', h => by
    rw [wTexts_cons] at h
    have h : 32 :: 47 :: r = 32 :: (qB T v ++ (wTexts T l' ++ 32 :: 47 :: r')) := h
    obtain ⟨u, e⟩ := qB_head T v
    rw [e] at h
    injection h with _ h
    injection h with h _
    exact absurd h (by decide)
  | v :: l, [], r, r', h => by
    rw [wTexts_cons] at h
    have h : 32 :: (qB T v ++ (wTexts T l ++ 32 :: 47 :: r)) = 32 :: 47 :: r' := h
    obtain ⟨u, e⟩ := qB_head T v
    rw [e] at h
    injection h with _ h
    injection h with h _
    exact absurd h (by decide)
  | v :: l, v' :: l', r, r', h => by
    rw [wTexts_cons, wTexts_cons] at h
    injection h with _ h
    obtain ⟨e1, e2⟩ := qB_inj T h
    obtain ⟨e3, e4⟩ := wTexts_inj T e2
    exact ⟨by rw [e1, e3], e4⟩
theorem texts_stop (T : Lib.PrintTabs) (l : List ByteArray) (r : List UInt8) : Stop (wTexts T l ++ 32 :: 47 :: r) := by
  cases l with
  | nil => exact .inr ⟨47 :: r, rfl, fun x u e => by injection e with e _; subst e; intro h; rcases h with h | h <;> revert h <;> decide⟩
  | cons v l =>
    obtain ⟨u, e⟩ := qB_head T v
    refine .inr ⟨_, wTexts_cons T v l _, fun x u' e' => ?_⟩
    rw [e] at e'
    injection e' with e' _
    subst e'
    intro h; rcases h with h | h <;> revert h <;> decide
def wordL (T : Lib.PrintTabs) (kind : Int) (ints : List Int) (texts : List ByteArray) (kids : List Int) : List UInt8 :=
  Lib.itoa kind ++ (wNums ints ++ (wTexts T texts ++ 32 :: 47 :: wNums kids))
theorem word_inj (T : Lib.PrintTabs) {k k' : Int} {i i' : List Int} {t t' : List ByteArray} {q q' : List Int} : wordL T k i t q = wordL T k' i' t' q' ↔ (k = k' ∧ i = i' ∧ t = t' ∧ q = q') := by
  refine ⟨fun h => ?_, fun ⟨h1, h2, h3, h4⟩ => by rw [h1, h2, h3, h4]⟩
  unfold wordL at h
  obtain ⟨e1, h⟩ := span_eq (itoa_num k) (itoa_num k') (wNums_stop i (texts_stop T t _)) (wNums_stop i' (texts_stop T t' _)) h
  obtain ⟨e2, h⟩ := wNums_inj (texts_stop T t _) (texts_stop T t' _) h
  obtain ⟨e3, h⟩ := wTexts_inj T h
  obtain ⟨e4, _⟩ := wNums_inj (l := q) (l' := q') (r := []) (r' := []) (.inl rfl) (.inl rfl) (by rw [List.append_nil, List.append_nil]; exact h)
  exact ⟨itoa_inj e1, e2, e3, e4⟩
end Go.Proofs.YtggldnbhmebcpaaDoor.L
end
