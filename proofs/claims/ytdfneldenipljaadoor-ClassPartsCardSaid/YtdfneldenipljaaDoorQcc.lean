/- Part 3 of the texts that YtdfneldenipljaaDoorRowCP rests on, joined by a program: what its functions come to. Conditions: those that each theorem states. -/
import Derived.Test.YtdfneldenipljaaDoorQcb
import Derived.Lib.QuoteLoop
import Derived.Lib.Small
set_option linter.unusedVariables false
set_option linter.unusedSimpArgs false
section
namespace Go.Proofs.YtdfneldenipljaaDoor.L
open Go.RowKit Go.ChangeShapes Go.WideShapes Go.Proofs.YtdfneldenipljaaDoorW.PrintWords Go.Proofs.YtdfneldenipljaaDoorW.PrintLast Go.Proofs.YtdfneldenipljaaDoorW.PrintMore
attribute [local go_sem] max2_int min2_int max_two min_two max_three min_three max_four min_four
theorem hexDigit_inj {x y : Nat} (hx : x < 16) (hy : y < 16) (h : Lib.hexDigit x = Lib.hexDigit y) : x = y := by
  unfold Lib.hexDigit at h
  split at h <;> split at h <;> omega
theorem hexDigits_inj {r r' : Nat} {t t' : List Int} : ∀ n, Lib.hexDigits r n ++ t = Lib.hexDigits r' n ++ t' → r % 16 ^ n = r' % 16 ^ n ∧ t = t'
  | 0, h => ⟨by rw [Nat.pow_zero, Nat.mod_one, Nat.mod_one], h⟩
  | n + 1, h => by
    unfold Lib.hexDigits at h
    rw [List.cons_append, List.cons_append] at h
    injection h with h1 h2
    obtain ⟨h3, h4⟩ := hexDigits_inj n h2
    have h5 := hexDigit_inj (Nat.mod_lt _ (by omega)) (Nat.mod_lt _ (by omega)) h1
    refine ⟨?_, h4⟩
    rw [Nat.pow_succ, Nat.mod_mul, Nat.mod_mul, h3, h5]
def RuneOk (r : Int) : Prop := (0 ≤ r ∧ r < 55296) ∨ (57343 < r ∧ r ≤ 1114111)
theorem enc_forms {r : Int} (h : RuneOk r) : (Lib.encodeRuneZ r = [r] ∧ 0 ≤ r ∧ r ≤ 127) ∨ (Lib.encodeRuneZ r = [192 + r / 64, 128 + r % 64] ∧ 128 ≤ r ∧ r ≤ 2047) ∨
    (Lib.encodeRuneZ r = [224 + r / 4096, 128 + r / 64 % 64, 128 + r % 64] ∧ 2048 ≤ r ∧ r ≤ 65535) ∨ (Lib.encodeRuneZ r = [240 + r / 262144, 128 + r / 4096 % 64, 128 + r / 64 % 64, 128 + r % 64] ∧ 65536 ≤ r ∧ r ≤ 1114111) := by
  unfold RuneOk at h
  unfold Lib.encodeRuneZ
  by_cases c1 : 0 ≤ r ∧ r ≤ 127
  · rw [if_pos c1]; exact .inl ⟨rfl, c1⟩
  · rw [if_neg c1]
    by_cases c2 : 128 ≤ r ∧ r ≤ 2047
    · rw [if_pos c2]; exact .inr (.inl ⟨rfl, c2⟩)
    · rw [if_neg c2]
      by_cases c3 : (2048 ≤ r ∧ r < 55296) ∨ (57343 < r ∧ r ≤ 65535)
      · rw [if_pos c3]; exact .inr (.inr (.inl ⟨rfl, by omega, by omega⟩))
      · rw [if_neg c3, if_pos (by omega)]
        exact .inr (.inr (.inr ⟨rfl, by omega, by omega⟩))
theorem enc_inj {r r' : Int} (h : RuneOk r) (h' : RuneOk r') {t t' : List Int} (e : Lib.encodeRuneZ r ++ t = Lib.encodeRuneZ r' ++ t') : r = r' ∧ t = t' := by
  rcases enc_forms h with ⟨e1, a, b⟩ | ⟨e1, a, b⟩ | ⟨e1, a, b⟩ | ⟨e1, a, b⟩ <;> rcases enc_forms h' with ⟨e2, a', b'⟩ | ⟨e2, a', b'⟩ | ⟨e2, a', b'⟩ | ⟨e2, a', b'⟩ <;> rw [e1, e2] at e <;>
    simp only [List.cons_append, List.nil_append, List.cons.injEq] at e
  all_goals first
    | exact ⟨by omega, e.2⟩
    | exact ⟨by omega, e.2.2⟩
    | exact ⟨by omega, e.2.2.2⟩
    | exact ⟨by omega, e.2.2.2.2⟩
    | (exfalso; omega)
theorem enc_head {r : Int} (h : RuneOk r) (h1 : ¬ r = 34) (h2 : ¬ r = 92) : ∃ x l, Lib.encodeRuneZ r = x :: l ∧ x ≠ 34 ∧ x ≠ 92 := by
  rcases enc_forms h with ⟨e1, a, b⟩ | ⟨e1, a, b⟩ | ⟨e1, a, b⟩ | ⟨e1, a, b⟩
  all_goals exact ⟨_, _, e1, by omega, by omega⟩
def unesc (c : Int) : Int := if c = 97 then 7 else if c = 98 then 8 else if c = 102 then 12 else if c = 110 then 10 else if c = 114 then 13 else if c = 116 then 9 else if c = 118 then 11 else c
inductive QKey where
  | bad (b : Nat)
  | rune (r : Int)
def QKey.Ok : QKey → Prop
  | .bad b => 128 ≤ b ∧ b < 256
  | .rune r => RuneOk r
def qenc (T : Lib.PrintTabs) : QKey → List Int
  | .bad b => [92, 120, Lib.hexDigit (b / 16), Lib.hexDigit (b % 16)]
  | .rune r => Lib.escRune T r
theorem qenc_forms (T : Lib.PrintTabs) {k : QKey} (h : k.Ok) :
    (∃ c, qenc T k = [92, c] ∧ k = .rune (unesc c) ∧ c ≠ 120 ∧ c ≠ 117 ∧ c ≠ 85) ∨
    (∃ v : Nat, v < 256 ∧ qenc T k = [92, 120, Lib.hexDigit (v / 16), Lib.hexDigit (v % 16)] ∧ k = if v < 128 then .rune (v : Int) else .bad v) ∨
    (∃ v : Nat, v < 65536 ∧ qenc T k = 92 :: 117 :: Lib.hexDigits v 4 ∧ k = .rune (v : Int)) ∨
    (∃ v : Nat, v < 4294967296 ∧ qenc T k = 92 :: 85 :: Lib.hexDigits v 8 ∧ k = .rune (v : Int)) ∨
    (∃ r, RuneOk r ∧ ¬ r = 34 ∧ ¬ r = 92 ∧ qenc T k = Lib.encodeRuneZ r ∧ k = .rune r) := by
  cases k with
  | bad b => exact .inr (.inl ⟨b, h.2, rfl, by rw [if_neg (by have := h.1; omega)]⟩)
  | rune r =>
    have hr : RuneOk r := h
    have hv : Lib.validRune r = true := by
      unfold RuneOk at hr
      simp only [Lib.validRune, decide_eq_true_eq]
      omega
    show (∃ c, Lib.escRune T r = [92, c] ∧ QKey.rune r = .rune (unesc c) ∧ c ≠ 120 ∧ c ≠ 117 ∧ c ≠ 85) ∨ (∃ v : Nat, v < 256 ∧ Lib.escRune T r = _ ∧ QKey.rune r = _) ∨ (∃ v : Nat, v < 65536 ∧ Lib.escRune T r = _ ∧ QKey.rune r = _) ∨ (∃ v : Nat, v < 4294967296 ∧ Lib.escRune T r = _ ∧ QKey.rune r = _) ∨ (∃ r', RuneOk r' ∧ ¬ r' = 34 ∧ ¬ r' = 92 ∧ Lib.escRune T r = Lib.encodeRuneZ r' ∧ QKey.rune r = .rune r')
    unfold Lib.escRune
    by_cases c0 : r = 34 ∨ r = 92
    · rw [if_pos c0]
      refine .inl ⟨r, rfl, ?_, by omega, by omega, by omega⟩
      rcases c0 with rfl | rfl <;> rfl
    rw [if_neg c0]
    by_cases c1 : Lib.isPrintR T r = true
    · rw [if_pos c1]
      exact .inr (.inr (.inr (.inr ⟨r, hr, fun e => c0 (.inl e), fun e => c0 (.inr e), rfl, rfl⟩)))
    rw [if_neg c1]
    by_cases c2 : r = 7
    · rw [if_pos c2]; subst c2; exact .inl ⟨97, rfl, rfl, by omega, by omega, by omega⟩
    rw [if_neg c2]
    by_cases c3 : r = 8
    · rw [if_pos c3]; subst c3; exact .inl ⟨98, rfl, rfl, by omega, by omega, by omega⟩
    rw [if_neg c3]
    by_cases c4 : r = 12
    · rw [if_pos c4]; subst c4; exact .inl ⟨102, rfl, rfl, by omega, by omega, by omega⟩
    rw [if_neg c4]
    by_cases c5 : r = 10
    · rw [if_pos c5]; subst c5; exact .inl ⟨110, rfl, rfl, by omega, by omega, by omega⟩
    rw [if_neg c5]
    by_cases c6 : r = 13
    · rw [if_pos c6]; subst c6; exact .inl ⟨114, rfl, rfl, by omega, by omega, by omega⟩
    rw [if_neg c6]
    by_cases c7 : r = 9
    · rw [if_pos c7]; subst c7; exact .inl ⟨116, rfl, rfl, by omega, by omega, by omega⟩
    rw [if_neg c7]
    by_cases c8 : r = 11
    · rw [if_pos c8]; subst c8; exact .inl ⟨118, rfl, rfl, by omega, by omega, by omega⟩
    rw [if_neg c8]
    have h0 : 0 ≤ r := by unfold RuneOk at hr; omega
    obtain ⟨v, rfl⟩ : ∃ v : Nat, r = (v : Int) := ⟨r.toNat, by omega⟩
    by_cases c9 : (v : Int) < 32 ∨ (v : Int) = 127
    · rw [if_pos c9, Int.toNat_natCast]
      exact .inr (.inl ⟨v, by omega, rfl, by rw [if_pos (by omega)]⟩)
    rw [if_neg c9, if_neg (by rw [hv]; simp)]
    by_cases c11 : (v : Int) < 65536
    · rw [if_pos c11, Int.toNat_natCast]
      exact .inr (.inr (.inl ⟨v, by omega, rfl, rfl⟩))
    rw [if_neg c11, Int.toNat_natCast]
    exact .inr (.inr (.inr (.inl ⟨v, by unfold RuneOk at hr; omega, rfl, rfl⟩)))
theorem qenc_inj (T : Lib.PrintTabs) {k k' : QKey} (h : k.Ok) (h' : k'.Ok) {t t' : List Int} (e : qenc T k ++ t = qenc T k' ++ t') : k = k' ∧ t = t' := by
  rcases qenc_forms T h with ⟨c, e1, k1, n1, n2, n3⟩ | ⟨v, hv, e1, k1⟩ | ⟨v, hv, e1, k1⟩ | ⟨v, hv, e1, k1⟩ | ⟨r, hr, a1, a2, e1, k1⟩ <;>
    rcases qenc_forms T h' with ⟨c', e2, k2, m1, m2, m3⟩ | ⟨v', hv', e2, k2⟩ | ⟨v', hv', e2, k2⟩ | ⟨v', hv', e2, k2⟩ | ⟨r', hr', b1, b2, e2, k2⟩ <;> rw [e1, e2] at e
  case inl.inl =>
    simp only [List.cons_append, List.nil_append, List.cons.injEq] at e
    exact ⟨by rw [k1, k2, e.2.1], e.2.2⟩
  case inr.inl.inr.inl =>
    simp only [List.cons_append, List.nil_append, List.cons.injEq] at e
    obtain ⟨_, _, g1, g2, g3⟩ := e
    have g1 := hexDigit_inj (by omega) (by omega) g1
    have g2 := hexDigit_inj (by omega) (by omega) g2
    have : v = v' := by omega
    exact ⟨by rw [k1, k2, this], g3⟩
  case inr.inr.inl.inr.inr.inl =>
    simp only [List.cons_append, List.cons.injEq] at e
    obtain ⟨g1, g2⟩ := hexDigits_inj 4 e.2.2
    have : v = v' := by omega
    exact ⟨by rw [k1, k2, this], g2⟩
  case inr.inr.inr.inl.inr.inr.inr.inl =>
    simp only [List.cons_append, List.cons.injEq] at e
    obtain ⟨g1, g2⟩ := hexDigits_inj 8 e.2.2
    have : v = v' := by omega
    exact ⟨by rw [k1, k2, this], g2⟩
  case inr.inr.inr.inr.inr.inr.inr.inr =>
    obtain ⟨g1, g2⟩ := enc_inj hr hr' e
    exact ⟨by rw [k1, k2, g1], g2⟩
  case inl.inr.inr.inr.inr =>
    exfalso
    obtain ⟨x, l, e3, x1, x2⟩ := enc_head hr' b1 b2
    rw [e3] at e
    simp only [List.cons_append, List.nil_append, List.cons.injEq] at e
    omega
  case inr.inl.inr.inr.inr.inr =>
    exfalso
    obtain ⟨x, l, e3, x1, x2⟩ := enc_head hr' b1 b2
    rw [e3] at e
    simp only [List.cons_append, List.nil_append, List.cons.injEq] at e
    omega
  case inr.inr.inl.inr.inr.inr.inr =>
    exfalso
    obtain ⟨x, l, e3, x1, x2⟩ := enc_head hr' b1 b2
    rw [e3] at e
    simp only [List.cons_append, List.nil_append, List.cons.injEq] at e
    omega
  case inr.inr.inr.inl.inr.inr.inr.inr =>
    exfalso
    obtain ⟨x, l, e3, x1, x2⟩ := enc_head hr' b1 b2
    rw [e3] at e
    simp only [List.cons_append, List.nil_append, List.cons.injEq] at e
    omega
  case inr.inr.inr.inr.inl =>
    exfalso
    obtain ⟨x, l, e3, x1, x2⟩ := enc_head hr a1 a2
    rw [e3] at e
    simp only [List.cons_append, List.nil_append, List.cons.injEq] at e
    omega
  case inr.inr.inr.inr.inr.inl =>
    exfalso
    obtain ⟨x, l, e3, x1, x2⟩ := enc_head hr a1 a2
    rw [e3] at e
    simp only [List.cons_append, List.nil_append, List.cons.injEq] at e
    omega
  case inr.inr.inr.inr.inr.inr.inl =>
    exfalso
    obtain ⟨x, l, e3, x1, x2⟩ := enc_head hr a1 a2
    rw [e3] at e
    simp only [List.cons_append, List.nil_append, List.cons.injEq] at e
    omega
  case inr.inr.inr.inr.inr.inr.inr.inl =>
    exfalso
    obtain ⟨x, l, e3, x1, x2⟩ := enc_head hr a1 a2
    rw [e3] at e
    simp only [List.cons_append, List.nil_append, List.cons.injEq] at e
    omega
  all_goals
    exfalso
    simp only [List.cons_append, List.nil_append, List.cons.injEq] at e
    omega
theorem qenc_head (T : Lib.PrintTabs) {k : QKey} (h : k.Ok) {t t' : List Int} : ¬ qenc T k ++ t = 34 :: t' := fun e => by
  rcases qenc_forms T h with ⟨c, e1, k1, n1, n2, n3⟩ | ⟨v, hv, e1, k1⟩ | ⟨v, hv, e1, k1⟩ | ⟨v, hv, e1, k1⟩ | ⟨r, hr, a1, a2, e1, k1⟩ <;> rw [e1] at e
  case inr.inr.inr.inr =>
    obtain ⟨x, l, e3, x1, x2⟩ := enc_head hr a1 a2
    rw [e3] at e
    simp only [List.cons_append, List.nil_append, List.cons.injEq] at e
    omega
  all_goals
    simp only [List.cons_append, List.nil_append, List.cons.injEq] at e
    omega
def qkey (s : ByteArray) : QKey := if (Utf8.decode s 0).2 = 1 ∧ (Utf8.decode s 0).1 = 65533 then .bad (s.get! 0).toNat else .rune ((Utf8.decode s 0).1 : Int)
theorem qkey_step (T : Lib.PrintTabs) (s : ByteArray) : Lib.quoteStep T s = qenc T (qkey s) := by
  unfold Lib.quoteStep qkey
  split <;> rfl
def lbytes (s : ByteArray) : List Nat := s.data.toList.map UInt8.toNat
theorem lbytes_len (s : ByteArray) : (lbytes s).length = s.size := by simp [lbytes]
theorem get_lbytes (s : ByteArray) (i : Nat) : (s.get! i).toNat = (lbytes s).getD i 0 := by
  unfold lbytes
  by_cases h : i < s.size
  · have e : s.get! i = s[i] := by
      cases s with
      | mk d => exact getElem!_pos d i h
    rw [e, List.getD_eq_getElem?_getD, List.getElem?_map]
    have h2 : i < s.data.toList.length := by simpa using h
    rw [List.getElem?_eq_getElem h2]
    rfl
  · have e : s.get! i = 0 := by
      cases s with
      | mk d => exact getElem!_neg d i h
    rw [e, List.getD_eq_getElem?_getD, List.getElem?_eq_none (by simpa using h)]
    rfl
def kbytes : QKey → List Int
  | .bad b => [(b : Int)]
  | .rune r => Lib.encodeRuneZ r
theorem decode_bytes (b0 : Nat) (l : List Nat) (hb : ∀ x ∈ b0 :: l, x < 256) :
    let d := Lib.decodeN (l.length + 1) b0 (l.getD 0 0) (l.getD 1 0) (l.getD 2 0)
    ((d.2 = 1 ∧ d.1 = 65533) ∧ 128 ≤ b0) ∨ (¬ (d.2 = 1 ∧ d.1 = 65533) ∧ d.2 ≤ l.length + 1 ∧ Lib.encodeRuneZ (d.1 : Int) = ((b0 :: l).take d.2).map (fun x : Nat => (x : Int))) := by
  intro d
  have h0 : b0 < 256 := hb b0 (by simp)
  show ((Lib.decodeN _ _ _ _ _).2 = 1 ∧ (Lib.decodeN _ _ _ _ _).1 = 65533) ∧ _ ∨ ¬ ((Lib.decodeN _ _ _ _ _).2 = 1 ∧ (Lib.decodeN _ _ _ _ _).1 = 65533) ∧ (Lib.decodeN _ _ _ _ _).2 ≤ _ ∧ Lib.encodeRuneZ ((Lib.decodeN _ _ _ _ _).1 : Int) = ((b0 :: l).take (Lib.decodeN _ _ _ _ _).2).map _
  unfold Lib.decodeN
  by_cases c1 : b0 < 128
  · rw [if_pos c1]
    refine .inr ⟨fun h => by have := h.2; simp only at this; omega, by simp, ?_⟩
    rw [Lib.encodeRuneZ_one (by omega) (by omega)]
    rfl
  rw [if_neg c1]
  have bad : ((((65533, 1) : Nat × Nat).2 = 1 ∧ ((65533, 1) : Nat × Nat).1 = 65533) ∧ 128 ≤ b0) := ⟨⟨rfl, rfl⟩, by omega⟩
  match l, hb with
  | [], _ =>
    rw [if_neg (fun h => by have := h.2.1; simp at this), if_neg (fun h => by have := h.2.1.1; simp at this), if_neg (fun h => by have := h.2.1.1; simp at this)]
    exact .inl bad
  | b1 :: l1, hb =>
    have h1 : b1 < 256 := hb b1 (by simp)
    have g0 : (b1 :: l1).getD 0 0 = b1 := rfl
    rw [g0]
    by_cases c2 : b0 / 32 = 6 ∧ (1 < (b1 :: l1).length + 1 ∧ b1 / 64 = 2)
    · rw [if_pos c2]
      obtain ⟨p1, _, p2⟩ := c2
      by_cases c3 : b0 % 32 * 64 + b1 % 64 ≥ 128
      · rw [if_pos c3]
        refine .inr ⟨fun h => by have := h.1; simp only at this; omega, by simp, ?_⟩
        simp only
        have e1 : Lib.encodeRuneZ ((b0 % 32 * 64 + b1 % 64 : Nat) : Int) = [192 + ((b0 % 32 * 64 + b1 % 64 : Nat) : Int) / 64, 128 + ((b0 % 32 * 64 + b1 % 64 : Nat) : Int) % 64] := Lib.encodeRuneZ_two (by omega) (by omega)
        rw [e1]
        simp only [List.take_succ_cons, List.take_zero, List.map_cons, List.map_nil, List.cons.injEq, and_true]
        omega
      · rw [if_neg c3]
        exact .inl bad
    rw [if_neg c2]
    match l1, hb with
    | [], _ =>
      rw [if_neg (fun h => by have := h.2.2.1; simp at this), if_neg (fun h => by have := h.2.2.1.1; simp at this)]
      exact .inl bad
    | b2 :: l2, hb =>
      have h2 : b2 < 256 := hb b2 (by simp)
      have g1 : (b1 :: b2 :: l2).getD 1 0 = b2 := rfl
      rw [g1]
      by_cases c4 : b0 / 16 = 14 ∧ (1 < (b1 :: b2 :: l2).length + 1 ∧ b1 / 64 = 2) ∧ (2 < (b1 :: b2 :: l2).length + 1 ∧ b2 / 64 = 2)
      · rw [if_pos c4]
        obtain ⟨p1, ⟨_, p2⟩, _, p3⟩ := c4
        split
        · rename_i c5
          refine .inr ⟨fun h => by have := h.1; simp only at this; omega, by simp, ?_⟩
          simp only
          have hr : RuneOk ((b0 % 16 * 4096 + b1 % 64 * 64 + b2 % 64 : Nat) : Int) := by unfold RuneOk; omega
          rcases enc_forms hr with ⟨e1, a, b⟩ | ⟨e1, a, b⟩ | ⟨e1, a, b⟩ | ⟨e1, a, b⟩
          · omega
          · omega
          · rw [e1]
            simp only [List.take_succ_cons, List.take_zero, List.map_cons, List.map_nil, List.cons.injEq, and_true]
            omega
          · omega
        · exact .inl bad
      rw [if_neg c4]
      match l2, hb with
      | [], _ =>
        rw [if_neg (fun h => by have := h.2.2.2.1; simp at this)]
        exact .inl bad
      | b3 :: l3, hb =>
        have h3 : b3 < 256 := hb b3 (by simp)
        have g2 : (b1 :: b2 :: b3 :: l3).getD 2 0 = b3 := rfl
        rw [g2]
        by_cases c6 : b0 / 8 = 30 ∧ (1 < (b1 :: b2 :: b3 :: l3).length + 1 ∧ b1 / 64 = 2) ∧ (2 < (b1 :: b2 :: b3 :: l3).length + 1 ∧ b2 / 64 = 2) ∧ (3 < (b1 :: b2 :: b3 :: l3).length + 1 ∧ b3 / 64 = 2)
        · rw [if_pos c6]
          obtain ⟨p1, ⟨_, p2⟩, ⟨_, p3⟩, _, p4⟩ := c6
          split
          · rename_i c7
            refine .inr ⟨fun h => by have := h.1; simp only at this; omega, by simp, ?_⟩
            simp only
            have hr : RuneOk ((b0 % 8 * 262144 + b1 % 64 * 4096 + b2 % 64 * 64 + b3 % 64 : Nat) : Int) := by unfold RuneOk; omega
            rcases enc_forms hr with ⟨e1, a, b⟩ | ⟨e1, a, b⟩ | ⟨e1, a, b⟩ | ⟨e1, a, b⟩
            · omega
            · omega
            · omega
            · rw [e1]
              simp only [List.take_succ_cons, List.take_zero, List.map_cons, List.map_nil, List.cons.injEq, and_true]
              omega
          · exact .inl bad
        rw [if_neg c6]
        exact .inl bad
theorem step_bytes (s : ByteArray) (h : 0 < s.size) : (qkey s).Ok ∧ (kbytes (qkey s)).length = (Utf8.decode s 0).2 ∧ kbytes (qkey s) = ((lbytes s).take (Utf8.decode s 0).2).map (fun x : Nat => (x : Int)) := by
  have hd := Lib.decode_at s 0
  rw [get_lbytes, get_lbytes, get_lbytes, get_lbytes] at hd
  have hl := lbytes_len s
  have hb : ∀ x ∈ lbytes s, x < 256 := fun x hx => by
    obtain ⟨b, _, rfl⟩ := List.mem_map.1 hx
    exact UInt8.toNat_lt b
  have hg0 : (s.get! 0).toNat = (lbytes s).getD 0 0 := get_lbytes s 0
  have hok := Lib.rune_valid s
  unfold qkey
  rw [hg0]
  generalize lbytes s = lb at hd hl hb
  match lb, hl, hb with
  | [], hl, _ => simp at hl; omega
  | b0 :: l, hl, hb =>
    have e : Utf8.decode s 0 = Lib.decodeN (l.length + 1) b0 (l.getD 0 0) (l.getD 1 0) (l.getD 2 0) := by
      rw [hd, ← hl]; rfl
    rw [e] at hok ⊢
    have e0 : (b0 :: l).getD 0 0 = b0 := rfl
    rw [e0]
    rcases decode_bytes b0 l hb with ⟨h1, h2⟩ | ⟨h1, h2, h3⟩
    · rw [if_pos h1]
      refine ⟨⟨h2, hb b0 (by simp)⟩, ?_, ?_⟩
      · rw [h1.1]; rfl
      · rw [h1.1]; rfl
    · rw [if_neg h1]
      refine ⟨?_, ?_, h3⟩
      · show RuneOk _
        simp only [Lib.validRune, decide_eq_true_eq] at hok
        unfold RuneOk
        omega
      · show (Lib.encodeRuneZ _).length = _
        rw [h3, List.length_map, List.length_take, List.length_cons, Nat.min_eq_left h2]
theorem lbytes_rest (s : ByteArray) (k : Nat) : lbytes (s.extract k s.size) = (lbytes s).drop k := by
  unfold lbytes
  rw [← List.map_drop]
  congr 1
  have e : (s.extract k s.size).data.toList = (s.data.toList.drop k).take (s.size - k) := by simp [ByteArray.data_extract]
  rw [e, List.take_of_length_le (by rw [List.length_drop]; simp)]
theorem lbytes_inj {s t : ByteArray} (h : lbytes s = lbytes t) : s = t := by
  have h1 : s.data.toList = t.data.toList := List.map_inj_right (fun x y e => UInt8.toNat_inj.1 e) |>.1 h
  cases s; cases t
  congr 1
  exact Array.toList_inj.1 h1
theorem quoteFrom_inj (T : Lib.PrintTabs) : ∀ (n : Nat) (s s' : ByteArray) (f f' : Nat) (r r' : List Int), s.size ≤ n → s.size ≤ f → s'.size ≤ f' →
    Lib.quoteFrom T f s ++ 34 :: r = Lib.quoteFrom T f' s' ++ 34 :: r' → lbytes s = lbytes s' ∧ r = r'
  | n, s, s', f, f', r, r', hn, hf, hf', h => by
    by_cases h0 : 0 < s.size
    · rw [Lib.quoteFrom_step T f s h0 hf, qkey_step, List.append_assoc] at h
      obtain ⟨k1, k2, k3⟩ := step_bytes s h0
      by_cases h0' : 0 < s'.size
      · rw [Lib.quoteFrom_step T f' s' h0' hf', qkey_step, List.append_assoc] at h
        obtain ⟨k1', k2', k3'⟩ := step_bytes s' h0'
        obtain ⟨g1, g2⟩ := qenc_inj T k1 k1' h
        have hw := Lib.width_pos s 0
        have hw' := Lib.width_pos s' 0
        have hz := Lib.size_rest s (Utf8.decode s 0).2
        have hz' := Lib.size_rest s' (Utf8.decode s' 0).2
        match n, hn with
        | 0, hn => omega
        | n + 1, hn =>
          obtain ⟨q1, q2⟩ := quoteFrom_inj T n _ _ (f - 1) (f' - 1) r r' (by omega) (by omega) (by omega) g2
          refine ⟨?_, q2⟩
          have ew : (Utf8.decode s 0).2 = (Utf8.decode s' 0).2 := by rw [← k2, ← k2', g1]
          rw [lbytes_rest, lbytes_rest] at q1
          have e2 : (lbytes s).take (Utf8.decode s 0).2 = (lbytes s').take (Utf8.decode s' 0).2 := by
            have e3 : ((lbytes s).take (Utf8.decode s 0).2).map (fun x : Nat => (x : Int)) = ((lbytes s').take (Utf8.decode s' 0).2).map (fun x : Nat => (x : Int)) := by rw [← k3, ← k3', g1]
            exact List.map_inj_right (fun x y e => by omega) |>.1 e3
          rw [← List.take_append_drop (Utf8.decode s 0).2 (lbytes s), e2, q1, List.take_append_drop]
      · rw [Lib.quoteFrom_end T f' s' h0'] at h
        exact absurd h (qenc_head T k1)
    · rw [Lib.quoteFrom_end T f s h0] at h
      by_cases h0' : 0 < s'.size
      · rw [Lib.quoteFrom_step T f' s' h0' hf', qkey_step, List.append_assoc] at h
        exact absurd h.symm (qenc_head T (step_bytes s' h0').1)
      · rw [Lib.quoteFrom_end T f' s' h0'] at h
        have e1 := lbytes_len s
        have e2 := lbytes_len s'
        refine ⟨?_, by injection h⟩
        rw [List.eq_nil_of_length_eq_zero (by omega : (lbytes s).length = 0), List.eq_nil_of_length_eq_zero (by omega : (lbytes s').length = 0)]
theorem quote_inj (T : Lib.PrintTabs) {s s' : ByteArray} {r r' : List Int} (h : Lib.quoteZ T s ++ r = Lib.quoteZ T s' ++ r') : s = s' ∧ r = r' := by
  unfold Lib.quoteZ at h
  rw [List.cons_append, List.cons_append, List.append_assoc, List.append_assoc] at h
  injection h with _ h
  obtain ⟨h1, h2⟩ := quoteFrom_inj T s.size s s' s.size s'.size r r' (Nat.le_refl _) (Nat.le_refl _) (Nat.le_refl _) h
  exact ⟨lbytes_inj h1, h2⟩
end Go.Proofs.YtdfneldenipljaaDoor.L
end
