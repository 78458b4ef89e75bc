/- Part 3 of the texts that the rows of this seat rest on, joined by a program: what its functions come to. Conditions: those that each theorem states. -/
import Derived.Test.YtdfneldenipljaaDoorQeb
import Derived.Lib.QuoteLoop
import Derived.Lib.Small
import Derived.Lib.ItoaNum
import Derived.Lib.Bytes
import Derived.Shelf.RegionOpenPlain
import Derived.Lib.Strings
import Derived.Lib.Slices
import Derived.Lib.Walk
import Derived.Lib.Builder
import Derived.Lib.AppendStr
import Derived.Lib.UnsafeStr
import Derived.Laws.Externs
import Derived.Laws.IdiomCopy
import Derived.Shelf.Unicode.DecodeSlow
import Derived.Lib.AppendIntMem
import Derived.Lib.LaidTab
import Derived.Lib.ItoaLen
import Derived.StringKeys
import Derived.Test.YtdfneldenipljaaDoorProg
import Derived.Below
import Derived.Deep.Draws
import Derived.Deep.AppendLies
import Derived.Maps.AppendAt
import Derived.OwnWalk
import Derived.Laws.BytesArg
import Derived.Laws.MakeOwn
import Derived.Laws.OwnMore
import Derived.Deep.OwnRows
import Derived.Tactics
import Derived.Lib.ConvBytes
import Derived.Laws.Slices
import Derived.WalkKit
import Derived.KernelRfl
import Derived.RowKit3
import Derived.Deep.LoopGhost
import Derived.Deep.QuietTactic
import Derived.BigQuiet
import Derived.WideLaws
import Derived.Deep.DeepCutAuto
import Derived.Deep.CutBlock
import Derived.Deep.RegionHeld3
import Derived.Laws.Rows
import Derived.ArgAppend
import Derived.OrdersHeld
import Derived.Laws.BitsLemmas
import Derived.RowKit
set_option linter.unusedVariables false
set_option linter.unusedSimpArgs false
section
namespace Go.Proofs.YtdfneldenipljaaDoor.L
open Go.RowKit Go.ChangeShapes Go.WideShapes Go.Proofs.YtdfneldenipljaaDoorW.PrintWords Go.Proofs.YtdfneldenipljaaDoorW.PrintLast Go.Proofs.YtdfneldenipljaaDoorW.PrintMore
attribute [local go_sem] max2_int min2_int max_two min_two max_three min_three max_four min_four
theorem hexDigit_inj {x y : Nat} (hx : x < 16) (hy : y < 16) (h : Lib.hexDigit x = Lib.hexDigit y) : x = y := by
  unfold Lib.hexDigit at h
  split at h <;> split at h <;> omega
theorem hexDigits_inj {r r' : Nat} {t t' : List Int} : ∀ n, Lib.hexDigits r n ++ t = Lib.hexDigits r' n ++ t' → r % 16 ^ n = r' % 16 ^ n ∧ t = t'
  | 0, h => ⟨by rw [Nat.pow_zero, Nat.mod_one, Nat.mod_one], h⟩
  | n + 1, h => by
    unfold Lib.hexDigits at h
    rw [List.cons_append, List.cons_append] at h
    injection h with h1 h2
    obtain ⟨h3, h4⟩ := hexDigits_inj n h2
    have h5 := hexDigit_inj (Nat.mod_lt _ (by omega)) (Nat.mod_lt _ (by omega)) h1
    refine ⟨?_, h4⟩
    rw [Nat.pow_succ, Nat.mod_mul, Nat.mod_mul, h3, h5]
def RuneOk (r : Int) : Prop := (0 ≤ r ∧ r < 55296) ∨ (57343 < r ∧ r ≤ 1114111)
theorem enc_forms {r : Int} (h : RuneOk r) : (Lib.encodeRuneZ r = [r] ∧ 0 ≤ r ∧ r ≤ 127) ∨ (Lib.encodeRuneZ r = [192 + r / 64, 128 + r % 64] ∧ 128 ≤ r ∧ r ≤ 2047) ∨
    (Lib.encodeRuneZ r = [224 + r / 4096, 128 + r / 64 % 64, 128 + r % 64] ∧ 2048 ≤ r ∧ r ≤ 65535) ∨ (Lib.encodeRuneZ r = [240 + r / 262144, 128 + r / 4096 % 64, 128 + r / 64 % 64, 128 + r % 64] ∧ 65536 ≤ r ∧ r ≤ 1114111) := by
  unfold RuneOk at h
  unfold Lib.encodeRuneZ
  by_cases c1 : 0 ≤ r ∧ r ≤ 127
  · rw [if_pos c1]; exact .inl ⟨rfl, c1⟩
  · rw [if_neg c1]
    by_cases c2 : 128 ≤ r ∧ r ≤ 2047
    · rw [if_pos c2]; exact .inr (.inl ⟨rfl, c2⟩)
    · rw [if_neg c2]
      by_cases c3 : (2048 ≤ r ∧ r < 55296) ∨ (57343 < r ∧ r ≤ 65535)
      · rw [if_pos c3]; exact .inr (.inr (.inl ⟨rfl, by omega, by omega⟩))
      · rw [if_neg c3, if_pos (by omega)]
        exact .inr (.inr (.inr ⟨rfl, by omega, by omega⟩))
theorem enc_inj {r r' : Int} (h : RuneOk r) (h' : RuneOk r') {t t' : List Int} (e : Lib.encodeRuneZ r ++ t = Lib.encodeRuneZ r' ++ t') : r = r' ∧ t = t' := by
  rcases enc_forms h with ⟨e1, a, b⟩ | ⟨e1, a, b⟩ | ⟨e1, a, b⟩ | ⟨e1, a, b⟩ <;> rcases enc_forms h' with ⟨e2, a', b'⟩ | ⟨e2, a', b'⟩ | ⟨e2, a', b'⟩ | ⟨e2, a', b'⟩ <;> rw [e1, e2] at e <;>
    simp only [List.cons_append, List.nil_append, List.cons.injEq] at e
  all_goals first
    | exact ⟨by omega, e.2⟩
    | exact ⟨by omega, e.2.2⟩
    | exact ⟨by omega, e.2.2.2⟩
    | exact ⟨by omega, e.2.2.2.2⟩
    | (exfalso; omega)
theorem enc_head {r : Int} (h : RuneOk r) (h1 : ¬ r = 34) (h2 : ¬ r = 92) : ∃ x l, Lib.encodeRuneZ r = x :: l ∧ x ≠ 34 ∧ x ≠ 92 := by
  rcases enc_forms h with ⟨e1, a, b⟩ | ⟨e1, a, b⟩ | ⟨e1, a, b⟩ | ⟨e1, a, b⟩
  all_goals exact ⟨_, _, e1, by omega, by omega⟩
def unesc (c : Int) : Int := if c = 97 then 7 else if c = 98 then 8 else if c = 102 then 12 else if c = 110 then 10 else if c = 114 then 13 else if c = 116 then 9 else if c = 118 then 11 else c
inductive QKey where
  | bad (b : Nat)
  | rune (r : Int)
def QKey.Ok : QKey → Prop
  | .bad b => 128 ≤ b ∧ b < 256
  | .rune r => RuneOk r
def qenc (T : Lib.PrintTabs) : QKey → List Int
  | .bad b => [92, 120, Lib.hexDigit (b / 16), Lib.hexDigit (b % 16)]
  | .rune r => Lib.escRune T r
theorem qenc_forms (T : Lib.PrintTabs) {k : QKey} (h : k.Ok) :
    (∃ c, qenc T k = [92, c] ∧ k = .rune (unesc c) ∧ c ≠ 120 ∧ c ≠ 117 ∧ c ≠ 85) ∨
    (∃ v : Nat, v < 256 ∧ qenc T k = [92, 120, Lib.hexDigit (v / 16), Lib.hexDigit (v % 16)] ∧ k = if v < 128 then .rune (v : Int) else .bad v) ∨
    (∃ v : Nat, v < 65536 ∧ qenc T k = 92 :: 117 :: Lib.hexDigits v 4 ∧ k = .rune (v : Int)) ∨
    (∃ v : Nat, v < 4294967296 ∧ qenc T k = 92 :: 85 :: Lib.hexDigits v 8 ∧ k = .rune (v : Int)) ∨
    (∃ r, RuneOk r ∧ ¬ r = 34 ∧ ¬ r = 92 ∧ qenc T k = Lib.encodeRuneZ r ∧ k = .rune r) := by
  cases k with
  | bad b => exact .inr (.inl ⟨b, h.2, rfl, by rw [if_neg (by have := h.1; omega)]⟩)
  | rune r =>
    have hr : RuneOk r := h
    have hv : Lib.validRune r = true := by
      unfold RuneOk at hr
      simp only [Lib.validRune, decide_eq_true_eq]
      omega
    show (∃ c, Lib.escRune T r = [92, c] ∧ QKey.rune r = .rune (unesc c) ∧ c ≠ 120 ∧ c ≠ 117 ∧ c ≠ 85) ∨ (∃ v : Nat, v < 256 ∧ Lib.escRune T r = _ ∧ QKey.rune r = _) ∨ (∃ v : Nat, v < 65536 ∧ Lib.escRune T r = _ ∧ QKey.rune r = _) ∨ (∃ v : Nat, v < 4294967296 ∧ Lib.escRune T r = _ ∧ QKey.rune r = _) ∨ (∃ r', RuneOk r' ∧ ¬ r' = 34 ∧ ¬ r' = 92 ∧ Lib.escRune T r = Lib.encodeRuneZ r' ∧ QKey.rune r = .rune r')
    unfold Lib.escRune
    by_cases c0 : r = 34 ∨ r = 92
    · rw [if_pos c0]
      refine .inl ⟨r, rfl, ?_, by omega, by omega, by omega⟩
      rcases c0 with rfl | rfl <;> rfl
    rw [if_neg c0]
    by_cases c1 : Lib.isPrintR T r = true
    · rw [if_pos c1]
      exact .inr (.inr (.inr (.inr ⟨r, hr, fun e => c0 (.inl e), fun e => c0 (.inr e), rfl, rfl⟩)))
    rw [if_neg c1]
    by_cases c2 : r = 7
    · rw [if_pos c2]; subst c2; exact .inl ⟨97, rfl, rfl, by omega, by omega, by omega⟩
    rw [if_neg c2]
    by_cases c3 : r = 8
    · rw [if_pos c3]; subst c3; exact .inl ⟨98, rfl, rfl, by omega, by omega, by omega⟩
    rw [if_neg c3]
    by_cases c4 : r = 12
    · rw [if_pos c4]; subst c4; exact .inl ⟨102, rfl, rfl, by omega, by omega, by omega⟩
    rw [if_neg c4]
    by_cases c5 : r = 10
    · rw [if_pos c5]; subst c5; exact .inl ⟨110, rfl, rfl, by omega, by omega, by omega⟩
    rw [if_neg c5]
    by_cases c6 : r = 13
    · rw [if_pos c6]; subst c6; exact .inl ⟨114, rfl, rfl, by omega, by omega, by omega⟩
    rw [if_neg c6]
    by_cases c7 : r = 9
    · rw [if_pos c7]; subst c7; exact .inl ⟨116, rfl, rfl, by omega, by omega, by omega⟩
    rw [if_neg c7]
    by_cases c8 : r = 11
    · rw [if_pos c8]; subst c8; exact .inl ⟨118, rfl, rfl, by omega, by omega, by omega⟩
    rw [if_neg c8]
    have h0 : 0 ≤ r := by unfold RuneOk at hr; omega
    obtain ⟨v, rfl⟩ : ∃ v : Nat, r = (v : Int) := ⟨r.toNat, by omega⟩
    by_cases c9 : (v : Int) < 32 ∨ (v : Int) = 127
    · rw [if_pos c9, Int.toNat_natCast]
      exact .inr (.inl ⟨v, by omega, rfl, by rw [if_pos (by omega)]⟩)
    rw [if_neg c9, if_neg (by rw [hv]; simp)]
    by_cases c11 : (v : Int) < 65536
    · rw [if_pos c11, Int.toNat_natCast]
      exact .inr (.inr (.inl ⟨v, by omega, rfl, rfl⟩))
    rw [if_neg c11, Int.toNat_natCast]
    exact .inr (.inr (.inr (.inl ⟨v, by unfold RuneOk at hr; omega, rfl, rfl⟩)))
theorem qenc_inj (T : Lib.PrintTabs) {k k' : QKey} (h : k.Ok) (h' : k'.Ok) {t t' : List Int} (e : qenc T k ++ t = qenc T k' ++ t') : k = k' ∧ t = t' := by
  rcases qenc_forms T h with ⟨c, e1, k1, n1, n2, n3⟩ | ⟨v, hv, e1, k1⟩ | ⟨v, hv, e1, k1⟩ | ⟨v, hv, e1, k1⟩ | ⟨r, hr, a1, a2, e1, k1⟩ <;>
    rcases qenc_forms T h' with ⟨c', e2, k2, m1, m2, m3⟩ | ⟨v', hv', e2, k2⟩ | ⟨v', hv', e2, k2⟩ | ⟨v', hv', e2, k2⟩ | ⟨r', hr', b1, b2, e2, k2⟩ <;> rw [e1, e2] at e
  case inl.inl =>
    simp only [List.cons_append, List.nil_append, List.cons.injEq] at e
    exact ⟨by rw [k1, k2, e.2.1], e.2.2⟩
  case inr.inl.inr.inl =>
    simp only [List.cons_append, List.nil_append, List.cons.injEq] at e
    obtain ⟨_, _, g1, g2, g3⟩ := e
    have g1 := hexDigit_inj (by omega) (by omega) g1
    have g2 := hexDigit_inj (by omega) (by omega) g2
    have : v = v' := by omega
    exact ⟨by rw [k1, k2, this], g3⟩
  case inr.inr.inl.inr.inr.inl =>
    simp only [List.cons_append, List.cons.injEq] at e
    obtain ⟨g1, g2⟩ := hexDigits_inj 4 e.2.2
    have : v = v' := by omega
    exact ⟨by rw [k1, k2, this], g2⟩
  case inr.inr.inr.inl.inr.inr.inr.inl =>
    simp only [List.cons_append, List.cons.injEq] at e
    obtain ⟨g1, g2⟩ := hexDigits_inj 8 e.2.2
    have : v = v' := by omega
    exact ⟨by rw [k1, k2, this], g2⟩
  case inr.inr.inr.inr.inr.inr.inr.inr =>
    obtain ⟨g1, g2⟩ := enc_inj hr hr' e
    exact ⟨by rw [k1, k2, g1], g2⟩
  case inl.inr.inr.inr.inr =>
    exfalso
    obtain ⟨x, l, e3, x1, x2⟩ := enc_head hr' b1 b2
    rw [e3] at e
    simp only [List.cons_append, List.nil_append, List.cons.injEq] at e
    omega
  case inr.inl.inr.inr.inr.inr =>
    exfalso
    obtain ⟨x, l, e3, x1, x2⟩ := enc_head hr' b1 b2
    rw [e3] at e
    simp only [List.cons_append, List.nil_append, List.cons.injEq] at e
    omega
  case inr.inr.inl.inr.inr.inr.inr =>
    exfalso
    obtain ⟨x, l, e3, x1, x2⟩ := enc_head hr' b1 b2
    rw [e3] at e
    simp only [List.cons_append, List.nil_append, List.cons.injEq] at e
    omega
  case inr.inr.inr.inl.inr.inr.inr.inr =>
    exfalso
    obtain ⟨x, l, e3, x1, x2⟩ := enc_head hr' b1 b2
    rw [e3] at e
    simp only [List.cons_append, List.nil_append, List.cons.injEq] at e
    omega
  case inr.inr.inr.inr.inl =>
    exfalso
    obtain ⟨x, l, e3, x1, x2⟩ := enc_head hr a1 a2
    rw [e3] at e
    simp only [List.cons_append, List.nil_append, List.cons.injEq] at e
    omega
  case inr.inr.inr.inr.inr.inl =>
    exfalso
    obtain ⟨x, l, e3, x1, x2⟩ := enc_head hr a1 a2
    rw [e3] at e
    simp only [List.cons_append, List.nil_append, List.cons.injEq] at e
    omega
  case inr.inr.inr.inr.inr.inr.inl =>
    exfalso
    obtain ⟨x, l, e3, x1, x2⟩ := enc_head hr a1 a2
    rw [e3] at e
    simp only [List.cons_append, List.nil_append, List.cons.injEq] at e
    omega
  case inr.inr.inr.inr.inr.inr.inr.inl =>
    exfalso
    obtain ⟨x, l, e3, x1, x2⟩ := enc_head hr a1 a2
    rw [e3] at e
    simp only [List.cons_append, List.nil_append, List.cons.injEq] at e
    omega
  all_goals
    exfalso
    simp only [List.cons_append, List.nil_append, List.cons.injEq] at e
    omega
theorem qenc_head (T : Lib.PrintTabs) {k : QKey} (h : k.Ok) {t t' : List Int} : ¬ qenc T k ++ t = 34 :: t' := fun e => by
  rcases qenc_forms T h with ⟨c, e1, k1, n1, n2, n3⟩ | ⟨v, hv, e1, k1⟩ | ⟨v, hv, e1, k1⟩ | ⟨v, hv, e1, k1⟩ | ⟨r, hr, a1, a2, e1, k1⟩ <;> rw [e1] at e
  case inr.inr.inr.inr =>
    obtain ⟨x, l, e3, x1, x2⟩ := enc_head hr a1 a2
    rw [e3] at e
    simp only [List.cons_append, List.nil_append, List.cons.injEq] at e
    omega
  all_goals
    simp only [List.cons_append, List.nil_append, List.cons.injEq] at e
    omega
def qkey (s : ByteArray) : QKey := if (Utf8.decode s 0).2 = 1 ∧ (Utf8.decode s 0).1 = 65533 then .bad (s.get! 0).toNat else .rune ((Utf8.decode s 0).1 : Int)
theorem qkey_step (T : Lib.PrintTabs) (s : ByteArray) : Lib.quoteStep T s = qenc T (qkey s) := by
  unfold Lib.quoteStep qkey
  split <;> rfl
def lbytes (s : ByteArray) : List Nat := s.data.toList.map UInt8.toNat
theorem lbytes_len (s : ByteArray) : (lbytes s).length = s.size := by simp [lbytes]
theorem get_lbytes (s : ByteArray) (i : Nat) : (s.get! i).toNat = (lbytes s).getD i 0 := by
  unfold lbytes
  by_cases h : i < s.size
  · have e : s.get! i = s[i] := by
      cases s with
      | mk d => exact getElem!_pos d i h
    rw [e, List.getD_eq_getElem?_getD, List.getElem?_map]
    have h2 : i < s.data.toList.length := by simpa using h
    rw [List.getElem?_eq_getElem h2]
    rfl
  · have e : s.get! i = 0 := by
      cases s with
      | mk d => exact getElem!_neg d i h
    rw [e, List.getD_eq_getElem?_getD, List.getElem?_eq_none (by simpa using h)]
    rfl
def kbytes : QKey → List Int
  | .bad b => [(b : Int)]
  | .rune r => Lib.encodeRuneZ r
theorem decode_bytes (b0 : Nat) (l : List Nat) (hb : ∀ x ∈ b0 :: l, x < 256) :
    let d := Lib.decodeN (l.length + 1) b0 (l.getD 0 0) (l.getD 1 0) (l.getD 2 0)
    ((d.2 = 1 ∧ d.1 = 65533) ∧ 128 ≤ b0) ∨ (¬ (d.2 = 1 ∧ d.1 = 65533) ∧ d.2 ≤ l.length + 1 ∧ Lib.encodeRuneZ (d.1 : Int) = ((b0 :: l).take d.2).map (fun x : Nat => (x : Int))) := by
  intro d
  have h0 : b0 < 256 := hb b0 (by simp)
  show ((Lib.decodeN _ _ _ _ _).2 = 1 ∧ (Lib.decodeN _ _ _ _ _).1 = 65533) ∧ _ ∨ ¬ ((Lib.decodeN _ _ _ _ _).2 = 1 ∧ (Lib.decodeN _ _ _ _ _).1 = 65533) ∧ (Lib.decodeN _ _ _ _ _).2 ≤ _ ∧ Lib.encodeRuneZ ((Lib.decodeN _ _ _ _ _).1 : Int) = ((b0 :: l).take (Lib.decodeN _ _ _ _ _).2).map _
  unfold Lib.decodeN
  by_cases c1 : b0 < 128
  · rw [if_pos c1]
    refine .inr ⟨fun h => by have := h.2; simp only at this; omega, by simp, ?_⟩
    rw [Lib.encodeRuneZ_one (by omega) (by omega)]
    rfl
  rw [if_neg c1]
  have bad : ((((65533, 1) : Nat × Nat).2 = 1 ∧ ((65533, 1) : Nat × Nat).1 = 65533) ∧ 128 ≤ b0) := ⟨⟨rfl, rfl⟩, by omega⟩
  match l, hb with
  | [], _ =>
    rw [if_neg (fun h => by have := h.2.1; simp at this), if_neg (fun h => by have := h.2.1.1; simp at this), if_neg (fun h => by have := h.2.1.1; simp at this)]
    exact .inl bad
  | b1 :: l1, hb =>
    have h1 : b1 < 256 := hb b1 (by simp)
    have g0 : (b1 :: l1).getD 0 0 = b1 := rfl
    rw [g0]
    by_cases c2 : b0 / 32 = 6 ∧ (1 < (b1 :: l1).length + 1 ∧ b1 / 64 = 2)
    · rw [if_pos c2]
      obtain ⟨p1, _, p2⟩ := c2
      by_cases c3 : b0 % 32 * 64 + b1 % 64 ≥ 128
      · rw [if_pos c3]
        refine .inr ⟨fun h => by have := h.1; simp only at this; omega, by simp, ?_⟩
        simp only
        have e1 : Lib.encodeRuneZ ((b0 % 32 * 64 + b1 % 64 : Nat) : Int) = [192 + ((b0 % 32 * 64 + b1 % 64 : Nat) : Int) / 64, 128 + ((b0 % 32 * 64 + b1 % 64 : Nat) : Int) % 64] := Lib.encodeRuneZ_two (by omega) (by omega)
        rw [e1]
        simp only [List.take_succ_cons, List.take_zero, List.map_cons, List.map_nil, List.cons.injEq, and_true]
        omega
      · rw [if_neg c3]
        exact .inl bad
    rw [if_neg c2]
    match l1, hb with
    | [], _ =>
      rw [if_neg (fun h => by have := h.2.2.1; simp at this), if_neg (fun h => by have := h.2.2.1.1; simp at this)]
      exact .inl bad
    | b2 :: l2, hb =>
      have h2 : b2 < 256 := hb b2 (by simp)
      have g1 : (b1 :: b2 :: l2).getD 1 0 = b2 := rfl
      rw [g1]
      by_cases c4 : b0 / 16 = 14 ∧ (1 < (b1 :: b2 :: l2).length + 1 ∧ b1 / 64 = 2) ∧ (2 < (b1 :: b2 :: l2).length + 1 ∧ b2 / 64 = 2)
      · rw [if_pos c4]
        obtain ⟨p1, ⟨_, p2⟩, _, p3⟩ := c4
        split
        · rename_i c5
          refine .inr ⟨fun h => by have := h.1; simp only at this; omega, by simp, ?_⟩
          simp only
          have hr : RuneOk ((b0 % 16 * 4096 + b1 % 64 * 64 + b2 % 64 : Nat) : Int) := by unfold RuneOk; omega
          rcases enc_forms hr with ⟨e1, a, b⟩ | ⟨e1, a, b⟩ | ⟨e1, a, b⟩ | ⟨e1, a, b⟩
          · omega
          · omega
          · rw [e1]
            simp only [List.take_succ_cons, List.take_zero, List.map_cons, List.map_nil, List.cons.injEq, and_true]
            omega
          · omega
        · exact .inl bad
      rw [if_neg c4]
      match l2, hb with
      | [], _ =>
        rw [if_neg (fun h => by have := h.2.2.2.1; simp at this)]
        exact .inl bad
      | b3 :: l3, hb =>
        have h3 : b3 < 256 := hb b3 (by simp)
        have g2 : (b1 :: b2 :: b3 :: l3).getD 2 0 = b3 := rfl
        rw [g2]
        by_cases c6 : b0 / 8 = 30 ∧ (1 < (b1 :: b2 :: b3 :: l3).length + 1 ∧ b1 / 64 = 2) ∧ (2 < (b1 :: b2 :: b3 :: l3).length + 1 ∧ b2 / 64 = 2) ∧ (3 < (b1 :: b2 :: b3 :: l3).length + 1 ∧ b3 / 64 = 2)
        · rw [if_pos c6]
          obtain ⟨p1, ⟨_, p2⟩, ⟨_, p3⟩, _, p4⟩ := c6
          split
          · rename_i c7
            refine .inr ⟨fun h => by have := h.1; simp only at this; omega, by simp, ?_⟩
            simp only
            have hr : RuneOk ((b0 % 8 * 262144 + b1 % 64 * 4096 + b2 % 64 * 64 + b3 % 64 : Nat) : Int) := by unfold RuneOk; omega
            rcases enc_forms hr with ⟨e1, a, b⟩ | ⟨e1, a, b⟩ | ⟨e1, a, b⟩ | ⟨e1, a, b⟩
            · omega
            · omega
            · omega
            · rw [e1]
              simp only [List.take_succ_cons, List.take_zero, List.map_cons, List.map_nil, List.cons.injEq, and_true]
              omega
          · exact .inl bad
        rw [if_neg c6]
        exact .inl bad
theorem step_bytes (s : ByteArray) (h : 0 < s.size) : (qkey s).Ok ∧ (kbytes (qkey s)).length = (Utf8.decode s 0).2 ∧ kbytes (qkey s) = ((lbytes s).take (Utf8.decode s 0).2).map (fun x : Nat => (x : Int)) := by
  have hd := Lib.decode_at s 0
  rw [get_lbytes, get_lbytes, get_lbytes, get_lbytes] at hd
  have hl := lbytes_len s
  have hb : ∀ x ∈ lbytes s, x < 256 := fun x hx => by
    obtain ⟨b, _, rfl⟩ := List.mem_map.1 hx
    exact UInt8.toNat_lt b
  have hg0 : (s.get! 0).toNat = (lbytes s).getD 0 0 := get_lbytes s 0
  have hok := Lib.rune_valid s
  unfold qkey
  rw [hg0]
  generalize lbytes s = lb at hd hl hb
  match lb, hl, hb with
  | [], hl, _ => simp at hl; omega
  | b0 :: l, hl, hb =>
    have e : Utf8.decode s 0 = Lib.decodeN (l.length + 1) b0 (l.getD 0 0) (l.getD 1 0) (l.getD 2 0) := by
      rw [hd, ← hl]; rfl
    rw [e] at hok ⊢
    have e0 : (b0 :: l).getD 0 0 = b0 := rfl
    rw [e0]
    rcases decode_bytes b0 l hb with ⟨h1, h2⟩ | ⟨h1, h2, h3⟩
    · rw [if_pos h1]
      refine ⟨⟨h2, hb b0 (by simp)⟩, ?_, ?_⟩
      · rw [h1.1]; rfl
      · rw [h1.1]; rfl
    · rw [if_neg h1]
      refine ⟨?_, ?_, h3⟩
      · show RuneOk _
        simp only [Lib.validRune, decide_eq_true_eq] at hok
        unfold RuneOk
        omega
      · show (Lib.encodeRuneZ _).length = _
        rw [h3, List.length_map, List.length_take, List.length_cons, Nat.min_eq_left h2]
theorem lbytes_rest (s : ByteArray) (k : Nat) : lbytes (s.extract k s.size) = (lbytes s).drop k := by
  unfold lbytes
  rw [← List.map_drop]
  congr 1
  have e : (s.extract k s.size).data.toList = (s.data.toList.drop k).take (s.size - k) := by simp [ByteArray.data_extract]
  rw [e, List.take_of_length_le (by rw [List.length_drop]; simp)]
theorem lbytes_inj {s t : ByteArray} (h : lbytes s = lbytes t) : s = t := by
  have h1 : s.data.toList = t.data.toList := List.map_inj_right (fun x y e => UInt8.toNat_inj.1 e) |>.1 h
  cases s; cases t
  congr 1
  exact Array.toList_inj.1 h1
theorem quoteFrom_inj (T : Lib.PrintTabs) : ∀ (n : Nat) (s s' : ByteArray) (f f' : Nat) (r r' : List Int), s.size ≤ n → s.size ≤ f → s'.size ≤ f' →
    Lib.quoteFrom T f s ++ 34 :: r = Lib.quoteFrom T f' s' ++ 34 :: r' → lbytes s = lbytes s' ∧ r = r'
  | n, s, s', f, f', r, r', hn, hf, hf', h => by
    by_cases h0 : 0 < s.size
    · rw [Lib.quoteFrom_step T f s h0 hf, qkey_step, List.append_assoc] at h
      obtain ⟨k1, k2, k3⟩ := step_bytes s h0
      by_cases h0' : 0 < s'.size
      · rw [Lib.quoteFrom_step T f' s' h0' hf', qkey_step, List.append_assoc] at h
        obtain ⟨k1', k2', k3'⟩ := step_bytes s' h0'
        obtain ⟨g1, g2⟩ := qenc_inj T k1 k1' h
        have hw := Lib.width_pos s 0
        have hw' := Lib.width_pos s' 0
        have hz := Lib.size_rest s (Utf8.decode s 0).2
        have hz' := Lib.size_rest s' (Utf8.decode s' 0).2
        match n, hn with
        | 0, hn => omega
        | n + 1, hn =>
          obtain ⟨q1, q2⟩ := quoteFrom_inj T n _ _ (f - 1) (f' - 1) r r' (by omega) (by omega) (by omega) g2
          refine ⟨?_, q2⟩
          have ew : (Utf8.decode s 0).2 = (Utf8.decode s' 0).2 := by rw [← k2, ← k2', g1]
          rw [lbytes_rest, lbytes_rest] at q1
          have e2 : (lbytes s).take (Utf8.decode s 0).2 = (lbytes s').take (Utf8.decode s' 0).2 := by
            have e3 : ((lbytes s).take (Utf8.decode s 0).2).map (fun x : Nat => (x : Int)) = ((lbytes s').take (Utf8.decode s' 0).2).map (fun x : Nat => (x : Int)) := by rw [← k3, ← k3', g1]
            exact List.map_inj_right (fun x y e => by omega) |>.1 e3
          rw [← List.take_append_drop (Utf8.decode s 0).2 (lbytes s), e2, q1, List.take_append_drop]
      · rw [Lib.quoteFrom_end T f' s' h0'] at h
        exact absurd h (qenc_head T k1)
    · rw [Lib.quoteFrom_end T f s h0] at h
      by_cases h0' : 0 < s'.size
      · rw [Lib.quoteFrom_step T f' s' h0' hf', qkey_step, List.append_assoc] at h
        exact absurd h.symm (qenc_head T (step_bytes s' h0').1)
      · rw [Lib.quoteFrom_end T f' s' h0'] at h
        have e1 := lbytes_len s
        have e2 := lbytes_len s'
        refine ⟨?_, by injection h⟩
        rw [List.eq_nil_of_length_eq_zero (by omega : (lbytes s).length = 0), List.eq_nil_of_length_eq_zero (by omega : (lbytes s').length = 0)]
theorem quote_inj (T : Lib.PrintTabs) {s s' : ByteArray} {r r' : List Int} (h : Lib.quoteZ T s ++ r = Lib.quoteZ T s' ++ r') : s = s' ∧ r = r' := by
  unfold Lib.quoteZ at h
  rw [List.cons_append, List.cons_append, List.append_assoc, List.append_assoc] at h
  injection h with _ h
  obtain ⟨h1, h2⟩ := quoteFrom_inj T s.size s s' s.size s'.size r r' (Nat.le_refl _) (Nat.le_refl _) (Nat.le_refl _) h
  exact ⟨lbytes_inj h1, h2⟩
end Go.Proofs.YtdfneldenipljaaDoor.L
end
section
namespace Go.Proofs.YtdfneldenipljaaDoor.L
open Go.RowKit Go.ChangeShapes Go.WideShapes Go.Proofs.YtdfneldenipljaaDoorW.PrintWords Go.Proofs.YtdfneldenipljaaDoorW.PrintLast Go.Proofs.YtdfneldenipljaaDoorW.PrintMore
attribute [local go_sem] max2_int min2_int max_two min_two max_three min_three max_four min_four
theorem hexDigit_range {x : Nat} (h : x < 16) : 0 ≤ Lib.hexDigit x ∧ Lib.hexDigit x < 256 := by
  unfold Lib.hexDigit
  split <;> omega
def Rg (l : List Int) : Prop := ∀ x ∈ l, 0 ≤ x ∧ x < 256
theorem Rg.nil : Rg [] := fun x h => by cases h
theorem Rg.cons {a : Int} {l : List Int} (h : 0 ≤ a ∧ a < 256) (hl : Rg l) : Rg (a :: l) := fun x hx => by
  rcases List.mem_cons.1 hx with rfl | hx
  · exact h
  · exact hl x hx
theorem Rg.ite {c : Prop} [Decidable c] {a b : List Int} (ha : c → Rg a) (hb : ¬ c → Rg b) : Rg (if c then a else b) := by
  by_cases h : c
  · rw [if_pos h]; exact ha h
  · rw [if_neg h]; exact hb h
theorem hexDigits_range (r : Nat) : ∀ n, ∀ x ∈ Lib.hexDigits r n, 0 ≤ x ∧ x < 256
  | 0, x, h => by cases h
  | n + 1, x, h => by
    unfold Lib.hexDigits at h
    rcases List.mem_cons.1 h with rfl | h
    · exact hexDigit_range (Nat.mod_lt _ (by omega))
    · exact hexDigits_range r n x h
theorem enc_range {r : Int} (h : RuneOk r) : ∀ x ∈ Lib.encodeRuneZ r, 0 ≤ x ∧ x < 256 := by
  intro x hx
  rcases enc_forms h with ⟨e, a, b⟩ | ⟨e, a, b⟩ | ⟨e, a, b⟩ | ⟨e, a, b⟩ <;> rw [e] at hx <;> simp only [List.mem_cons, List.not_mem_nil, or_false] at hx
  · omega
  · rcases hx with rfl | rfl <;> omega
  · rcases hx with rfl | rfl | rfl <;> omega
  · rcases hx with rfl | rfl | rfl | rfl <;> omega
theorem qenc_range (T : Lib.PrintTabs) {k : QKey} (h : k.Ok) : ∀ x ∈ qenc T k, 0 ≤ x ∧ x < 256 := by
  cases k with
  | bad b =>
    have hb : 128 ≤ b ∧ b < 256 := h
    intro x hx
    simp only [qenc, List.mem_cons, List.not_mem_nil, or_false] at hx
    rcases hx with rfl | rfl | rfl | rfl
    · omega
    · omega
    · exact hexDigit_range (by omega)
    · exact hexDigit_range (by omega)
  | rune r =>
    have hr : RuneOk r := h
    show Rg (Lib.escRune T r)
    have two : ∀ a b : Int, 0 ≤ a ∧ a < 256 → 0 ≤ b ∧ b < 256 → Rg [a, b] := fun a b h1 h2 => Rg.cons h1 (Rg.cons h2 Rg.nil)
    unfold Lib.escRune
    refine Rg.ite (fun c => two _ _ (by omega) (by omega)) fun _ => ?_
    refine Rg.ite (fun _ => enc_range hr) fun _ => ?_
    refine Rg.ite (fun c => two _ _ (by omega) (by omega)) fun _ => ?_
    refine Rg.ite (fun c => two _ _ (by omega) (by omega)) fun _ => ?_
    refine Rg.ite (fun c => two _ _ (by omega) (by omega)) fun _ => ?_
    refine Rg.ite (fun c => two _ _ (by omega) (by omega)) fun _ => ?_
    refine Rg.ite (fun c => two _ _ (by omega) (by omega)) fun _ => ?_
    refine Rg.ite (fun c => two _ _ (by omega) (by omega)) fun _ => ?_
    refine Rg.ite (fun c => two _ _ (by omega) (by omega)) fun _ => ?_
    refine Rg.ite (fun c => Rg.cons (by omega) (Rg.cons (by omega) (two _ _ (hexDigit_range (by omega)) (hexDigit_range (by omega))))) fun _ => ?_
    refine Rg.ite (fun c => Rg.cons (by omega) (Rg.cons (by omega) (hexDigits_range _ _))) fun _ => ?_
    refine Rg.ite (fun c => Rg.cons (by omega) (Rg.cons (by omega) (hexDigits_range _ _))) fun _ => ?_
    exact Rg.cons (by omega) (Rg.cons (by omega) (hexDigits_range _ _))
theorem quoteFrom_range (T : Lib.PrintTabs) : ∀ (f : Nat) (s : ByteArray), ∀ x ∈ Lib.quoteFrom T f s, 0 ≤ x ∧ x < 256
  | 0, s, x, h => by cases h
  | f + 1, s, x, h => by
    unfold Lib.quoteFrom at h
    split at h
    · rename_i h0
      rcases List.mem_append.1 h with h | h
      · rw [qkey_step] at h
        exact qenc_range T (step_bytes s h0).1 x h
      · exact quoteFrom_range T f _ x h
    · cases h
theorem quoteZ_range (T : Lib.PrintTabs) (s : ByteArray) : ∀ x ∈ Lib.quoteZ T s, 0 ≤ x ∧ x < 256 := by
  intro x h
  unfold Lib.quoteZ at h
  rcases List.mem_cons.1 h with rfl | h
  · omega
  rcases List.mem_append.1 h with h | h
  · exact quoteFrom_range T _ _ x h
  · simp only [List.mem_cons, List.not_mem_nil, or_false] at h; omega
def back (l : List UInt8) : List Int := l.map fun b => (b.toNat : Int)
theorem back_bytes {l : List Int} (h : ∀ x ∈ l, 0 ≤ x ∧ x < 256) : back (Lib.bytesOf l) = l := by
  induction l with
  | nil => rfl
  | cons x l ih =>
    have h1 := h x (by simp)
    have h2 : back (Lib.bytesOf (x :: l)) = ((UInt8.ofNat x.toNat).toNat : Int) :: back (Lib.bytesOf l) := rfl
    rw [h2, ih (fun y hy => h y (by simp [hy]))]
    congr 1
    have : (UInt8.ofNat x.toNat).toNat = x.toNat % 256 := by simp
    rw [this]
    omega
theorem back_append (a b : List UInt8) : back (a ++ b) = back a ++ back b := List.map_append
theorem back_inj {a b : List UInt8} (h : back a = back b) : a = b := by
  refine (List.map_inj_right (fun x y e => ?_)).1 h
  exact UInt8.toNat_inj.1 (by omega)
def qB (T : Lib.PrintTabs) (s : ByteArray) : List UInt8 := Lib.bytesOf (Lib.quoteZ T s)
theorem qB_inj (T : Lib.PrintTabs) {s s' : ByteArray} {r r' : List UInt8} (h : qB T s ++ r = qB T s' ++ r') : s = s' ∧ r = r' := by
  have h1 : back (qB T s ++ r) = back (qB T s' ++ r') := by rw [h]
  rw [back_append, back_append, qB, qB, back_bytes (quoteZ_range T s), back_bytes (quoteZ_range T s')] at h1
  obtain ⟨h2, h3⟩ := quote_inj T h1
  exact ⟨h2, back_inj h3⟩
theorem qB_head (T : Lib.PrintTabs) (s : ByteArray) : ∃ l, qB T s = 34 :: l := ⟨_, rfl⟩
def numC (x : UInt8) : Prop := x = 45 ∨ (48 ≤ x.toNat ∧ x.toNat ≤ 57)
theorem dec_digit (u : Nat) : ∀ x ∈ Lib.decDigits u, 48 ≤ x.toNat ∧ x.toNat ≤ 57 := by
  induction u using Nat.strongRecOn with
  | _ u ih =>
    intro x hx
    rw [Lib.decDigits] at hx
    split at hx
    · rename_i h
      simp only [List.mem_cons, List.not_mem_nil, or_false] at hx
      subst hx
      have : (UInt8.ofNat (48 + u)).toNat = (48 + u) % 256 := by simp
      rw [this]; omega
    · rename_i h
      rcases List.mem_append.1 hx with hx | hx
      · exact ih (u / 10) (by omega) x hx
      · simp only [List.mem_cons, List.not_mem_nil, or_false] at hx
        subst hx
        have : (UInt8.ofNat (48 + u % 10)).toNat = (48 + u % 10) % 256 := by simp
        rw [this]; omega
def decV (l : List UInt8) : Nat := l.foldl (fun a x => 10 * a + (x.toNat - 48)) 0
theorem decV_dec (u : Nat) : decV (Lib.decDigits u) = u := by
  induction u using Nat.strongRecOn with
  | _ u ih =>
    rw [Lib.decDigits]
    split
    · rename_i h
      show 10 * 0 + ((UInt8.ofNat (48 + u)).toNat - 48) = u
      have : (UInt8.ofNat (48 + u)).toNat = (48 + u) % 256 := by simp
      rw [this]; omega
    · rename_i h
      unfold decV
      rw [List.foldl_append]
      have := ih (u / 10) (by omega)
      unfold decV at this
      rw [this]
      show 10 * (u / 10) + ((UInt8.ofNat (48 + u % 10)).toNat - 48) = u
      have : (UInt8.ofNat (48 + u % 10)).toNat = (48 + u % 10) % 256 := by simp
      rw [this]; omega
theorem dec_inj {u v : Nat} (h : Lib.decDigits u = Lib.decDigits v) : u = v := by rw [← decV_dec u, ← decV_dec v, h]
theorem dec_ne (u : Nat) : ∃ x l, Lib.decDigits u = x :: l ∧ 48 ≤ x.toNat := by
  cases h : Lib.decDigits u with
  | nil =>
    have h1 : decV (Lib.decDigits u) = 0 := by rw [h]; rfl
    rw [decV_dec] at h1
    subst h1
    rw [Lib.decDigits, dif_pos (by omega)] at h
    cases h
  | cons x l => exact ⟨x, l, rfl, (dec_digit u x (by rw [h]; simp)).1⟩
theorem itoa_num (n : Int) : ∀ x ∈ Lib.itoa n, numC x := by
  intro x hx
  unfold Lib.itoa at hx
  split at hx
  · rcases List.mem_cons.1 hx with rfl | hx
    · exact .inl rfl
    · exact .inr (dec_digit _ x hx)
  · exact .inr (dec_digit _ x hx)
theorem itoa_head (n : Int) : ∃ x l, Lib.itoa n = x :: l ∧ numC x := by
  cases h : Lib.itoa n with
  | nil =>
    unfold Lib.itoa at h
    split at h
    · cases h
    · obtain ⟨x, l, e, _⟩ := dec_ne n.toNat
      rw [e] at h; cases h
  | cons x l => exact ⟨x, l, rfl, itoa_num n x (by rw [h]; simp)⟩
theorem itoa_inj {a b : Int} (h : Lib.itoa a = Lib.itoa b) : a = b := by
  unfold Lib.itoa at h
  split at h <;> split at h
  · injection h with _ h
    have := dec_inj h
    omega
  · obtain ⟨x, l, e, hx⟩ := dec_ne b.toNat
    rw [e] at h
    injection h with h1 _
    subst h1
    exact absurd hx (by decide)
  · obtain ⟨x, l, e, hx⟩ := dec_ne a.toNat
    rw [e] at h
    injection h with h1 _
    subst h1
    exact absurd hx (by decide)
  · have := dec_inj h
    omega
theorem span_eq {p : UInt8 → Prop} : ∀ {l l' r r' : List UInt8}, (∀ x ∈ l, p x) → (∀ x ∈ l', p x) → (∀ x t, r = x :: t → ¬ p x) → (∀ x t, r' = x :: t → ¬ p x) → l ++ r = l' ++ r' → l = l' ∧ r = r'
  | [], [], _, _, _, _, _, _, h => ⟨rfl, h⟩
  | [], y :: l', r, r', _, h2, h3, _, h => absurd (h2 y (by simp)) (h3 y _ (by simpa using h))
  | x :: l, [], r, r', h1, _, _, h4, h => absurd (h1 x (by simp)) (h4 x (l ++ r) (by simpa using h.symm))
  | x :: l, y :: l', r, r', h1, h2, h3, h4, h => by
    rw [List.cons_append, List.cons_append] at h
    injection h with e h
    obtain ⟨e1, e2⟩ := span_eq (fun z hz => h1 z (by simp [hz])) (fun z hz => h2 z (by simp [hz])) h3 h4 h
    exact ⟨by rw [e, e1], e2⟩
def Stop (r : List UInt8) : Prop := r = [] ∨ ∃ t, r = 32 :: t ∧ ∀ x u, t = x :: u → ¬ numC x
theorem not_num32 : ¬ numC 32 := fun h => by rcases h with h | h <;> revert h <;> decide
def wNums (l : List Int) : List UInt8 := l.flatMap fun v => 32 :: Lib.itoa v
theorem wNums_cons (v : Int) (l : List Int) (r : List UInt8) : wNums (v :: l) ++ r = 32 :: (Lib.itoa v ++ (wNums l ++ r)) := by simp [wNums]
theorem wNums_stop (l : List Int) {r : List UInt8} (h : Stop r) : ∀ x t, wNums l ++ r = x :: t → ¬ numC x := by
  intro x t e
  cases l with
  | nil =>
    rcases h with rfl | ⟨t', rfl, _⟩
    · cases e
    · have e : (32 : UInt8) :: t' = x :: t := e
      injection e with e _; subst e; exact not_num32
  | cons v l =>
    rw [wNums_cons] at e
    injection e with e _; subst e; exact not_num32
theorem wNums_inj : ∀ {l l' : List Int} {r r' : List UInt8}, Stop r → Stop r' → wNums l ++ r = wNums l' ++ r' → l = l' ∧ r = r'
  | [], [], _, _, _, _, h => ⟨rfl, h⟩
  | [], v :: l', r, r', h1, _, h => by
    rw [wNums_cons] at h
    have h : r = 32 :: (Lib.itoa v ++ (wNums l' ++ r')) := h
    obtain ⟨x, u, e, hx⟩ := itoa_head v
    rcases h1 with rfl | ⟨t, rfl, ht⟩
    · cases h
    · injection h with _ h
      exact absurd hx (ht x (u ++ (wNums l' ++ r')) (by rw [h, e]; rfl))
  | v :: l, [], r, r', _, h2, h => by
    rw [wNums_cons] at h
    have h : 32 :: (Lib.itoa v ++ (wNums l ++ r)) = r' := h
    obtain ⟨x, u, e, hx⟩ := itoa_head v
    rcases h2 with rfl | ⟨t, rfl, ht⟩
    · cases h
    · injection h with _ h
      exact absurd hx (ht x (u ++ (wNums l ++ r)) (by rw [← h, e]; rfl))
  | v :: l, v' :: l', r, r', h1, h2, h => by
    rw [wNums_cons, wNums_cons] at h
    injection h with _ h
    obtain ⟨e1, e2⟩ := span_eq (itoa_num v) (itoa_num v') (wNums_stop l h1) (wNums_stop l' h2) h
    obtain ⟨e3, e4⟩ := wNums_inj h1 h2 e2
    exact ⟨by rw [itoa_inj e1, e3], e4⟩
def wTexts (T : Lib.PrintTabs) (l : List ByteArray) : List UInt8 := l.flatMap fun s => 32 :: qB T s
theorem wTexts_cons (T : Lib.PrintTabs) (v : ByteArray) (l : List ByteArray) (r : List UInt8) : wTexts T (v :: l) ++ r = 32 :: (qB T v ++ (wTexts T l ++ r)) := by simp [wTexts]
theorem wTexts_inj (T : Lib.PrintTabs) : ∀ {l l' : List ByteArray} {r r' : List UInt8}, wTexts T l ++ 32 :: 47 :: r = wTexts T l' ++ 32 :: 47 :: r' → l = l' ∧ r = r'
  | [], [], r, r', h => by
    have h : 32 :: 47 :: r = 32 :: 47 :: r' := h
    injection h with _ h
    injection h with _ h
    exact ⟨rfl, h⟩
  | [], v :: l', r, r', h => by
    rw [wTexts_cons] at h
    have h : 32 :: 47 :: r = 32 :: (qB T v ++ (wTexts T l' ++ 32 :: 47 :: r')) := h
    obtain ⟨u, e⟩ := qB_head T v
    rw [e] at h
    injection h with _ h
    injection h with h _
    exact absurd h (by decide)
  | v :: l, [], r, r', h => by
    rw [wTexts_cons] at h
    have h : 32 :: (qB T v ++ (wTexts T l ++ 32 :: 47 :: r)) = 32 :: 47 :: r' := h
    obtain ⟨u, e⟩ := qB_head T v
    rw [e] at h
    injection h with _ h
    injection h with h _
    exact absurd h (by decide)
  | v :: l, v' :: l', r, r', h => by
    rw [wTexts_cons, wTexts_cons] at h
    injection h with _ h
    obtain ⟨e1, e2⟩ := qB_inj T h
    obtain ⟨e3, e4⟩ := wTexts_inj T e2
    exact ⟨by rw [e1, e3], e4⟩
theorem texts_stop (T : Lib.PrintTabs) (l : List ByteArray) (r : List UInt8) : Stop (wTexts T l ++ 32 :: 47 :: r) := by
  cases l with
  | nil => exact .inr ⟨47 :: r, rfl, fun x u e => by injection e with e _; subst e; intro h; rcases h with h | h <;> revert h <;> decide⟩
  | cons v l =>
    obtain ⟨u, e⟩ := qB_head T v
    refine .inr ⟨_, wTexts_cons T v l _, fun x u' e' => ?_⟩
    rw [e] at e'
    injection e' with e' _
    subst e'
    intro h; rcases h with h | h <;> revert h <;> decide
def wordL (T : Lib.PrintTabs) (kind : Int) (ints : List Int) (texts : List ByteArray) (kids : List Int) : List UInt8 :=
  Lib.itoa kind ++ (wNums ints ++ (wTexts T texts ++ 32 :: 47 :: wNums kids))
theorem word_inj (T : Lib.PrintTabs) {k k' : Int} {i i' : List Int} {t t' : List ByteArray} {q q' : List Int} : wordL T k i t q = wordL T k' i' t' q' ↔ (k = k' ∧ i = i' ∧ t = t' ∧ q = q') := by
  refine ⟨fun h => ?_, fun ⟨h1, h2, h3, h4⟩ => by rw [h1, h2, h3, h4]⟩
  unfold wordL at h
  obtain ⟨e1, h⟩ := span_eq (itoa_num k) (itoa_num k') (wNums_stop i (texts_stop T t _)) (wNums_stop i' (texts_stop T t' _)) h
  obtain ⟨e2, h⟩ := wNums_inj (texts_stop T t _) (texts_stop T t' _) h
  obtain ⟨e3, h⟩ := wTexts_inj T h
  obtain ⟨e4, _⟩ := wNums_inj (l := q) (l' := q') (r := []) (r' := []) (.inl rfl) (.inl rfl) (by rw [List.append_nil, List.append_nil]; exact h)
  exact ⟨itoa_inj e1, e2, e3, e4⟩
end Go.Proofs.YtdfneldenipljaaDoor.L
end
section
namespace Go.Proofs.YtdfneldenipljaaDoor.L
open Go.RowKit Go.ChangeShapes Go.WideShapes Go.Proofs.YtdfneldenipljaaDoorW.PrintWords Go.Proofs.YtdfneldenipljaaDoorW.PrintLast Go.Proofs.YtdfneldenipljaaDoorW.PrintMore
attribute [local go_sem] max2_int min2_int max_two min_two max_three min_three max_four min_four
def nodeW (T : Lib.PrintTabs) (n : Node) (own : List Int) : List UInt8 := wordL T n.kind n.ints n.texts (n.kids.map (rd own))
theorem nodeW_inj (T : Lib.PrintTabs) {n m : Node} {o p : List Int} : nodeW T n o = nodeW T m p ↔ (n.kind = m.kind ∧ n.ints = m.ints ∧ n.texts = m.texts ∧ n.kids.map (rd o) = m.kids.map (rd p)) := by
  unfold nodeW
  exact word_inj T
def addW (vs : List (List UInt8)) (x : List UInt8) : List (List UInt8) := if x ∈ vs then vs else vs ++ [x]
theorem addW_in (vs : List (List UInt8)) (x : List UInt8) : x ∈ addW vs x := by
  unfold addW
  split
  · assumption
  · simp
theorem addW_pre (vs : List (List UInt8)) (x : List UInt8) : vs <+: addW vs x := by
  unfold addW
  split
  · exact List.prefix_refl _
  · exact List.prefix_append _ _
theorem addW_mem {vs : List (List UInt8)} {x y : List UInt8} (h : y ∈ addW vs x) : y ∈ vs ∨ y = x := by
  unfold addW at h
  split at h
  · exact .inl h
  · simpa using h
theorem addW_nodup {vs : List (List UInt8)} (h : vs.Nodup) (x : List UInt8) : (addW vs x).Nodup := by
  unfold addW
  split
  · exact h
  · rename_i hx
    refine List.nodup_append.2 ⟨h, by simp, fun a ha b hb => ?_⟩
    rw [List.mem_singleton.1 hb]
    exact fun e => hx (e ▸ ha)
theorem wix_pre {vs us : List (List UInt8)} {x : List UInt8} (h : vs <+: us) (hx : x ∈ vs) : us.idxOf x = vs.idxOf x := by
  obtain ⟨t, rfl⟩ := h
  rw [List.idxOf_append, if_pos hx]
theorem wix_lt {vs : List (List UInt8)} {x : List UInt8} (h : x ∈ vs) : vs.idxOf x < vs.length := List.idxOf_lt_length_iff.2 h
theorem wix_inj {vs : List (List UInt8)} {x y : List UInt8} (hx : x ∈ vs) (hy : y ∈ vs) (h : vs.idxOf x = vs.idxOf y) : x = y := by
  have h1 := List.getElem_idxOf (wix_lt hx)
  have h2 := List.getElem_idxOf (wix_lt hy)
  rw [← h1, ← h2]
  simp only [h]
def numStep (T : Lib.PrintTabs) (st : List (List UInt8) × List Int) (n : Node) : List (List UInt8) × List Int :=
  (addW st.1 (nodeW T n st.2), st.2 ++ [((addW st.1 (nodeW T n st.2)).idxOf (nodeW T n st.2) : Int)])
def ownS (T : Lib.PrintTabs) (vs : List (List UInt8)) (ns : List Node) : List (List UInt8) × List Int := ns.foldl (numStep T) (vs, [])
def allS (T : Lib.PrintTabs) (l : List Scene) : List (List UInt8) × List (List Int) := l.foldl (fun st s => ((ownS T st.1 s.nodes).1, st.2 ++ [(ownS T st.1 s.nodes).2])) ([], [])
def AheadN (ns : List Node) : Prop := ∀ p : Nat, p < ns.length → ∀ k ∈ (nd ns p).kids, 0 ≤ k ∧ k < (p : Int)
structure Numd (T : Lib.PrintTabs) (vs : List (List UInt8)) (ns : List Node) (own : List Int) : Prop where
  len : own.length = ns.length
  mem : ∀ j : Nat, j < ns.length → nodeW T (nd ns j) own ∈ vs
  num : ∀ j : Nat, j < ns.length → rd own (j : Int) = (vs.idxOf (nodeW T (nd ns j) own) : Int)
theorem Numd.pre {T : Lib.PrintTabs} {vs us : List (List UInt8)} {ns : List Node} {own : List Int} (h : Numd T vs ns own) (hp : vs <+: us) : Numd T us ns own :=
  ⟨h.len, fun j hj => hp.subset (h.mem j hj), fun j hj => by rw [h.num j hj, wix_pre hp (h.mem j hj)]⟩
theorem rd_app {a b : List Int} {k : Int} (h0 : 0 ≤ k) (h : k < (a.length : Int)) : rd (a ++ b) k = rd a k := by
  unfold rd
  rw [List.getD_eq_getElem?_getD, List.getD_eq_getElem?_getD, List.getElem?_append_left (by omega)]
theorem nodeW_app (T : Lib.PrintTabs) {n : Node} {a b : List Int} (h : ∀ k ∈ n.kids, 0 ≤ k ∧ k < (a.length : Int)) : nodeW T n (a ++ b) = nodeW T n a :=
  (nodeW_inj T).2 ⟨rfl, rfl, rfl, List.map_congr_left fun k hk => rd_app (h k hk).1 (h k hk).2⟩
theorem nd_snoc_lt {l : List Node} {x : Node} {j : Nat} (h : j < l.length) : nd (l ++ [x]) j = nd l j := by
  unfold nd
  rw [List.getD_eq_getElem?_getD, List.getD_eq_getElem?_getD, List.getElem?_append_left h]
theorem nd_snoc_eq {l : List Node} {x : Node} : nd (l ++ [x]) l.length = x := by
  unfold nd
  rw [List.getD_eq_getElem?_getD, List.getElem?_append_right (Nat.le_refl _)]
  simp
theorem rd_snoc_eq {l : List Int} {x : Int} : rd (l ++ [x]) (l.length : Int) = x := by
  unfold rd
  rw [Int.toNat_natCast, List.getD_eq_getElem?_getD, List.getElem?_append_right (Nat.le_refl _)]
  simp
theorem AheadN.init {l : List Node} {x : Node} (h : AheadN (l ++ [x])) : AheadN l := fun p hp k hk => h p (by rw [List.length_append]; omega) k (by rw [nd_snoc_lt hp]; exact hk)
structure OwnSpec (T : Lib.PrintTabs) (vs : List (List UInt8)) (ns : List Node) (r : List (List UInt8) × List Int) : Prop where
  pre : vs <+: r.1
  numd : Numd T r.1 ns r.2
  from_ : ∀ x ∈ r.1, x ∈ vs ∨ ∃ j : Nat, j < ns.length ∧ x = nodeW T (nd ns j) r.2
  nodup : vs.Nodup → r.1.Nodup
theorem own_specN (T : Lib.PrintTabs) (vs : List (List UInt8)) : ∀ (n : Nat) {ns : List Node}, ns.length = n → AheadN ns → OwnSpec T vs ns (ownS T vs ns) := by
  intro n
  induction n using Nat.strongRecOn with
  | _ n IH =>
  intro ns hn hA
  rcases snoc_cases ns with rfl | ⟨l, x, rfl⟩
  · exact ⟨List.prefix_refl _, ⟨rfl, fun j hj => absurd hj (Nat.not_lt_zero _), fun j hj => absurd hj (Nat.not_lt_zero _)⟩, fun x hx => .inl hx, fun h => h⟩
  · have ih := IH l.length (by simp at hn; omega) rfl hA.init
    have hk : ∀ k ∈ x.kids, 0 ≤ k ∧ k < ((ownS T vs l).2.length : Int) := fun k hk => by
      rw [ih.numd.len]
      have := hA l.length (by simp) k (by rw [nd_snoc_eq]; exact hk)
      exact this
    have e : ownS T vs (l ++ [x]) = numStep T (ownS T vs l) x := by
      show (l ++ [x]).foldl (numStep T) (vs, []) = _
      rw [List.foldl_append]; rfl
    rw [e]
    generalize ownS T vs l = st at ih hk ⊢
    obtain ⟨us, own⟩ := st
    have hlen : own.length = l.length := ih.numd.len
    have key : ∀ j : Nat, j < (l ++ [x]).length → nodeW T (nd (l ++ [x]) j) (own ++ [((addW us (nodeW T x own)).idxOf (nodeW T x own) : Int)]) = if j < l.length then nodeW T (nd l j) own else nodeW T x own := fun j hj => by
      by_cases h : j < l.length
      · rw [if_pos h, nd_snoc_lt h]
        refine nodeW_app T fun k hk' => ?_
        have := hA.init j h k hk'
        omega
      · have hj' : j = l.length := by simp at hj; omega
        subst hj'
        rw [if_neg h, nd_snoc_eq]
        exact nodeW_app T hk
    have hm : ∀ j : Nat, j < (l ++ [x]).length → (if j < l.length then nodeW T (nd l j) own else nodeW T x own) ∈ addW us (nodeW T x own) := fun j hj => by
      by_cases h : j < l.length
      · rw [if_pos h]; exact (addW_pre _ _).subset (ih.numd.mem j h)
      · rw [if_neg h]; exact addW_in _ _
    refine ⟨ih.pre.trans (addW_pre _ _), ⟨by show (own ++ [_]).length = _; simp [hlen], fun j hj => ?_, fun j hj => ?_⟩, fun y hy => ?_, fun h => addW_nodup (ih.nodup h) _⟩
    · show nodeW T _ (own ++ [_]) ∈ addW us (nodeW T x own)
      rw [key j hj]; exact hm j hj
    · show rd (own ++ [_]) (j : Int) = ((addW us (nodeW T x own)).idxOf (nodeW T _ (own ++ [_])) : Int)
      rw [key j hj]
      by_cases h : j < l.length
      · rw [if_pos h, rd_app (by omega) (by omega), wix_pre (addW_pre _ _) (ih.numd.mem j h)]
        exact ih.numd.num j h
      · have hj' : j = l.length := by simp at hj; omega
        subst hj'
        rw [if_neg h, ← hlen, rd_snoc_eq]
    · rcases addW_mem hy with hy | rfl
      · rcases ih.from_ y hy with hy | ⟨j, hj, rfl⟩
        · exact .inl hy
        · refine .inr ⟨j, by simp; omega, ?_⟩
          show _ = nodeW T _ (own ++ [_])
          rw [key j (by simp; omega), if_pos hj]
      · refine .inr ⟨l.length, by simp, ?_⟩
        show _ = nodeW T _ (own ++ [_])
        rw [key l.length (by simp), if_neg (by omega)]
theorem own_spec (T : Lib.PrintTabs) (vs : List (List UInt8)) {ns : List Node} (hA : AheadN ns) : OwnSpec T vs ns (ownS T vs ns) := own_specN T vs ns.length rfl hA
def alkC (a b : List Node) (out : List (List Bool)) (i j : Nat) : Bool :=
  decide ((nd a i).kind = (nd b j).kind ∧ (nd a i).ints = (nd b j).ints ∧ (nd a i).texts = (nd b j).texts ∧ (nd a i).kids.length = (nd b j).kids.length ∧
    ∀ k : Nat, k < (nd a i).kids.length → rd (nd a i).kids (k : Int) < (i : Int) ∧ rd (nd b j).kids (k : Int) < (j : Int) ∧ ((out.getD (rd (nd a i).kids (k : Int)).toNat []).getD (rd (nd b j).kids (k : Int)).toNat false) = true)
def alkT (a b : List Node) : Nat → List (List Bool)
  | 0 => []
  | i + 1 => alkT a b i ++ [(List.range b.length).map (alkC a b (alkT a b i) i)]
theorem alkT_len (a b : List Node) : ∀ n, (alkT a b n).length = n
  | 0 => rfl
  | n + 1 => by unfold alkT; rw [List.length_append, alkT_len a b n]; rfl
theorem alkT_row (a b : List Node) : ∀ {n i : Nat}, i < n → (alkT a b n).getD i [] = (List.range b.length).map (alkC a b (alkT a b i) i)
  | n + 1, i, h => by
    show (alkT a b n ++ [(List.range b.length).map (alkC a b (alkT a b n) n)]).getD i [] = _
    rw [List.getD_eq_getElem?_getD]
    by_cases hi : i < n
    · rw [List.getElem?_append_left (by rw [alkT_len]; exact hi), ← List.getD_eq_getElem?_getD]
      exact alkT_row a b hi
    · obtain rfl : i = n := by omega
      rw [List.getElem?_append_right (by rw [alkT_len]; exact Nat.le_refl _), alkT_len]
      simp
theorem alk_cell (a b : List Node) {n i j : Nat} (hi : i < n) (hj : j < b.length) : ((alkT a b n).getD i []).getD j false = alkC a b (alkT a b i) i j := by
  rw [alkT_row a b hi, List.getD_eq_getElem?_getD, List.getElem?_map, List.getElem?_range hj]
  rfl
theorem alk_num {T : Lib.PrintTabs} {vs : List (List UInt8)} {a b : List Node} {p q : List Int} (ha : AheadN a) (hb : AheadN b) (hp : Numd T vs a p) (hq : Numd T vs b q) :
    ∀ i j : Nat, i < a.length → j < b.length → (alkC a b (alkT a b i) i j = true ↔ rd p (i : Int) = rd q (j : Int)) := by
  intro i
  induction i using Nat.strongRecOn with
  | _ i ih =>
    intro j hi hj
    have hw : rd p (i : Int) = rd q (j : Int) ↔ nodeW T (nd a i) p = nodeW T (nd b j) q := by
      rw [hp.num i hi, hq.num j hj]
      refine ⟨fun h => wix_inj (hp.mem i hi) (hq.mem j hj) (by omega), fun h => by rw [h]⟩
    rw [hw, nodeW_inj]
    unfold alkC
    rw [decide_eq_true_iff]
    refine ⟨fun ⟨h1, h2, h3, h4, h5⟩ => ⟨h1, h2, h3, ?_⟩, fun ⟨h1, h2, h3, h4⟩ => ⟨h1, h2, h3, ?_, ?_⟩⟩
    · refine List.ext_getElem (by simpa using h4) fun k g1 g2 => ?_
      rw [List.getElem_map, List.getElem_map]
      rw [List.length_map] at g1 g2
      obtain ⟨e1, e2, e3⟩ := h5 k g1
      rw [rd_eq g1] at e1 e3
      rw [rd_eq g2] at e2 e3
      have hx := ha i hi _ (List.getElem_mem g1)
      have hy := hb j hj _ (List.getElem_mem g2)
      rw [alk_cell a b (by omega) (by omega)] at e3
      have := (ih _ (by omega) _ (by omega) (by omega)).1 e3
      rwa [Int.toNat_of_nonneg hx.1, Int.toNat_of_nonneg hy.1] at this
    · have := congrArg List.length h4
      simpa using this
    · intro k g1
      have hlen := congrArg List.length h4
      rw [List.length_map, List.length_map] at hlen
      have g2 : k < (nd b j).kids.length := by omega
      rw [rd_eq g1, rd_eq g2]
      have hx := ha i hi _ (List.getElem_mem g1)
      have hy := hb j hj _ (List.getElem_mem g2)
      refine ⟨hx.2, hy.2, ?_⟩
      rw [alk_cell a b (by omega) (by omega)]
      refine (ih _ (by omega) _ (by omega) (by omega)).2 ?_
      rw [Int.toNat_of_nonneg hx.1, Int.toNat_of_nonneg hy.1]
      have h6 : ((nd a i).kids.map (rd p))[k]'(by rw [List.length_map]; exact g1) = ((nd b j).kids.map (rd q))[k]'(by rw [List.length_map]; exact g2) := by simp only [h4]
      rwa [List.getElem_map, List.getElem_map] at h6
end Go.Proofs.YtdfneldenipljaaDoor.L
end
section
namespace Go.Proofs.YtdfneldenipljaaDoor.L
open Go.RowKit Go.ChangeShapes Go.WideShapes Go.Proofs.YtdfneldenipljaaDoorW.PrintWords Go.Proofs.YtdfneldenipljaaDoorW.PrintLast Go.Proofs.YtdfneldenipljaaDoorW.PrintMore
attribute [local go_sem] max2_int min2_int max_two min_two max_three min_three max_four min_four
def cntF (own : List Int) (c : Nat) : Nat → Nat
  | 0 => c
  | i + 1 => if rd own (i : Int) = (cntF own c i : Int) then cntF own c i + 1 else cntF own c i
def Rise (own : List Int) (c n : Nat) : Prop := ∀ i : Nat, i < n → 0 ≤ rd own (i : Int) ∧ rd own (i : Int) ≤ (cntF own c i : Int)
theorem cnt_mono (own : List Int) (c : Nat) : ∀ {i j : Nat}, i ≤ j → cntF own c i ≤ cntF own c j
  | i, 0, h => by obtain rfl : i = 0 := by omega
                  exact Nat.le_refl _
  | i, j + 1, h => by
    by_cases e : i = j + 1
    · subst e; exact Nat.le_refl _
    · have := cnt_mono own c (i := i) (j := j) (by omega)
      show _ ≤ (if rd own (j : Int) = (cntF own c j : Int) then cntF own c j + 1 else cntF own c j)
      split <;> omega
theorem cnt_step {own : List Int} {c i : Nat} (h : rd own (i : Int) ≤ (cntF own c i : Int)) : rd own (i : Int) < (cntF own c (i + 1) : Int) := by
  show _ < ((if rd own (i : Int) = (cntF own c i : Int) then cntF own c i + 1 else cntF own c i : Nat) : Int)
  split <;> omega
theorem Rise.lt {own : List Int} {c n : Nat} (h : Rise own c n) {i m : Nat} (hi : i < m) (hm : m ≤ n) : rd own (i : Int) < (cntF own c m : Int) := by
  have h1 := cnt_step (h i (by omega)).2
  have h2 := cnt_mono own c (i := i + 1) (j := m) (by omega)
  omega
theorem cnt_onto {own : List Int} {c : Nat} : ∀ {m k : Nat}, c ≤ k → k < cntF own c m → ∃ j : Nat, j < m ∧ rd own (j : Int) = (k : Int)
  | 0, k, h0, h => by
    have h : k < c := h
    omega
  | m + 1, k, h0, h => by
    have h : k < (if rd own (m : Int) = (cntF own c m : Int) then cntF own c m + 1 else cntF own c m) := h
    by_cases hk : k < cntF own c m
    · obtain ⟨j, hj, e⟩ := cnt_onto h0 hk
      exact ⟨j, by omega, e⟩
    · split at h
      · rename_i e
        exact ⟨m, by omega, by rw [e]; omega⟩
      · omega
theorem cnt_app {own t : List Int} {c : Nat} : ∀ {i : Nat}, i ≤ own.length → cntF (own ++ t) c i = cntF own c i
  | 0, _ => rfl
  | i + 1, h => by
    show (if rd (own ++ t) (i : Int) = (cntF (own ++ t) c i : Int) then cntF (own ++ t) c i + 1 else cntF (own ++ t) c i) = (if _ then _ else _)
    rw [cnt_app (by omega), rd_app (by omega) (by omega)]
theorem own_snoc (T : Lib.PrintTabs) (vs : List (List UInt8)) (l : List Node) (x : Node) : ownS T vs (l ++ [x]) = numStep T (ownS T vs l) x := by
  show (l ++ [x]).foldl (numStep T) (vs, []) = _
  rw [List.foldl_append]; rfl
theorem own_len (T : Lib.PrintTabs) (vs : List (List UInt8)) : ∀ (n : Nat) (ns : List Node), ns.length = n → (ownS T vs ns).2.length = n
  | n, ns, hn => by
    rcases snoc_cases ns with rfl | ⟨l, x, rfl⟩
    · exact hn
    · rw [own_snoc]
      match n, hn with
      | 0, hn => simp at hn
      | n + 1, hn =>
        have := own_len T vs n l (by simp at hn; exact hn)
        show ((ownS T vs l).2 ++ [_]).length = n + 1
        rw [List.length_append, this]; rfl
theorem own_riseN (T : Lib.PrintTabs) (vs : List (List UInt8)) : ∀ (n : Nat) {ns : List Node}, ns.length = n → Rise (ownS T vs ns).2 vs.length n ∧ cntF (ownS T vs ns).2 vs.length n = (ownS T vs ns).1.length
  | 0, ns, hn => by
    obtain rfl := List.eq_nil_of_length_eq_zero hn
    exact ⟨fun i hi => absurd hi (Nat.not_lt_zero _), rfl⟩
  | n + 1, ns, hn => by
    rcases snoc_cases ns with rfl | ⟨l, x, rfl⟩
    · simp at hn
    · have hl : l.length = n := by simpa using hn
      obtain ⟨ih, ic⟩ := own_riseN T vs n hl
      have hlen := own_len T vs n l hl
      rw [own_snoc]
      generalize ownS T vs l = st at ih ic hlen ⊢
      obtain ⟨us, own⟩ := st
      have hlen : own.length = n := hlen
      have ic : cntF own vs.length n = us.length := ic
      generalize hw : nodeW T x own = w
      have hv : rd (own ++ [((addW us w).idxOf w : Int)]) (n : Int) = ((addW us w).idxOf w : Int) := by rw [← hlen]; exact rd_snoc_eq
      have hc : ∀ i : Nat, i ≤ n → cntF (own ++ [((addW us w).idxOf w : Int)]) vs.length i = cntF own vs.length i := fun i hi => cnt_app (by omega)
      show Rise (own ++ [((addW us (nodeW T x own)).idxOf (nodeW T x own) : Int)]) vs.length (n + 1) ∧ cntF (own ++ [((addW us (nodeW T x own)).idxOf (nodeW T x own) : Int)]) vs.length (n + 1) = (addW us (nodeW T x own)).length
      rw [hw]
      by_cases hm : w ∈ us
      · have ea : addW us w = us := by unfold addW; rw [if_pos hm]
        have hlt := wix_lt hm
        rw [ea] at hv hc ⊢
        refine ⟨fun i hi => ?_, ?_⟩
        · rw [hc i (by omega)]
          by_cases h : i < n
          · rw [rd_app (by omega) (by omega)]; exact ih i h
          · obtain rfl : i = n := by omega
            rw [hv, ic]; omega
        · show (if _ then _ else _) = _
          rw [hc n (Nat.le_refl _), hv, ic, if_neg (by omega)]
      · have ea : addW us w = us ++ [w] := by unfold addW; rw [if_neg hm]
        have hix : (us ++ [w]).idxOf w = us.length := by
          rw [List.idxOf_append, if_neg hm]; simp
        rw [ea, hix] at hv hc ⊢
        refine ⟨fun i hi => ?_, ?_⟩
        · rw [hc i (by omega)]
          by_cases h : i < n
          · rw [rd_app (by omega) (by omega)]; exact ih i h
          · obtain rfl : i = n := by omega
            rw [hv, ic]; omega
        · show (if _ then _ else _) = _
          rw [hc n (Nat.le_refl _), hv, ic, if_pos rfl]; simp
def reN (own : List Int) (n : Node) : Node := ⟨n.kind, n.ints, n.texts, n.kids.map (rd own)⟩
def shrU (ns : List Node) (own : List Int) : Nat → List Node
  | 0 => []
  | i + 1 => if rd own (i : Int) = ((shrU ns own i).length : Int) then shrU ns own i ++ [reN own (nd ns i)] else shrU ns own i
theorem shr_len (ns : List Node) (own : List Int) : ∀ i : Nat, (shrU ns own i).length = cntF own 0 i
  | 0 => rfl
  | i + 1 => by
    show (if _ then _ else _ : List Node).length = (if _ then _ else _)
    rw [shr_len ns own i]
    split
    · rw [List.length_append, shr_len ns own i]; rfl
    · exact shr_len ns own i
structure Cls (ns : List Node) (own : List Int) : Prop where
  ahead : AheadN ns
  rise : Rise own 0 ns.length
  one : ∀ i j : Nat, i < ns.length → j < ns.length → rd own (i : Int) = rd own (j : Int) → reN own (nd ns i) = reN own (nd ns j)
theorem own_cls (T : Lib.PrintTabs) {ns : List Node} (hA : AheadN ns) : Cls ns (ownS T [] ns).2 := by
  have hs := own_spec T [] hA
  refine ⟨hA, (own_riseN T [] ns.length rfl).1, fun i j hi hj h => ?_⟩
  rw [hs.numd.num i hi, hs.numd.num j hj] at h
  have := wix_inj (hs.numd.mem i hi) (hs.numd.mem j hj) (by omega)
  obtain ⟨e1, e2, e3, e4⟩ := (nodeW_inj T).1 this
  unfold reN
  rw [e1, e2, e3, e4]
theorem shr_at {ns : List Node} {own : List Int} (h : Cls ns own) : ∀ (m : Nat), m ≤ ns.length → ∀ i : Nat, i < m → nd (shrU ns own m) (rd own (i : Int)).toNat = reN own (nd ns i)
  | 0, _, i, hi => absurd hi (Nat.not_lt_zero _)
  | m + 1, hm, i, hi => by
    have hl := shr_len ns own m
    show nd (if rd own (m : Int) = ((shrU ns own m).length : Int) then shrU ns own m ++ [reN own (nd ns m)] else shrU ns own m) _ = _
    by_cases hi' : i < m
    · have ih := shr_at h m (by omega) i hi'
      have hlt := h.rise.lt hi' (by omega)
      have h0 := (h.rise i (by omega)).1
      split
      · rw [nd_snoc_lt (by omega)]; exact ih
      · exact ih
    · obtain rfl : i = m := by omega
      split
      · rename_i e
        rw [e, Int.toNat_natCast, nd_snoc_eq]
      · rename_i e
        have h1 := h.rise i (by omega)
        obtain ⟨j, hj, ej⟩ := cnt_onto (own := own) (c := 0) (m := i) (k := (rd own (i : Int)).toNat) (by omega) (by omega)
        have ej : rd own (j : Int) = rd own (i : Int) := by rw [ej]; omega
        have := shr_at h i (by omega) j hj
        rw [ej] at this
        rw [this]
        exact h.one j i (by omega) (by omega) ej
theorem shr_ahead {ns : List Node} {own : List Int} (h : Cls ns own) : ∀ m : Nat, m ≤ ns.length → AheadN (shrU ns own m)
  | 0, _ => fun p hp => absurd hp (Nat.not_lt_zero _)
  | m + 1, hm => by
    have ih := shr_ahead h m (by omega)
    have hl := shr_len ns own m
    show AheadN (if rd own (m : Int) = ((shrU ns own m).length : Int) then shrU ns own m ++ [reN own (nd ns m)] else shrU ns own m)
    split
    · intro p hp k hk
      by_cases hp' : p < (shrU ns own m).length
      · rw [nd_snoc_lt hp'] at hk
        exact ih p hp' k hk
      · have : p = (shrU ns own m).length := by simp at hp; omega
        subst this
        rw [nd_snoc_eq] at hk
        obtain ⟨q, hq, rfl⟩ := List.mem_map.1 hk
        have hq' := h.ahead m (by omega) q hq
        obtain ⟨i, rfl⟩ : ∃ i : Nat, q = (i : Int) := ⟨q.toNat, by omega⟩
        have h1 := h.rise.lt (i := i) (m := m) (by omega) (by omega)
        have h2 := (h.rise i (by omega)).1
        omega
    · exact ih
theorem kid_lt {ns : List Node} {own : List Int} (h : Cls ns own) {i : Nat} (hi : i < ns.length) {k : Int} (hk : k ∈ (nd ns i).kids) : rd own k < rd own (i : Int) := by
  have h1 := shr_at h ns.length (Nat.le_refl _) i hi
  have h2 := h.rise.lt hi (Nat.le_refl _)
  have h3 := (h.rise i hi).1
  have h4 := shr_ahead h ns.length (Nat.le_refl _) (rd own (i : Int)).toNat (by rw [shr_len]; omega) (rd own k) (by rw [h1]; exact List.mem_map.2 ⟨k, hk, rfl⟩)
  omega
theorem ahead_below {ns : List Node} (h : AheadN ns) {p : Nat} (hp : p < ns.length) {x : Int} (hr : Rch ns (kids ns (p : Int)) x) : 0 ≤ x ∧ x < (p : Int) := by
  induction hr with
  | base hk => exact h p hp _ (by rw [← kids_nat]; exact hk)
  | @step i k _ hk ih =>
    have := h i.toNat (by omega) k hk
    omega
theorem ahead_places {ns : List Node} (h : AheadN ns) : Places ns := fun i hi k hk => by
  have := h i hi k hk
  omega
theorem ahead_cyc {ns : List Node} (h : AheadN ns) : ∀ p : Nat, p < ns.length → ¬ Cyc ns p := fun p hp hc => by
  have := ahead_below h hp hc
  omega
theorem rch_pl {ns : List Node} (h : Places ns) {l : List Int} (hl : ∀ x ∈ l, 0 ≤ x ∧ x < (ns.length : Int)) {x : Int} (hr : Rch ns l x) : 0 ≤ x ∧ x < (ns.length : Int) := by
  induction hr with
  | base hk => exact hl _ hk
  | @step i k _ hk ih => exact h i.toNat (by omega) k hk
def shrS (own : List Int) (s : Scene) : Scene := ⟨shrU s.nodes own s.nodes.length, rd own s.root⟩
theorem shr_right {s : Scene} {own : List Int} (hr : Right s) (h : Cls s.nodes own) : Right (shrS own s) := by
  have hA := shr_ahead h s.nodes.length (Nat.le_refl _)
  have hl := shr_len s.nodes own s.nodes.length
  have r0 := hr.r0
  have r1 := hr.r1
  obtain ⟨r, er⟩ : ∃ r : Nat, s.root = (r : Int) := ⟨s.root.toNat, by omega⟩
  refine ⟨?_, ?_, ahead_places hA, ahead_cyc hA, fun c hc => ?_⟩
  · show 0 ≤ rd own s.root
    rw [er]; exact (h.rise r (by omega)).1
  · show rd own s.root < ((shrU s.nodes own s.nodes.length).length : Int)
    rw [er, hl]; exact h.rise.lt (by omega) (Nat.le_refl _)
  · have hc : c < (shrU s.nodes own s.nodes.length).length := hc
    obtain ⟨i, hi, ei⟩ := cnt_onto (own := own) (c := 0) (m := s.nodes.length) (k := c) (by omega) (by omega)
    have key : ∀ x : Int, Rch s.nodes [s.root] x → Rch (shrS own s).nodes [(shrS own s).root] (rd own x) := by
      intro x hx
      induction hx with
      | base hk =>
        rw [List.mem_singleton.1 hk]
        exact .base (by simp [shrS])
      | @step i k hi' hk ih =>
        have hpl := rch_pl hr.pl (l := [s.root]) (fun x hx => by rw [List.mem_singleton.1 hx]; exact ⟨r0, r1⟩) hi'
        refine .step ih ?_
        have e1 := shr_at h s.nodes.length (Nat.le_refl _) i.toNat (by omega)
        show rd own k ∈ (nd (shrU s.nodes own s.nodes.length) (rd own i).toNat).kids
        rw [Int.toNat_of_nonneg hpl.1] at e1
        rw [e1]
        exact List.mem_map.2 ⟨k, hk, rfl⟩
    rw [← ei]
    exact key _ (hr.all i hi)
theorem root_most {s : Scene} {own : List Int} (hr : Right s) (h : Cls s.nodes own) {i : Nat} (hi : i < s.nodes.length) : rd own (i : Int) ≤ rd own s.root ∧ ((i : Int) ≠ s.root → rd own (i : Int) < rd own s.root) := by
  have key : ∀ x : Int, Rch s.nodes [s.root] x → rd own x ≤ rd own s.root ∧ (x ≠ s.root → rd own x < rd own s.root) := by
    intro x hx
    induction hx with
    | base hk => rw [List.mem_singleton.1 hk]; exact ⟨Int.le_refl _, fun h => absurd rfl h⟩
    | @step j k hj hk ih =>
      have hpl := rch_pl hr.pl (l := [s.root]) (fun x hx => by rw [List.mem_singleton.1 hx]; exact ⟨hr.r0, hr.r1⟩) hj
      have h1 := kid_lt h (i := j.toNat) (by omega) hk
      rw [Int.toNat_of_nonneg hpl.1] at h1
      have := ih.1
      exact ⟨by omega, fun _ => by omega⟩
  exact key _ (hr.all i hi)
end Go.Proofs.YtdfneldenipljaaDoor.L
end
section
namespace Go.Proofs.YtdfneldenipljaaDoor.L
open Go.RowKit Go.ChangeShapes Go.WideShapes Go.Proofs.YtdfneldenipljaaDoorW.PrintWords Go.Proofs.YtdfneldenipljaaDoorW.PrintLast Go.Proofs.YtdfneldenipljaaDoorW.PrintMore
attribute [local go_sem] max2_int min2_int max_two min_two max_three min_three max_four min_four
theorem ints_ext {a b : List Int} (hl : a.length = b.length) (h : ∀ j : Nat, j < a.length → rd a (j : Int) = rd b (j : Int)) : a = b :=
  List.ext_getElem hl fun j h1 h2 => by have := h j h1; rwa [rd_eq h1, rd_eq h2] at this
set_option maxRecDepth 100000 in
set_option maxHeartbeats 2000000 in
theorem ints_draw (A : Option Addr) (c : Nat) (a : List Int) (B : Option Addr) (d : Nat) (b : List Int) (w : World) (h : (Kd.int .i64).C w A a.length a) (h' : (Kd.int .i64).C w B b.length b) :
    Calls Tryd.prog 18 #[.slice A a.length c, .slice B b.length d] w fun e w' => e = .returned (.bool (decide (a = b))) ∧ Drawn0 w w' := by
  have HA := Aside0.mk h
  have HBn := Aside0.mk h'
  have b0 := h.2.1
  have b1 := h'.2.1
  clear h h'
  by_cases hl : a.length = b.length
  · have HLn := Aside0.mk hl
    rw [← hl]
    clear hl
    go_enter Tryd.func18, Tryd.ntmps18
    go_wp2
    go_loopw [5] (fun v5 W => ∃ i : Nat, i ≤ a.length ∧ v5 = .int .i64 i ∧ Aside0 (∀ j : Nat, j < i → rd a (j : Int) = rd b (j : Int)) ∧ Drawn0 w W) (fun v5 _ => a.length - (intOf v5).toNat)
    case atStart => exact ⟨0, by omega, rfl, ⟨fun j h => by omega⟩, Drawn0.refl _⟩
    case round =>
      obtain ⟨i, hi, rfl, HJ, ⟨m, rfl⟩⟩ := hrel
      by_cases hlt : i < a.length
      · obtain ⟨ad, rfl, x1⟩ := at_nat HA.out i hlt
        obtain ⟨bd, rfl, x2⟩ := at_nat HBn.out i (by rw [← HLn.out]; exact hlt)
        by_cases he : rd a (i : Int) = rd b (i : Int)
        · have de : (rd a (i : Int) != rd b (i : Int)) = false := by simp [he]
          have HJ2 := Aside0.mk (ext_lt HJ.out he)
          clear he
          go_wp2
          go_region
          go_wp2
          go_roundw
          case rel => exact ⟨i + 1, by omega, by go_num, HJ2, by repeat (first | exact Drawn0.refl _ | apply Drawn0.step)⟩
          case measure => simp [intOf]; omega
        · have de : (rd a (i : Int) != rd b (i : Int)) = true := by simp [he]
          have HE : Aside0 (decide (a = b) = false) := ⟨decide_eq_false (fun hh => he (by rw [hh]))⟩
          clear he
          go_wp2
          go_region
          go_wp2
          go_ret
          exact ⟨ret_bool HE.out.symm, by repeat (first | exact Drawn0.refl _ | apply Drawn0.step)⟩
      · obtain rfl : i = a.length := by omega
        have HE : Aside0 (decide (a = b) = true) := ⟨decide_eq_true (ints_ext HLn.out HJ.out)⟩
        go_wp2
        go_ret
        exact ⟨ret_bool HE.out.symm, by repeat (first | exact Drawn0.refl _ | apply Drawn0.step)⟩
  · have HE : Aside0 (decide (a = b) = false) := ⟨decide_eq_false (fun hh => hl (by rw [hh]))⟩
    have dl : (a.length != b.length) = true := by simp [hl]
    have dl' : ((a.length : Int) != (b.length : Int)) = true := by simp; omega
    clear hl
    go_enter Tryd.func18, Tryd.ntmps18
    go_wp2
    go_ret
    exact ⟨ret_bool HE.out.symm, Drawn0.refl _⟩
theorem ints_any (A : Option Addr) (c : Nat) (a : List Int) (B : Option Addr) (d : Nat) (b : List Int) (w : World) (h : (Kd.int .i64).C w A a.length a) (h' : (Kd.int .i64).C w B b.length b) :
    Calls Tryd.prog 18 #[.slice A a.length c, .slice B b.length d] w fun e w' => e = .returned (.bool (decide (a = b))) ∧ Below w.heap.size w w' := by
  refine (ints_draw A c a B d b w h h').mono ?_
  rintro e w' ⟨rfl, m, rfl⟩
  exact ⟨rfl, pw_below_drewN (Below.refl _ _) m⟩
def greatC (s : Scene) : Bool := greatS s || decide (25 < s.nodes.length)
def great19 (l : List Scene) : Bool := decide (4 < l.length ∨ ∃ j, j < l.length ∧ greatC (sc l j) = true)
set_option maxRecDepth 100000 in
set_option maxHeartbeats 2000000 in
theorem great19_any (A : Option Addr) (c : Nat) (l : List Scene) (w : World) (h : kScene.C w A l.length l) :
    Calls Tryd.prog 14 #[.slice A l.length c] w fun e w' => e = .returned (.bool (great19 l)) ∧ Below w.heap.size w w' := by
  have HR := Aside0.mk h
  have b0 := h.2.1
  have hus := Tryd.underlying34
  clear h
  by_cases h4 : 4 < l.length
  · have HE : Aside0 (great19 l = true) := ⟨decide_eq_true (.inl h4)⟩
    have d4 : decide ((4 : Int) < (l.length : Int)) = true := decide_eq_true (by omega)
    go_enter Tryd.func14, Tryd.ntmps14
    go_wp2
    go_ret
    exact ⟨ret_bool HE.out.symm, Below.refl _ _⟩
  · have H4 := Aside0.mk h4
    have d4 : decide ((4 : Int) < (l.length : Int)) = false := decide_eq_false (by omega)
    have d4n : decide (4 < l.length) = false := decide_eq_false h4
    clear h4
    go_enter Tryd.func14, Tryd.ntmps14
    go_wp2
    go_loopw [10] (fun v10 W => ∃ i : Nat, i ≤ l.length ∧ v10 = .int .i64 i ∧ Aside0 (∀ j : Nat, j < i → greatC (sc l j) = false) ∧ Aside0 (Below w.heap.size w W)) (fun v10 _ => l.length - (intOf v10).toNat)
    case atStart => exact ⟨0, by omega, rfl, ⟨fun j h => by omega⟩, ⟨Below.refl _ _⟩⟩
    case round =>
      obtain ⟨i, hi, rfl, HJ, HW⟩ := hrel
      by_cases hlt : i < l.length
      · obtain ⟨ad, B, d, rfl, x0, x1, hd, hS⟩ := at_scene HR.out i hlt
        replace x0 := pw_cell_below HW.out x0
        replace x1 := pw_cell_below HW.out x1
        have HS := Aside0.mk hS
        have hS2 := hS.2.1
        have HJJ := Aside0.mk (fun hc : greatC (sc l i) = false => ext_lt HJ.out hc)
        have HBad := Aside0.mk (fun hc : greatC (sc l i) = true => (show great19 l = true from decide_eq_true (.inr ⟨i, hlt, hc⟩)))
        clear hS hd
        generalize sc l i = s at x0 x1 HS hS2 HJJ HBad
        have hA := below_alloc (Below.refl wr.heap.size wr) (.cells #[.slice B s.nodes.length d, .int .i64 s.root] 34)
        have q0 := box_cell wr _ rfl #[.slice B s.nodes.length d, .int .i64 s.root] 34 0 (.slice B s.nodes.length d) rfl
        have q1 := box_cell wr _ rfl #[.slice B s.nodes.length d, .int .i64 s.root] 34 1 (.int .i64 s.root) rfl
        have HW1 := Aside0.mk (below_step HW.out hA)
        clear hA
        go_wp2_with fail
        refine (greatS_any B d s _ (Kd.C_below HS.out HW1.out)).mono ?_
        rintro e w2 ⟨rfl, hB2⟩
        replace q0 := pw_cell_below hB2 q0
        have HW2 := Aside0.mk (below_step HW1.out hB2)
        clear hB2 x0 x1 q1
        cases hg : greatS s with
        | true =>
          have HE := Aside0.mk (HBad.out (by unfold greatC; rw [hg]; rfl))
          clear hg
          go_wp2
          go_ret
          exact ⟨ret_bool HE.out.symm, HW2.out⟩
        | false =>
          by_cases h25 : 25 < s.nodes.length
          · have HE := Aside0.mk (HBad.out (by unfold greatC; rw [hg, decide_eq_true h25]; rfl))
            have d25 : decide ((25 : Int) < (s.nodes.length : Int)) = true := decide_eq_true (by omega)
            have d25n : decide (25 < s.nodes.length) = true := decide_eq_true h25
            clear hg h25
            go_wp2
            go_ret
            exact ⟨ret_bool HE.out.symm, HW2.out⟩
          · have HJ2 := Aside0.mk (HJJ.out (by unfold greatC; rw [hg, decide_eq_false h25]; rfl))
            have d25 : decide ((25 : Int) < (s.nodes.length : Int)) = false := decide_eq_false (by omega)
            have d25n : decide (25 < s.nodes.length) = false := decide_eq_false h25
            clear hg h25
            go_wp2
            go_roundw
            case rel => exact ⟨i + 1, by omega, by go_num, HJ2, HW2⟩
            case measure => simp [intOf]; omega
      · obtain rfl : i = l.length := by omega
        have HE : Aside0 (great19 l = false) := ⟨decide_eq_false (fun hh => by
          rcases hh with hh | ⟨j, hj, hh⟩
          · exact H4.out hh
          · have := HJ.out j hj
            rw [hh] at this; cases this)⟩
        go_wp2
        go_ret
        exact ⟨ret_bool HE.out.symm, HW.out⟩
end Go.Proofs.YtdfneldenipljaaDoor.L
end
section
namespace Go.Proofs.YtdfneldenipljaaDoor.L
open Go.RowKit Go.ChangeShapes Go.WideShapes Go.Proofs.YtdfneldenipljaaDoorW.PrintWords Go.Proofs.YtdfneldenipljaaDoorW.PrintLast Go.Proofs.YtdfneldenipljaaDoorW.PrintMore
attribute [local go_sem] max2_int min2_int max_two min_two max_three min_three max_four min_four
theorem szBld : (Tryd.prog.info? 70).map (·.size) = some 2 := by kernel_rfl
theorem liesBld : liesAt Tryd.prog Tryd.prog.depth 70 (2 / Tryd.prog.cellsOf 70) 0 70 1 = true := by kernel_rfl
theorem infoB : (Tryd.prog.info? 5).map (fun i => (i.zero, i.size, i.bytes)) = some (some (.int .u8 0), 1, 1) := by kernel_rfl
theorem neB5 : 70 ≠ 5 := by decide
set_option maxHeartbeats 1000000 in
set_option maxRecDepth 100000 in
theorem ccheck_used (b : Nat) (w : World) (h0 : w.cell? ⟨b, 0, none⟩ = some (.pointer (some ⟨b, 0, none⟩))) :
    Calls Tryd.prog 68 #[.pointer (some ⟨b, 0, none⟩)] w fun e w' => e = .returned (.tuple #[]) ∧ w' = w := by
  obtain ⟨j, hj, _⟩ := Option.map_eq_some_iff.1 szBld
  have t72 := Tryd.underlying70
  have t70 := Tryd.underlying67
  go_enter Tryd.func68, Tryd.ntmps68
  go_wp2
  rw [Lib.run_neq_ptr_same w _ Tryd.underlying67 hj]
  go_wp2
  go_end0
  exact ⟨rfl, rfl⟩
set_option maxHeartbeats 1000000 in
set_option maxRecDepth 100000 in
theorem ccheck_fresh (b : Nat) (w : World) (h0 : w.cell? ⟨b, 0, none⟩ = some (.pointer none)) (hsh : w.shape? b = some (70, 2)) (hfz : w.frozen? ⟨b, 0, none⟩ = false) :
    Calls Tryd.prog 68 #[.pointer (some ⟨b, 0, none⟩)] w fun e w' => e = .returned (.tuple #[]) ∧ w' = w.setCell ⟨b, 0, none⟩ (.pointer (some ⟨b, 0, none⟩)) := by
  obtain ⟨j, hj, hjs⟩ := Option.map_eq_some_iff.1 szBld
  have t72 := Tryd.underlying70
  have t70 := Tryd.underlying67
  go_enter Tryd.func68, Tryd.ntmps68
  go_wp2
  rw [Lib.run_to_unsafe w ⟨b, 0, none⟩ Tryd.underlying67 Tryd.underlying102 hj (by rw [hjs]; decide) hsh (Nat.zero_lt_succ 1)]
  simp only [Result.andThen]
  rw [Oper.upon_value]
  go_wp2
  rw [run_callFunc_extern Tryd.func78 (by kernel_rfl) (by kernel_rfl) (by kernel_rfl) (e := Extern.AbiNoEscape.same) (by kernel_rfl)]
  rw [Lib.run_noEscape]
  simp only [Result.andThen]
  rw [Oper.upon_value]
  go_wp2
  rw [Lib.run_from_unsafe w ⟨b, 0, none⟩ Tryd.underlying102 Tryd.underlying67 hj hsh liesBld]
  simp only [Result.andThen]
  rw [Oper.upon_value]
  go_wp2
  go_end0
  exact ⟨rfl, rfl⟩
theorem ccheck_any (B b : Nat) (bs : List Value) (w : World) (h : Lib.IsBuilder 70 5 B b bs w) :
    Calls Tryd.prog 68 #[.pointer (some ⟨b, 0, none⟩)] w fun e w' => e = .returned (.tuple #[]) ∧ (Lib.BuilderAt 70 5 B b (.pointer (some ⟨b, 0, none⟩)) bs w' ∧ Below B w w') := by
  rcases h with h | h
  · refine (ccheck_fresh b w h.cell0 h.shape h.frozen0).mono ?_
    rintro e w' ⟨rfl, rfl⟩
    exact ⟨rfl, h.used _, (Below.refl B w).setCell (p := ⟨b, 0, none⟩) h.1 _⟩
  · refine (ccheck_used b w h.cell0).mono ?_
    rintro e w' ⟨rfl, rfl⟩
    exact ⟨rfl, h, Below.refl B _⟩
set_option maxHeartbeats 2000000 in
set_option maxRecDepth 100000 in
theorem wstr_any (B b : Nat) (bs : List Value) (s : ByteArray) (w : World) (h : Lib.IsBuilder 70 5 B b bs w) (hlen : bs.length + s.size ≤ 140737488355328) (hBw : B ≤ w.heap.size) :
    Calls Tryd.prog 51 #[.pointer (some ⟨b, 0, none⟩), .string s] w fun e w' => e = .returned (.tuple #[.int .i64 s.size, .nilIface]) ∧ (Lib.BuilderAt 70 5 B b (.pointer (some ⟨b, 0, none⟩)) (bs ++ Lib.strCells s) w' ∧ Below B w w') := by
  obtain ⟨i0, hi, hz0, hz1, hz2⟩ := info_parts infoB
  have t72 := Tryd.underlying70
  have t70 := Tryd.underlying67
  have t37 := Tryd.underlying68
  have t5 := Tryd.underlying5
  go_enter Tryd.func51, Tryd.ntmps51
  go_wp2_with (go_at_call 68; refine (ccheck_any B b bs _ h).mono ?_)
  rintro e w1 ⟨rfl, h1, hb1⟩
  obtain ⟨hB, v, hbk, hown, hne⟩ := h1
  have c0 : w1.cell? ⟨b, 0, none⟩ = some (.pointer (some ⟨b, 0, none⟩)) := by rw [Lib.cell_of_heap hbk]; rfl
  have c1 : w1.cell? ⟨b, 1, none⟩ = some v := by rw [Lib.cell_of_heap hbk]; rfl
  go_wp2_with (at_builtin; refine Lib.wpList_append_own_string _ rfl _ _ 68 9 rfl B 5 i0 Tryd.underlying68 Tryd.underlying9 hi hz0 hz1 hz2 _ _ _ rfl hown s rfl ?c3 ?c4 ?c5 ?_)
  case c3 => unfold maxLen; omega
  case c4 => omega
  case c5 => have := hb1.size; omega
  intro v' w2 hown' hgrow _
  have hlt : b < w1.heap.size := by
    rcases Nat.lt_or_ge b w1.heap.size with h' | h'
    · exact h'
    · simp [Array.getElem?_eq_none h'] at hbk
  have hb2 : w2.heap[b]? = some (.cells #[.pointer (some ⟨b, 0, none⟩), v] 70 (0, 0)) := by
    rw [hgrow.block b hlt (fun e => hne e.symm)]
    exact hbk
  have d0 : w2.cell? ⟨b, 0, none⟩ = some (.pointer (some ⟨b, 0, none⟩)) := by rw [Lib.cell_of_heap hb2]; rfl
  have d1 : w2.cell? ⟨b, 1, none⟩ = some v := by rw [Lib.cell_of_heap hb2]; rfl
  have f1 : w2.frozen? ⟨b, 1, none⟩ = false := Lib.frozen_of_heap hb2 1
  obtain ⟨ao, n', cap, rfl⟩ : ∃ ao n' cap, v' = .slice ao n' cap := by
    rcases hown'.2 with ⟨hv, _⟩ | ⟨g, cap, cur, hv, _⟩
    · exact ⟨_, _, _, hv⟩
    · exact ⟨_, _, _, hv⟩
  go_wp2
  go_ret2
  refine ⟨rfl, ?_, ?_⟩
  · exact Lib.BuilderAt.put (T := 70) (e := 5) hB hb2 (bs' := bs ++ Lib.strCells s) (by simpa [Lib.strCells_length] using hown') neB5
  · exact (hb1.grown hgrow (by have := hb1.size; omega) (fun k hk => (hown.lt k hk).1)).setCell (p := ⟨b, 1, none⟩) hB _
end Go.Proofs.YtdfneldenipljaaDoor.L
end
section
namespace Go.Proofs.YtdfneldenipljaaDoor.L
open Go.RowKit Go.ChangeShapes Go.WideShapes Go.Proofs.YtdfneldenipljaaDoorW.PrintWords Go.Proofs.YtdfneldenipljaaDoorW.PrintLast Go.Proofs.YtdfneldenipljaaDoorW.PrintMore
attribute [local go_sem] max2_int min2_int max_two min_two max_three min_three max_four min_four
def Tabs (w : World) : Prop := Lib.Utf8Tabs 3 4 w
theorem Tabs.below {w w' : World} (h : Tabs w) (hb : Below w.heap.size w w') : Tabs w' := Utf8Tabs_below h hb
end Go.Proofs.YtdfneldenipljaaDoor.L
end
section
namespace Go.Proofs.YtdfneldenipljaaDoor.L
open Go.RowKit Go.ChangeShapes Go.WideShapes Go.Proofs.YtdfneldenipljaaDoorW.PrintWords Go.Proofs.YtdfneldenipljaaDoorW.PrintLast Go.Proofs.YtdfneldenipljaaDoorW.PrintMore
attribute [local go_sem] max2_int min2_int max_two min_two max_three min_three max_four min_four
structure QTabs (T : Lib.PrintTabs) (w : World) : Prop where
  utf : Tabs w
  prt : Lib.PrintTabsAt 5 6 7 8 T w
  pow : Lib.TabIs Tryd.prog w "internal/strconv.uint64pow10" .u64 Lib.pow10Tab
theorem tabSlice_below {g : Nat} {k : IntKind} {t : List Nat} {w w' : World} (h : Lib.TabSlice g k t w) (hb : Below w.heap.size w w') : Lib.TabSlice g k t w' := by
  obtain ⟨R, o, c, h1, h2⟩ := h
  exact ⟨R, o, c, pw_cell_below hb h1, fun j hj => pw_cell_below hb (h2 j hj)⟩
theorem QTabs.below {T : Lib.PrintTabs} {w w' : World} (h : QTabs T w) (hb : Below w.heap.size w w') : QTabs T w' := by
  obtain ⟨a, b, c, d, e⟩ := h.prt
  exact ⟨h.utf.below hb, ⟨tabSlice_below a hb, tabSlice_below b hb, tabSlice_below c hb, tabSlice_below d hb, e⟩, Lib.tabBelow_of_tabIs h.pow w' hb⟩
def I64 (x : Int) : Prop := -9223372036854775808 ≤ x ∧ x ≤ 9223372036854775807
structure NBd (n : Node) : Prop where
  kind : I64 n.kind
  ints : ∀ x ∈ n.ints, I64 x
theorem itoa_any (T : Lib.PrintTabs) (x : Int) (w : World) (hx : I64 x) (hT : QTabs T w) : Calls Tryd.prog 52 #[.int .i64 x] w fun e w' => e = .returned (.string ⟨(Lib.itoa x).toArray⟩) ∧ Below w.heap.size w w' := by
  refine (Tryd.strconv_Itoa x hx.1 hx.2 w hT.pow).mono ?_
  rintro e w' ⟨rfl, k, os, rfl⟩
  exact ⟨rfl, Lib.below_grow _ w (Nat.le_refl _) k os⟩
theorem fint_any (T : Lib.PrintTabs) (x : Int) (w : World) (hx : I64 x) (hT : QTabs T w) : Calls Tryd.prog 53 #[.int .i64 x, .int .i64 10] w fun e w' => e = .returned (.string ⟨(Lib.itoa x).toArray⟩) ∧ Below w.heap.size w w' := by
  refine (Tryd.strconv_FormatInt_10 x hx.1 hx.2 w hT.pow).mono ?_
  rintro e w' ⟨rfl, k, os, rfl⟩
  exact ⟨rfl, Lib.below_grow _ w (Nat.le_refl _) k os⟩
theorem quote_any (T : Lib.PrintTabs) (s : ByteArray) (w : World) (hs : s.size ≤ 1000000) (hT : QTabs T w) : Calls Tryd.prog 54 #[.string s] w fun e w' => e = .returned (.string ⟨(qB T s).toArray⟩) ∧ Below w.heap.size w w' := by
  refine (Tryd.strconv_Quote T s w (by omega) hT.prt hT.utf).mono ?_
  rintro e w' ⟨rfl, hb⟩
  exact ⟨rfl, hb⟩
theorem qB_len (T : Lib.PrintTabs) (s : ByteArray) : (qB T s).length ≤ 10 * s.size + 2 := by
  unfold qB
  rw [Lib.bytesOf_length]
  exact Lib.quoteZ_length_le T s
theorem itoa_len {x : Int} (h : I64 x) : (Lib.itoa x).length ≤ 21 := Lib.itoa_length_le x h.1 h.2
theorem wNums_len {l : List Int} (h : ∀ x ∈ l, I64 x) : (wNums l).length ≤ l.length * 22 := by
  induction l with
  | nil => exact Nat.zero_le _
  | cons v l ih =>
    have h1 := ih (fun x hx => h x (by simp [hx]))
    have h2 := itoa_len (h v (by simp))
    have e : wNums (v :: l) = 32 :: (Lib.itoa v ++ wNums l) := rfl
    rw [e, List.length_cons, List.length_append, List.length_cons, Nat.succ_mul]
    omega
theorem wTexts_len (T : Lib.PrintTabs) {l : List ByteArray} (h : ∀ x ∈ l, x.size ≤ 1000000) : (wTexts T l).length ≤ l.length * 10000003 := by
  induction l with
  | nil => exact Nat.zero_le _
  | cons v l ih =>
    have h1 := ih (fun x hx => h x (by simp [hx]))
    have h2 := qB_len T v
    have h3 := h v (by simp)
    have e : wTexts T (v :: l) = 32 :: (qB T v ++ wTexts T l) := rfl
    rw [e, List.length_cons, List.length_append, List.length_cons, Nat.succ_mul]
    omega
structure WRel (b : Nat) (w0 : World) (l : List UInt8) (W : World) : Prop where
  is : Lib.IsBuilder 70 5 b b (Lib.byteCells l) W
  below : Below b w0 W
  ge : b ≤ W.heap.size
theorem WRel.later {b : Nat} {w0 W W1 : World} {l : List UInt8} (h : WRel b w0 l W) (hb : Below W.heap.size W W1) : WRel b w0 l W1 := by
  have key : ∀ {p : Value}, Lib.BuilderAt 70 5 b b p (Lib.byteCells l) W → Lib.BuilderAt 70 5 b b p (Lib.byteCells l) W1 := by
    rintro p ⟨h1, v, h2, h3, h4⟩
    refine ⟨h1, v, (hb.block b (blk_lt h2)).trans h2, h3.kept (row := none) ⟨hb.os, hb.tape, hb.output, hb.size, fun i hi _ => hb.block i hi⟩ ?_, h4⟩
    cases v.ownBlock with
    | none => exact .inl rfl
    | some k => exact .inr (by simp)
  refine ⟨?_, h.below.trans (hb.mono h.ge), Nat.le_trans h.ge hb.size⟩
  rcases h.is with h | h
  · exact .inl (key h)
  · exact .inr (key h)
theorem WRel.wrote {b : Nat} {w0 W W1 : World} {l m : List UInt8} {s : ByteArray} (h : WRel b w0 l W) (hs : s.data.toList = m) (h1 : Lib.BuilderAt 70 5 b b (.pointer (some ⟨b, 0, none⟩)) (Lib.byteCells l ++ Lib.strCells s) W1) (hb : Below b W W1) : WRel b w0 (l ++ m) W1 := by
  refine ⟨.inr ?_, h.below.trans hb, Nat.le_trans h.ge hb.size⟩
  rw [Lib.strCells_eq, hs] at h1
  rwa [show Lib.byteCells (l ++ m) = Lib.byteCells l ++ Lib.byteCells m from List.map_append]
theorem WRel.lt {b : Nat} {w0 W : World} {l : List UInt8} (h : WRel b w0 l W) : b < W.heap.size := by
  rcases h.is with h | h <;> exact h.lt
theorem M_slicesW {W : World} {B : Nat} {m : Node} {v1 v2 v3 : Value} (h : kNode.M W B (fun _ => True) m [.int .i64 m.kind, v1, v2, v3]) : ∃ A1 c1 A2 c2 A3 c3, v1 = .slice A1 m.ints.length c1 ∧ v2 = .slice A2 m.texts.length c2 ∧ v3 = .slice A3 m.kids.length c3 := by
  obtain ⟨x1, x2, x3, e, h1, h2, h3⟩ := kNode_openM h
  injection e with _ e
  injection e with e1 e
  injection e with e2 e
  injection e with e3 _
  subst e1 e2 e3
  obtain ⟨A1, c1, r1⟩ := Kd.R_slice h1
  obtain ⟨A2, c2, r2⟩ := Kd.R_slice h2
  obtain ⟨A3, c3, r3⟩ := Kd.R_slice h3
  exact ⟨A1, c1, A2, c2, A3, c3, r1, r2, r3⟩
end Go.Proofs.YtdfneldenipljaaDoor.L
end
section
namespace Go.Proofs.YtdfneldenipljaaDoor.L
open Go.RowKit Go.ChangeShapes Go.WideShapes Go.Proofs.YtdfneldenipljaaDoorW.PrintWords Go.Proofs.YtdfneldenipljaaDoorW.PrintLast Go.Proofs.YtdfneldenipljaaDoorW.PrintMore
attribute [local go_sem] max2_int min2_int max_two min_two max_three min_three max_four min_four
theorem wTexts_snoc (T : Lib.PrintTabs) (l : List ByteArray) (x : ByteArray) : wTexts T (l ++ [x]) = wTexts T l ++ 32 :: qB T x := by simp [wTexts]
set_option maxRecDepth 100000 in
set_option maxHeartbeats 8000000 in
theorem word_any (T : Lib.PrintTabs) (n : Node) (A1 : Option Addr) (c1 : Nat) (A2 : Option Addr) (c2 : Nat) (A3 : Option Addr) (c3 : Nat) (Ao : Option Addr) (co : Nat) (own : List Int) (w : World) (h : NodeC w n A1 c1 A2 c2 A3 c3) (hs : Small n) (hts : ∀ x ∈ n.texts, x.size ≤ 1000000) (hn : NBd n)
    (ho : (Kd.int .i64).C w Ao own.length own) (hk : ∀ k ∈ n.kids, 0 ≤ k ∧ k < (own.length : Int)) (hoB : ∀ x ∈ own, I64 x) (hT : QTabs T w) :
    Calls Tryd.prog 36 #[.agg #[.int .i64 n.kind, .slice A1 n.ints.length c1, .slice A2 n.texts.length c2, .slice A3 n.kids.length c3], .slice Ao own.length co] w fun e w' => e = .returned (.string ⟨(nodeW T n own).toArray⟩) ∧ Below w.heap.size w w' := by
  have HN := Aside0.mk h
  have HS := Aside0.mk hs
  have HTS := Aside0.mk hts
  have HB := Aside0.mk hn
  have HO := Aside0.mk ho
  have HK := Aside0.mk hk
  have HOB := Aside0.mk hoB
  have HT := Aside0.mk hT
  have hun := Tryd.underlying52
  have hub := Tryd.underlying70
  have HA := Aside0.mk (below_alloc (Below.refl w.heap.size w) (.cells #[.int .i64 n.kind, .slice A1 n.ints.length c1, .slice A2 n.texts.length c2, .slice A3 n.kids.length c3] 52))
  clear h hs hts hn ho hk hoB hT
  go_enter Tryd.func36, Tryd.ntmps36
  go_wp2_with fail
  refine (copy_any n A1 c1 A2 c2 A3 c3 _ (HN.out.below HA.out) HS.out).mono ?_
  rintro e w1 ⟨v', rfl, ⟨v1, v2, v3, rfl, hM⟩, hB1⟩
  obtain ⟨A5, c5, A6, c6, A7, c7, rfl, rfl, rfl⟩ := M_slicesW hM
  have HN1 : Aside0 (NodeC w1 n A5 c5 A6 c6 A7 c7) := by
    obtain ⟨x1, x2, x3, e, h1, h2, h3⟩ := kNode_openM hM
    injection e with _ e
    injection e with e1 e
    injection e with e2 e
    injection e with e3 _
    subst e1 e2 e3
    have r1 := Kd.R_reads' h1
    have r2 := Kd.R_reads' h2
    have r3 := Kd.R_reads' h3
    exact ⟨r1.2.1, r2.2.1, r3.2.1, r1.2.2, r2.2.2, r3.2.2⟩
  have HB1 := Aside0.mk (below_step HA.out hB1)
  clear hM hB1 HN HA
  go_wp2_with fail
  have hA2 := below_alloc (Below.refl w1.heap.size w1) (.cells #[.int .i64 n.kind, .slice A5 n.ints.length c5, .slice A6 n.texts.length c6, .slice A7 n.kids.length c7] 52)
  have y1 := box_cell w1 _ rfl #[.int .i64 n.kind, .slice A5 n.ints.length c5, .slice A6 n.texts.length c6, .slice A7 n.kids.length c7] 52 1 (.slice A5 n.ints.length c5) rfl
  have y2 := box_cell w1 _ rfl #[.int .i64 n.kind, .slice A5 n.ints.length c5, .slice A6 n.texts.length c6, .slice A7 n.kids.length c7] 52 2 (.slice A6 n.texts.length c6) rfl
  have y3 := box_cell w1 _ rfl #[.int .i64 n.kind, .slice A5 n.ints.length c5, .slice A6 n.texts.length c6, .slice A7 n.kids.length c7] 52 3 (.slice A7 n.kids.length c7) rfl
  have HN2 := Aside0.mk (HN1.out.below hA2)
  have HB2 := Aside0.mk (below_step HB1.out hA2)
  have HO2 := Aside0.mk (Kd.C_below HO.out HB2.out)
  have HT2 := Aside0.mk (HT.out.below HB2.out)
  have hgx : w1.heap.size + 1 = (w1.alloc (.cells #[.int .i64 n.kind, .slice A5 n.ints.length c5, .slice A6 n.texts.length c6, .slice A7 n.kids.length c7] 52)).heap.size := by simp
  have HGx := Aside0.mk hgx
  rw [hgx]
  clear HN1 HB1 HO HT hA2 hgx
  generalize w1.alloc (.cells #[.int .i64 n.kind, .slice A5 n.ints.length c5, .slice A6 n.texts.length c6, .slice A7 n.kids.length c7] 52) = w2 at HN2 HB2 HO2 HT2 HGx y1 y2 y3 ⊢
  generalize w1.heap.size = gx at HGx y1 y2 y3 ⊢
  have HW2 : Aside0 (WRel w2.heap.size w2 [] (w2.alloc (.cells #[.pointer none, .slice none 0 0] 70))) :=
    ⟨Lib.fresh_isBuilder 70 5 w2, below_alloc (Below.refl _ _) _, by simp⟩
  have Y1 : ∀ W, Below w2.heap.size w2 W → W.cell? ⟨gx, 1, none⟩ = some (.slice A5 n.ints.length c5) := fun W h => pw_cell_below h y1
  have Y2 : ∀ W, Below w2.heap.size w2 W → W.cell? ⟨gx, 2, none⟩ = some (.slice A6 n.texts.length c6) := fun W h => pw_cell_below h y2
  have Y3 : ∀ W, Below w2.heap.size w2 W → W.cell? ⟨gx, 3, none⟩ = some (.slice A7 n.kids.length c7) := fun W h => pw_cell_below h y3
  have HY1 := Aside0.mk Y1
  have HY2 := Aside0.mk Y2
  have HY3 := Aside0.mk Y3
  clear y1 y2 y3 Y1 Y2 Y3
  have HLi := Aside0.mk (itoa_len HB.out.kind)
  refine (itoa_any T n.kind _ HB.out.kind (HT2.out.below (below_alloc (Below.refl _ _) _))).mono ?_
  rintro e w3 ⟨rfl, hB3⟩
  have HW3 := Aside0.mk (HW2.out.later hB3)
  clear HW2 hB3
  go_wp2_with fail
  refine (wstr_any _ _ _ _ _ HW3.out.is (by rw [Lib.byteCells_length]; show 0 + (Lib.itoa n.kind).length ≤ _; have := HLi.out; omega) HW3.out.ge).mono ?_
  rintro e w4 ⟨rfl, hw4, hB4⟩
  have HW4 := Aside0.mk (HW3.out.wrote (m := Lib.itoa n.kind) rfl hw4 hB4)
  have x1 := HY1.out _ HW4.out.below
  clear HW3 hw4 hB4
  go_wp2
  clear x1
  go_loopw [22] (fun v22 W => ∃ i : Nat, i ≤ n.ints.length ∧ v22 = .int .i64 i ∧ Aside0 (WRel w2.heap.size w2 (Lib.itoa n.kind ++ wNums (n.ints.take i)) W)) (fun v22 _ => n.ints.length - (intOf v22).toNat)
  case atStart => exact ⟨0, by omega, rfl, by rw [List.take_zero]; exact ⟨by have := HW4.out; simpa [wNums] using this⟩⟩
  case round =>
    clear HW4
    obtain ⟨i, hi, rfl, HI⟩ := hrel
    have hil : n.ints.length ≤ 1000000 := HS.out.1
    by_cases hlt : i < n.ints.length
    · obtain ⟨ad, rfl, z0⟩ := at_nat (HN2.out.below HI.out.below).i i hlt
      have HX := Aside0.mk (HB.out.ints _ (rd_mem hlt))
      have HLx := Aside0.mk (itoa_len HX.out)
      have HTk := Aside0.mk (show wNums (n.ints.take (i + 1)) = wNums (n.ints.take i) ++ 32 :: Lib.itoa (rd n.ints (i : Int)) from by rw [take_succ_rd hlt]; simp [wNums])
      have HLp := Aside0.mk (wNums_len (l := n.ints.take i) (fun x hx => HB.out.ints x (List.mem_of_mem_take hx)))
      generalize rd n.ints (i : Int) = x at z0 HX HLx HTk
      have hlx := HLx.out
      go_wp2_with fail
      refine (fint_any T x _ HX.out (HT2.out.below HI.out.below)).mono ?_
      rintro e w6 ⟨rfl, hB6⟩
      have HW6 := Aside0.mk (HI.out.later hB6)
      clear hB6 z0
      go_wp2_with fail
      refine (wstr_any _ _ _ _ _ HW6.out.is (by
        rw [Lib.byteCells_length, List.length_append]
        have h1 := HLi.out
        have h2 := HLp.out
        have h3 : (n.ints.take i).length ≤ 1000000 := by rw [List.length_take]; omega
        have h4 : (⟨#[32]⟩ ++ ⟨(Lib.itoa x).toArray⟩ : ByteArray).size = 1 + (Lib.itoa x).length := by rw [ByteArray.size_append]; rfl
        rw [h4]; omega) HW6.out.ge).mono ?_
      rintro e w7 ⟨rfl, hw7, hB7⟩
      have HW7 := Aside0.mk (HW6.out.wrote (m := 32 :: Lib.itoa x) (by simp) hw7 hB7)
      clear HW6 hw7 hB7
      rw [List.append_assoc, ← HTk.out] at HW7
      go_wp2
      go_roundw
      case rel => exact ⟨i + 1, by omega, by go_num, HW7⟩
      case measure => simp [intOf]; omega
    · obtain rfl : i = n.ints.length := by omega
      rw [List.take_length] at HI
      have x2 := HY2.out _ HI.out.below
      have HLp := Aside0.mk (wNums_len (l := n.ints) HB.out.ints)
      clear hlt hi
      go_wp2
      clear x2
      go_loopw [34] (fun v34 W => ∃ i : Nat, i ≤ n.texts.length ∧ v34 = .int .i64 i ∧ Aside0 (WRel w2.heap.size w2 (Lib.itoa n.kind ++ (wNums n.ints ++ wTexts T (n.texts.take i))) W)) (fun v34 _ => n.texts.length - (intOf v34).toNat)
      case atStart => exact ⟨0, by omega, rfl, by rw [List.take_zero]; exact ⟨by have := HI.out; simpa [wTexts] using this⟩⟩
      case round =>
        clear HI
        obtain ⟨i, hi, rfl, HI⟩ := hrel
        have htl : n.texts.length ≤ 1000000 := HS.out.2.1
        by_cases hlt : i < n.texts.length
        · obtain ⟨ad, rfl, z0⟩ := at_str (HN2.out.below HI.out.below).t i hlt
          have HX := Aside0.mk (show (str n.texts i).size ≤ 1000000 from HTS.out _ (by
            have : str n.texts i = n.texts[i] := by unfold str; rw [List.getD_eq_getElem?_getD, List.getElem?_eq_getElem hlt]; rfl
            rw [this]; exact List.getElem_mem hlt))
          have HTk := Aside0.mk (show wTexts T (n.texts.take (i + 1)) = wTexts T (n.texts.take i) ++ 32 :: qB T (str n.texts i) from by
            have : str n.texts i = n.texts[i] := by unfold str; rw [List.getD_eq_getElem?_getD, List.getElem?_eq_getElem hlt]; rfl
            rw [List.take_succ_eq_append_getElem hlt, this, wTexts_snoc])
          have HLt := Aside0.mk (wTexts_len T (l := n.texts.take i) (fun x hx => HTS.out x (List.mem_of_mem_take hx)))
          generalize str n.texts i = x at z0 HX HTk
          have hlx := qB_len T x
          have hx1 := HX.out
          go_wp2_with fail
          refine (quote_any T x _ HX.out (HT2.out.below HI.out.below)).mono ?_
          rintro e w6 ⟨rfl, hB6⟩
          have HW6 := Aside0.mk (HI.out.later hB6)
          clear hB6 z0
          go_wp2_with fail
          refine (wstr_any _ _ _ _ _ HW6.out.is (by
            rw [Lib.byteCells_length, List.length_append, List.length_append]
            have h1 := HLi.out
            have h2 := HLp.out
            have h2' := HLt.out
            have h5 : n.ints.length ≤ 1000000 := HS.out.1
            have h3 : (n.texts.take i).length ≤ 1000000 := by rw [List.length_take]; omega
            have h4 : (⟨#[32]⟩ ++ ⟨(qB T x).toArray⟩ : ByteArray).size = 1 + (qB T x).length := by rw [ByteArray.size_append]; rfl
            rw [h4]; omega) HW6.out.ge).mono ?_
          rintro e w7 ⟨rfl, hw7, hB7⟩
          have HW7 := Aside0.mk (HW6.out.wrote (m := 32 :: qB T x) (by simp) hw7 hB7)
          clear HW6 hw7 hB7
          rw [List.append_assoc, List.append_assoc, ← HTk.out] at HW7
          go_wp2
          go_roundw
          case rel => exact ⟨i + 1, by omega, by go_num, HW7⟩
          case measure => simp [intOf]; omega
        · obtain rfl : i = n.texts.length := by omega
          rw [List.take_length] at HI
          have HLt := Aside0.mk (wTexts_len T (l := n.texts) HTS.out)
          clear hlt hi
          go_wp2_with fail
          refine (wstr_any _ _ _ _ _ HI.out.is (by
            rw [Lib.byteCells_length, List.length_append, List.length_append]
            have h1 := HLi.out
            have h2 := HLp.out
            have h2' := HLt.out
            have h5 : n.ints.length ≤ 1000000 := HS.out.1
            show _ + 2 ≤ _
            omega) HI.out.ge).mono ?_
          rintro e w8 ⟨rfl, hw8, hB8⟩
          have HW8 := Aside0.mk (HI.out.wrote (m := [32, 47]) rfl hw8 hB8)
          clear HI hw8 hB8
          have x3 := HY3.out _ HW8.out.below
          go_wp2
          clear x3
          go_loopw [47] (fun v47 W => ∃ i : Nat, i ≤ n.kids.length ∧ v47 = .int .i64 i ∧ Aside0 (WRel w2.heap.size w2 (Lib.itoa n.kind ++ (wNums n.ints ++ (wTexts T n.texts ++ 32 :: 47 :: wNums ((n.kids.take i).map (rd own))))) W)) (fun v47 _ => n.kids.length - (intOf v47).toNat)
          case atStart => exact ⟨0, by omega, rfl, by rw [List.take_zero]; exact ⟨by have := HW8.out; simpa [wNums] using this⟩⟩
          case round =>
            clear HW8
            obtain ⟨i, hi, rfl, HI⟩ := hrel
            have hkl : n.kids.length ≤ 1000000 := HS.out.2.2
            by_cases hlt : i < n.kids.length
            · obtain ⟨ad, rfl, z0⟩ := at_nat (HN2.out.below HI.out.below).k i hlt
              have HQ := Aside0.mk (HK.out _ (rd_mem hlt))
              have HTk := Aside0.mk (show (n.kids.take (i + 1)).map (rd own) = (n.kids.take i).map (rd own) ++ [rd own (rd n.kids (i : Int))] from by rw [take_succ_rd hlt, List.map_append]; rfl)
              obtain ⟨k, hk⟩ : ∃ k : Nat, rd n.kids (i : Int) = (k : Int) := ⟨(rd n.kids (i : Int)).toNat, by have := HQ.out.1; omega⟩
              have hkn : k < own.length := by have := HQ.out.2; omega
              rw [hk] at z0 HTk
              obtain ⟨ao, rfl, z1⟩ := at_nat (Kd.C_below HO2.out HI.out.below) k hkn
              have HX := Aside0.mk (HOB.out _ (rd_mem hkn))
              have HLp2 := Aside0.mk (wNums_len (l := (n.kids.take i).map (rd own)) (fun x hx => by
                obtain ⟨q, hq, rfl⟩ := List.mem_map.1 hx
                have h1 := HK.out q (List.mem_of_mem_take hq)
                obtain ⟨p, rfl⟩ : ∃ p : Nat, q = (p : Int) := ⟨q.toNat, by omega⟩
                exact HOB.out _ (rd_mem (by omega))))
              have HTk2 := Aside0.mk (show wNums ((n.kids.take (i + 1)).map (rd own)) = wNums ((n.kids.take i).map (rd own)) ++ 32 :: Lib.itoa (rd own (k : Int)) from by rw [HTk.out]; simp [wNums])
              clear hk HTk HQ
              generalize rd own (k : Int) = x at z1 HX HTk2
              have HLx := Aside0.mk (itoa_len HX.out)
              have hlx := HLx.out
              go_wp2_with fail
              refine (itoa_any T x _ HX.out (HT2.out.below HI.out.below)).mono ?_
              rintro e w6 ⟨rfl, hB6⟩
              have HW6 := Aside0.mk (HI.out.later hB6)
              clear hB6 z0 z1
              go_wp2_with fail
              refine (wstr_any _ _ _ _ _ HW6.out.is (by
                rw [Lib.byteCells_length, List.length_append, List.length_append, List.length_append, List.length_cons, List.length_cons]
                have h1 := HLi.out
                have h2 := HLp.out
                have h2' := HLt.out
                have h2'' := HLp2.out
                have h5 : n.ints.length ≤ 1000000 := HS.out.1
                have h6 : n.texts.length ≤ 1000000 := HS.out.2.1
                have h3 : ((n.kids.take i).map (rd own)).length ≤ 1000000 := by rw [List.length_map, List.length_take]; omega
                have h4 : (⟨#[32]⟩ ++ ⟨(Lib.itoa x).toArray⟩ : ByteArray).size = 1 + (Lib.itoa x).length := by rw [ByteArray.size_append]; rfl
                rw [h4]; omega) HW6.out.ge).mono ?_
              rintro e w7 ⟨rfl, hw7, hB7⟩
              have HW7 := Aside0.mk (HW6.out.wrote (m := 32 :: Lib.itoa x) (by simp) hw7 hB7)
              clear HW6 hw7 hB7
              rw [show ∀ a b c d e : List UInt8, a ++ (b ++ (c ++ 32 :: 47 :: d)) ++ e = a ++ (b ++ (c ++ 32 :: 47 :: (d ++ e))) from fun a b c d e => by simp, ← HTk2.out] at HW7
              go_wp2
              go_roundw
              case rel => exact ⟨i + 1, by omega, by go_num, HW7⟩
              case measure => simp [intOf]; omega
            · obtain rfl : i = n.kids.length := by omega
              rw [List.take_length] at HI
              clear hlt hi
              go_wp2_with fail
              refine (Tryd.Builder_String_any _ _ _ _ HI.out.is HI.out.ge).mono ?_
              rintro e w9 ⟨rfl, hB9⟩
              have HB9 := Aside0.mk (HB2.out.trans ((HI.out.below.trans hB9).mono HB2.out.size))
              clear hB9 HI
              go_wp2
              go_ret
              exact ⟨rfl, HB9.out⟩
end Go.Proofs.YtdfneldenipljaaDoor.L
end
section
namespace Go.Proofs.YtdfneldenipljaaDoor.L
open Go.RowKit Go.ChangeShapes Go.WideShapes Go.Proofs.YtdfneldenipljaaDoorW.PrintWords Go.Proofs.YtdfneldenipljaaDoorW.PrintLast Go.Proofs.YtdfneldenipljaaDoorW.PrintMore
attribute [local go_sem] max2_int min2_int max_two min_two max_three min_three max_four min_four
theorem all_snoc (T : Lib.PrintTabs) (l : List Scene) (s : Scene) : allS T (l ++ [s]) = ((ownS T (allS T l).1 s.nodes).1, (allS T l).2 ++ [(ownS T (allS T l).1 s.nodes).2]) := by
  unfold allS
  rw [List.foldl_append]; rfl
structure AllSpec (T : Lib.PrintTabs) (l : List Scene) (r : List (List UInt8) × List (List Int)) : Prop where
  len : r.2.length = l.length
  numd : ∀ i : Nat, i < l.length → Numd T r.1 (l.getD i ⟨[], 0⟩).nodes (r.2.getD i [])
  from_ : ∀ x ∈ r.1, ∃ i j : Nat, i < l.length ∧ j < (l.getD i ⟨[], 0⟩).nodes.length ∧ x = nodeW T (nd (l.getD i ⟨[], 0⟩).nodes j) (r.2.getD i [])
  nodup : r.1.Nodup
theorem getD_snoc_lt {α : Type} {l : List α} {x d : α} {i : Nat} (h : i < l.length) : (l ++ [x]).getD i d = l.getD i d := by
  rw [List.getD_eq_getElem?_getD, List.getD_eq_getElem?_getD, List.getElem?_append_left h]
theorem getD_snoc_eq {α : Type} {l : List α} {x d : α} : (l ++ [x]).getD l.length d = x := by
  rw [List.getD_eq_getElem?_getD, List.getElem?_append_right (Nat.le_refl _)]
  simp
theorem all_specN (T : Lib.PrintTabs) : ∀ (n : Nat) {l : List Scene}, l.length = n → (∀ s ∈ l, AheadN s.nodes) → AllSpec T l (allS T l)
  | 0, l, hn, _ => by
    obtain rfl := List.eq_nil_of_length_eq_zero hn
    exact ⟨rfl, fun i hi => absurd hi (Nat.not_lt_zero _), fun x hx => by simp [allS] at hx, by simp [allS]⟩
  | n + 1, l, hn, hA => by
    rcases snoc_cases l with rfl | ⟨l, s, rfl⟩
    · simp at hn
    · have ih := all_specN T n (l := l) (by simpa using hn) (fun s hs => hA s (by simp [hs]))
      have hs := own_spec T (allS T l).1 (hA s (by simp))
      rw [all_snoc]
      generalize allS T l = st at ih hs ⊢
      obtain ⟨vs, outs⟩ := st
      have hlen : outs.length = l.length := ih.len
      generalize ownS T vs s.nodes = r at hs ⊢
      obtain ⟨us, own⟩ := r
      have hs : OwnSpec T vs s.nodes (us, own) := hs
      refine ⟨by show (outs ++ [own]).length = _; simp [hlen], fun i hi => ?_, fun x hx => ?_, hs.nodup ih.nodup⟩
      · show Numd T us ((l ++ [s]).getD i ⟨[], 0⟩).nodes ((outs ++ [own]).getD i [])
        by_cases h : i < l.length
        · rw [getD_snoc_lt h, getD_snoc_lt (by omega)]
          exact (ih.numd i h).pre hs.pre
        · have : i = l.length := by simp at hi; omega
          subst this
          rw [getD_snoc_eq]
          conv => arg 4; rw [← hlen]
          rw [getD_snoc_eq]
          exact hs.numd
      · rcases hs.from_ x hx with hx | ⟨j, hj, rfl⟩
        · obtain ⟨i, j, hi, hj, e⟩ := ih.from_ x hx
          refine ⟨i, j, by simp; omega, by rw [getD_snoc_lt hi]; exact hj, ?_⟩
          show x = nodeW T (nd ((l ++ [s]).getD i ⟨[], 0⟩).nodes j) ((outs ++ [own]).getD i [])
          rw [getD_snoc_lt hi, getD_snoc_lt (by omega)]
          exact e
        · refine ⟨l.length, j, by simp, by rw [getD_snoc_eq]; exact hj, ?_⟩
          show _ = nodeW T (nd ((l ++ [s]).getD l.length ⟨[], 0⟩).nodes j) ((outs ++ [own]).getD l.length [])
          rw [getD_snoc_eq]
          conv => rhs; arg 3; rw [← hlen]
          rw [getD_snoc_eq]
theorem all_spec (T : Lib.PrintTabs) {l : List Scene} (hA : ∀ s ∈ l, AheadN s.nodes) : AllSpec T l (allS T l) := all_specN T l.length rfl hA
theorem num_seen {T : Lib.PrintTabs} {l : List Scene} {s : Scene} (hA : ∀ x ∈ l, AheadN x.nodes) (hs : AheadN s.nodes) {j : Nat} (hj : j < s.nodes.length)
    (h : rd (ownS T (allS T l).1 s.nodes).2 (j : Int) ≠ (cntF (ownS T (allS T l).1 s.nodes).2 (allS T l).1.length j : Int)) :
    (∃ k m : Nat, k < l.length ∧ m < (l.getD k ⟨[], 0⟩).nodes.length ∧ rd ((allS T l).2.getD k []) (m : Int) = rd (ownS T (allS T l).1 s.nodes).2 (j : Int)) ∨
    ∃ m : Nat, m < j ∧ rd (ownS T (allS T l).1 s.nodes).2 (m : Int) = rd (ownS T (allS T l).1 s.nodes).2 (j : Int) := by
  have ha := all_spec T hA
  have ho := own_spec T (allS T l).1 hs
  have hr := (own_riseN T (allS T l).1 s.nodes.length rfl).1 j hj
  by_cases hc : (allS T l).1.length ≤ (rd (ownS T (allS T l).1 s.nodes).2 (j : Int)).toNat
  · obtain ⟨m, hm, e⟩ := cnt_onto (own := (ownS T (allS T l).1 s.nodes).2) (c := (allS T l).1.length) (m := j) hc (by omega)
    exact .inr ⟨m, hm, by rw [e]; omega⟩
  · have hlt : (rd (ownS T (allS T l).1 s.nodes).2 (j : Int)).toNat < (allS T l).1.length := by omega
    obtain ⟨k, m, hk, hm, e⟩ := ha.from_ _ (List.getElem_mem hlt)
    refine .inl ⟨k, m, hk, hm, ?_⟩
    rw [(ha.numd k hk).num m hm, ← e]
    have hi : (allS T l).1.idxOf ((allS T l).1[(rd (ownS T (allS T l).1 s.nodes).2 (j : Int)).toNat]) = (rd (ownS T (allS T l).1 s.nodes).2 (j : Int)).toNat := by
      have h1 := List.getElem_idxOf (wix_lt (List.getElem_mem hlt))
      exact (List.getElem_inj ha.nodup).1 h1
    rw [hi]; omega
end Go.Proofs.YtdfneldenipljaaDoor.L
end
section
namespace Go.Proofs.YtdfneldenipljaaDoor.L
open Go.RowKit Go.ChangeShapes Go.WideShapes Go.Proofs.YtdfneldenipljaaDoorW.PrintWords Go.Proofs.YtdfneldenipljaaDoorW.PrintLast Go.Proofs.YtdfneldenipljaaDoorW.PrintMore
attribute [local go_sem] max2_int min2_int max_two min_two max_three min_three max_four min_four
def mapTake (f : Int → Int) (l : List Int) (j : Nat) : List Int := (l.take j).map f ++ l.drop j
theorem mapTake_len (f : Int → Int) (l : List Int) (j : Nat) : (mapTake f l j).length = l.length := by unfold mapTake; rw [List.length_append, List.length_map, List.length_take, List.length_drop]; omega
theorem mapTake_zero (f : Int → Int) (l : List Int) : mapTake f l 0 = l := by unfold mapTake; simp
theorem mapTake_all (f : Int → Int) (l : List Int) : mapTake f l l.length = l.map f := by unfold mapTake; simp
theorem mapTake_rd (f : Int → Int) (l : List Int) (j : Nat) (h : j < l.length) : rd (mapTake f l j) (j : Int) = rd l (j : Int) := by
  rw [rd_eq (by rw [mapTake_len]; exact h), rd_eq h]
  unfold mapTake
  rw [List.getElem_append_right (by simp; omega)]
  simp [List.length_take, Nat.min_eq_left (Nat.le_of_lt h)]
theorem mapTake_set (f : Int → Int) (l : List Int) (j : Nat) (h : j < l.length) : (mapTake f l j).set j (f (rd l (j : Int))) = mapTake f l (j + 1) := by
  unfold mapTake
  rw [List.set_append_right _ _ (by simp; omega)]
  rw [List.length_map, List.length_take, Nat.min_eq_left (Nat.le_of_lt h), Nat.sub_self, drop_rd h]
  rw [take_succ_rd h, List.map_append]
  simp
structure KidRel (f : Int → Int) (n : Node) (v1 v2 v3 : Value) (j : Nat) (W0 W : World) : Prop where
  below : Below W0.heap.size W0 W
  box : W.heap[W0.heap.size]? = some (.cells #[.int .i64 n.kind, v1, v2, v3] 52 (0, 0))
  r1 : (Kd.int .i64).R 2 W W0.heap.size (fun _ => True) v1 n.ints
  r2 : Kd.string.R 9 W W0.heap.size (fun _ => True) v2 n.texts
  r3 : (Kd.int .i64).R 3 W W0.heap.size (fun _ => True) v3 (mapTake f n.kids j)
theorem KidRel.drew {f : Int → Int} {n : Node} {v1 v2 v3 : Value} {j : Nat} {W0 W : World} (h : KidRel f n v1 v2 v3 j W0 W) : KidRel f n v1 v2 v3 j W0 W.drew :=
  ⟨pw_below_drewN h.below 1, h.box, Kd.R_drew h.r1, Kd.R_drew h.r2, Kd.R_drew h.r3⟩
theorem KidRel.start {f : Int → Int} {n : Node} {W0 W1 : World} {u0 u1 u2 u3 : Value} {v1 v2 v3 : Value} (hb : W1.heap[W0.heap.size]? = some (.cells #[u0, u1, u2, u3] 52 (0, 0))) (hB : Below W0.heap.size W0 W1) {B : Nat} (hBB : W0.heap.size < B)
    (hM : kNode.M W1 B (fun _ => True) n [.int .i64 n.kind, v1, v2, v3]) :
    KidRel f n v1 v2 v3 0 W0 ((((W1.setCell ⟨W0.heap.size, 0, none⟩ (.int .i64 n.kind)).setCell ⟨W0.heap.size, 1, none⟩ v1).setCell ⟨W0.heap.size, 2, none⟩ v2).setCell ⟨W0.heap.size, 3, none⟩ v3) := by
  obtain ⟨x1, x2, x3, e, h1, h2, h3⟩ := kNode_openM hM
  injection e with _ e
  injection e with e1 e
  injection e with e2 e
  injection e with e3 _
  subst e1 e2 e3
  refine ⟨below_set4 hB (Nat.le_refl _), box4 hb _ _ _ _, Kd.R_lower (R_old4 h1 hBB _ _ _ _) (Nat.le_of_lt hBB), Kd.R_lower (R_old4 h2 hBB _ _ _ _) (Nat.le_of_lt hBB), ?_⟩
  rw [mapTake_zero]
  exact Kd.R_lower (R_old4 h3 hBB _ _ _ _) (Nat.le_of_lt hBB)
theorem KidRel.set {f : Int → Int} {n : Node} {v1 v2 : Value} {g c m : Nat} {j : Nat} {W0 W : World} (h : KidRel f n v1 v2 (.slice (some ⟨g, 0, none⟩) m c) j W0 W) (hj : j < n.kids.length) :
    W.cell? ⟨g, j, none⟩ = some (.int .i64 (rd n.kids (j : Int))) ∧ W.frozen? ⟨g, j, none⟩ = false ∧ KidRel f n v1 v2 (.slice (some ⟨g, 0, none⟩) m c) (j + 1) W0 (W.setCell ⟨g, j, none⟩ (.int .i64 (f (rd n.kids (j : Int))))) := by
  have hm := (Kd.R_reads' h.r3).1
  rw [mapTake_len] at hm
  obtain ⟨c1, c2⟩ := ints_cell h.r3 j (by omega)
  obtain ⟨s1, s2, s3⟩ := ints_store h.r3 j (by omega) (f (rd n.kids (j : Int)))
  rw [mapTake_rd f _ _ hj] at c1
  rw [mapTake_set f _ _ hj] at s1
  obtain ⟨cells, hc⟩ := Kd.R_typed h.r3 g rfl
  refine ⟨c1, c2, below_set h.below s3, blk_grown h.box s2 (fun e => ?_), Kd.R_grown1 h.r1 rfl s2 (Kd.R_ne h.r1 hc (by decide)), Kd.R_grown1 h.r2 rfl s2 (Kd.R_ne h.r2 hc (by decide)), s1⟩
  injection e with e
  rw [← e, h.box] at hc
  cases hc
end Go.Proofs.YtdfneldenipljaaDoor.L
end
section
namespace Go.Proofs.YtdfneldenipljaaDoor.L
open Go.RowKit Go.ChangeShapes Go.WideShapes Go.Proofs.YtdfneldenipljaaDoorW.PrintWords Go.Proofs.YtdfneldenipljaaDoorW.PrintLast Go.Proofs.YtdfneldenipljaaDoorW.PrintMore
attribute [local go_sem] max2_int min2_int max_two min_two max_three min_three max_four min_four
structure Iso (ns ms : List Node) (f : Int → Int) : Prop where
  len : ns.length = ms.length
  pl : ∀ x, Pl ms x → Pl ns (f x)
  inj : ∀ x y, Pl ms x → Pl ms y → f x = f y → x = y
  nd : ∀ x, Pl ms x → nd ns (f x).toNat = ⟨(nd ms x.toNat).kind, (nd ms x.toNat).ints, (nd ms x.toNat).texts, (kids ms x).map f⟩
theorem Iso.kids {ns ms : List Node} {f : Int → Int} (h : Iso ns ms f) {x : Int} (hx : Pl ms x) : L.kids ns (f x) = (L.kids ms x).map f := by
  show (L.nd ns (f x).toNat).kids = _
  rw [h.nd x hx]
theorem Iso.mem {ns ms : List Node} {f : Int → Int} (h : Iso ns ms f) {x : Int} (hx : Pl ms x) {l : List Int} (hl : ∀ y ∈ l, Pl ms y) : f x ∈ l.map f ↔ x ∈ l := by
  refine ⟨fun hm => ?_, fun hm => List.mem_map_of_mem hm⟩
  obtain ⟨y, hy, e⟩ := List.mem_map.1 hm
  rw [h.inj x y hx (hl y hy) e.symm]; exact hy
theorem kids_pl {ms : List Node} (hP : Places ms) {x : Int} (hx : Pl ms x) : ∀ k ∈ kids ms x, Pl ms k := fun k hk => hP x.toNat (by have := hx.1; have := hx.2; omega) k hk
theorem Iso.meet {ns ms : List Node} {f : Int → Int} (h : Iso ns ms f) (hP : Places ms) : ∀ (m : Nat) (a : Int) (met : List Int), Pl ms a → (∀ x ∈ met, Pl ms x) →
    L.meet ns m (f a) (met.map f) = (L.meet ms m a met).map f ∧ ∀ x ∈ L.meet ms m a met, Pl ms x
  | 0, a, met, _, hm => ⟨rfl, hm⟩
  | m + 1, a, met, ha, hm => by
    unfold L.meet
    by_cases hin : a ∈ met
    · rw [if_pos hin, if_pos ((h.mem ha hm).2 hin)]
      exact ⟨rfl, hm⟩
    · rw [if_neg hin, if_neg (fun e => hin ((h.mem ha hm).1 e)), h.kids ha, List.foldl_map]
      have key : ∀ (l met : List Int), (∀ k ∈ l, Pl ms k) → (∀ x ∈ met, Pl ms x) →
          l.foldl (fun v k => L.meet ns m (f k) v) (met.map f) = (l.foldl (fun v k => L.meet ms m k v) met).map f ∧ ∀ x ∈ l.foldl (fun v k => L.meet ms m k v) met, Pl ms x := by
        intro l
        induction l with
        | nil => intro met _ hm; exact ⟨rfl, hm⟩
        | cons k l ih =>
          intro met hl hm
          obtain ⟨e1, e2⟩ := Iso.meet h hP m k met (hl k (by simp)) hm
          rw [List.foldl_cons, List.foldl_cons, e1]
          exact ih _ (fun y hy => hl y (by simp [hy])) e2
      obtain ⟨e1, e2⟩ := key (L.kids ms a) met (kids_pl hP ha) hm
      refine ⟨?_, fun x hx => ?_⟩
      · rw [List.map_append, ← e1]; rfl
      · rcases List.mem_append.1 hx with hx | hx
        · exact e2 x hx
        · rw [List.mem_singleton.1 hx]; exact ha
theorem Iso.rch {ns ms : List Node} {f : Int → Int} (h : Iso ns ms f) (hP : Places ms) {l : List Int} (hl : ∀ k ∈ l, Pl ms k) {x : Int} (hr : Rch ms l x) : Rch ns (l.map f) (f x) ∧ Pl ms x := by
  induction hr with
  | base hk => exact ⟨.base (List.mem_map_of_mem hk), hl _ hk⟩
  | step _ hk ih => exact ⟨.step ih.1 (by rw [h.kids ih.2]; exact List.mem_map_of_mem hk), kids_pl hP ih.2 _ hk⟩
theorem Iso.dag {ns ms : List Node} {f : Int → Int} (h : Iso ns ms f) (hP : Places ms) (hc : ∀ p : Nat, p < ns.length → ¬ Cyc ns p) : Dag ms := by
  refine ⟨hP, fun p hp hcy => ?_⟩
  have hx : Pl ms (p : Int) := ⟨by omega, by omega⟩
  have h1 := (h.rch hP (kids_pl hP hx) hcy).1
  rw [← h.kids hx] at h1
  have hpl := h.pl _ hx
  obtain ⟨q, hq⟩ : ∃ q : Nat, f (p : Int) = (q : Int) := ⟨(f p).toNat, by have := hpl.1; omega⟩
  rw [hq] at h1 hpl
  exact hc q (by have := hpl.2; omega) h1
theorem idxOf_map {f : Int → Int} {P : Int → Prop} (hf : ∀ x y, P x → P y → f x = f y → x = y) {k : Int} (hk : P k) : ∀ l : List Int, (∀ y ∈ l, P y) → (l.map f).idxOf (f k) = l.idxOf k
  | [], _ => rfl
  | y :: l, h => by
    rw [List.map_cons, List.idxOf_cons, List.idxOf_cons, idxOf_map hf hk l (fun z hz => h z (by simp [hz]))]
    by_cases e : y = k
    · rw [e]; simp
    · have : ¬ f y = f k := fun e' => e (hf y k (h y (by simp)) hk e')
      rw [beq_eq_false_iff_ne.2 e, beq_eq_false_iff_ne.2 this]
theorem Iso.ord {s t : Scene} {f : Int → Int} (h : Iso s.nodes t.nodes f) (hP : Places t.nodes) (hr : Pl t.nodes t.root) (he : s.root = f t.root) : L.ord s = (L.ord t).map f ∧ ∀ x ∈ L.ord t, Pl t.nodes x := by
  unfold L.ord M
  rw [he, h.len]
  exact h.meet hP _ _ [] hr (fun x hx => by simp at hx)
theorem Iso.canonL {s t : Scene} {f : Int → Int} (h : Iso s.nodes t.nodes f) (hP : Places t.nodes) (hr : Pl t.nodes t.root) (he : s.root = f t.root) : L.canonL s = L.canonL t := by
  obtain ⟨ho, hop⟩ := h.ord hP hr he
  unfold L.canonL
  rw [ho, List.map_map]
  refine List.map_congr_left (fun a ha => ?_)
  have hap := hop a ha
  show relab s (L.nd s.nodes (f a).toNat) = relab t (L.nd t.nodes a.toNat)
  unfold relab
  rw [h.nd a hap]
  show Node.mk _ _ _ _ = Node.mk _ _ _ _
  congr 1
  rw [List.map_map]
  refine List.map_congr_left (fun k hk => ?_)
  show ((idx s (f k) : Nat) : Int) = (idx t k : Int)
  unfold idx
  rw [ho, idxOf_map (P := Pl t.nodes) h.inj (kids_pl hP hap k hk) _ hop]
theorem Shut.len {ns : List Node} {m : List Int} (h : Shut ns m) : m.length ≤ ns.length := nodup_len h.nd h.pl
theorem shut_next {ns : List Node} {met : List Int} (hs : Shut ns met) (a : Int) : ∀ x ∈ met, ¬ Rch ns (kids ns x) a ∨ a ∈ met := fun x hx => by
  by_cases hr : Rch ns (kids ns x) a
  · right
    have : ∀ y, Rch ns (kids ns x) y → y ∈ met := fun y hy => by
      induction hy with
      | base hb => exact hs.kids x hx _ hb
      | step _ hb ih => exact hs.kids _ ih _ hb
    exact this a hr
  · exact .inl hr
theorem ord_met' {s : Scene} (hd : Dag s.nodes) (hr : Pl s.nodes s.root) : Met s.nodes s.root [] (ord s) := M_met hd _ _ _ (Nat.lt_succ_self _) hr (Shut.nil _) (fun x hx => by simp at hx)
end Go.Proofs.YtdfneldenipljaaDoor.L
end
section
namespace Go.Proofs.YtdfneldenipljaaDoor.L
open Go.RowKit Go.ChangeShapes Go.WideShapes Go.Proofs.YtdfneldenipljaaDoorW.PrintWords Go.Proofs.YtdfneldenipljaaDoorW.PrintLast Go.Proofs.YtdfneldenipljaaDoorW.PrintMore
attribute [local go_sem] max2_int min2_int max_two min_two max_three min_three max_four min_four
theorem canon_iso {s : Scene} (h : Right s) : Iso (canonL s) s.nodes (fun x => (idx s x : Int)) := by
  have hlen : (canonL s).length = s.nodes.length := by
    have := ord_len h
    simp [canonL, this]
  refine ⟨hlen, fun x hx => ?_, fun x y hx hy he => ?_, fun x hx => ?_⟩
  · obtain ⟨q, rfl⟩ : ∃ q : Nat, x = (q : Int) := ⟨x.toNat, by have := hx.1; omega⟩
    have := (at_idx h (p := q) (by have := hx.2; omega)).1
    exact ⟨by omega, by omega⟩
  · obtain ⟨q, rfl⟩ : ∃ q : Nat, x = (q : Int) := ⟨x.toNat, by have := hx.1; omega⟩
    obtain ⟨r, rfl⟩ : ∃ r : Nat, y = (r : Int) := ⟨y.toNat, by have := hy.1; omega⟩
    have := idx_inj h (p := q) (q := r) (by have := hx.2; omega) (by have := hy.2; omega) (by
      have he' : (idx s (q : Int) : Int) = (idx s (r : Int) : Int) := he
      omega)
    rw [this]
  · obtain ⟨q, rfl⟩ : ∃ q : Nat, x = (q : Int) := ⟨x.toNat, by have := hx.1; omega⟩
    obtain ⟨h1, h2⟩ := at_idx h (p := q) (by have := hx.2; omega)
    show nd (canonL s) ((idx s (q : Int) : Int)).toNat = _
    rw [Int.toNat_natCast]
    have hl : idx s (q : Int) < (ord s).length := by rw [ord_len h]; exact h1
    unfold canonL
    unfold nd
    rw [List.getD_eq_getElem?_getD, List.getElem?_map, List.getElem?_eq_getElem hl]
    have h3 : (ord s)[idx s (q : Int)] = (q : Int) := (rd_eq hl).symm.trans h2
    rw [h3]
    rfl
theorem canon_root {s : Scene} (h : Right s) : (s.nodes.length : Int) - 1 = (idx s s.root : Int) := by
  have hpl : Pl s.nodes s.root := ⟨h.r0, h.r1⟩
  have ho : ord s = ML s.nodes (kids s.nodes s.root) [] ++ [s.root] := by
    show M s.nodes s.root [] = _
    exact M_out h.dag hpl (by simp)
  have hl := ord_len h
  have hnd := ord_nodup h
  rw [ho] at hl hnd
  rw [List.length_append, List.length_singleton] at hl
  have hni : ¬ s.root ∈ ML s.nodes (kids s.nodes s.root) [] := fun hm => by
    exact (List.nodup_append.1 hnd).2.2 s.root hm s.root (by simp) rfl
  unfold idx
  rw [ho, List.idxOf_append, if_neg hni]
  simp
  omega
theorem canon_right {s : Scene} (h : Right s) : Right ⟨canonL s, (s.nodes.length : Int) - 1⟩ := by
  have hi := canon_iso h
  have hlen : (canonL s).length = s.nodes.length := hi.len
  have hn : 0 < s.nodes.length := by have := h.r0; have := h.r1; omega
  have hsur : ∀ m : Nat, m < (canonL s).length → ∃ q : Nat, q < s.nodes.length ∧ (m : Int) = (idx s (q : Int) : Int) := fun m hm => by
    obtain ⟨q, hq, hqn⟩ := ord_at h (m := m) (by omega)
    refine ⟨q, hqn, ?_⟩
    have := idx_at h (m := m) (by omega)
    rw [hq] at this
    rw [this]
  refine ⟨by show 0 ≤ (s.nodes.length : Int) - 1; omega, by show (s.nodes.length : Int) - 1 < ((canonL s).length : Int); omega, fun m hm k hk => ?_, fun m hm hc => ?_, fun m hm => ?_⟩
  · obtain ⟨q, hq, e⟩ := hsur m hm
    have hkk : k ∈ kids (canonL s) (idx s (q : Int) : Int) := by rw [← e]; unfold kids; rw [Int.toNat_natCast]; exact hk
    rw [hi.kids ⟨by omega, by omega⟩] at hkk
    obtain ⟨x, hx, rfl⟩ := List.mem_map.1 hkk
    exact hi.pl x (kids_pl h.pl ⟨by omega, by omega⟩ x hx)
  · obtain ⟨q, hq, e⟩ := hsur m hm
    have hqp : Pl s.nodes (q : Int) := ⟨by omega, by omega⟩
    have back : ∀ (l : List Int), (∀ k ∈ l, Pl s.nodes k) → ∀ y, Rch (canonL s) (l.map (fun x => (idx s x : Int))) y → ∃ x, Pl s.nodes x ∧ y = (idx s x : Int) ∧ Rch s.nodes l x := fun l hl y hy => by
      induction hy with
      | base hk =>
        obtain ⟨x, hx, rfl⟩ := List.mem_map.1 hk
        exact ⟨x, hl x hx, rfl, .base hx⟩
      | step _ hk ih =>
        obtain ⟨x, hx, rfl, hrx⟩ := ih
        rw [hi.kids hx] at hk
        obtain ⟨z, hz, rfl⟩ := List.mem_map.1 hk
        exact ⟨z, kids_pl h.pl hx z hz, rfl, .step hrx hz⟩
    have hc' : Rch (canonL s) (kids (canonL s) (m : Int)) (m : Int) := hc
    rw [e, hi.kids hqp] at hc'
    obtain ⟨x, hx, ex, hrx⟩ := back _ (kids_pl h.pl hqp) _ hc'
    have := hi.inj _ _ hqp hx ex
    rw [← this] at hrx
    exact h.cyc q hq hrx
  · obtain ⟨q, hq, e⟩ := hsur m hm
    rw [e]
    have h1 := (hi.rch h.pl (l := [s.root]) (fun k hk => by rw [List.mem_singleton.1 hk]; exact ⟨h.r0, h.r1⟩) (h.all q hq)).1
    show Rch (canonL s) [(s.nodes.length : Int) - 1] _
    rw [canon_root h]
    exact h1
end Go.Proofs.YtdfneldenipljaaDoor.L
end
section
namespace Go.Proofs.YtdfneldenipljaaDoor.L
open Go.RowKit Go.ChangeShapes Go.WideShapes Go.Proofs.YtdfneldenipljaaDoorW.PrintWords Go.Proofs.YtdfneldenipljaaDoorW.PrintLast Go.Proofs.YtdfneldenipljaaDoorW.PrintMore
attribute [local go_sem] max2_int min2_int max_two min_two max_three min_three max_four min_four
theorem isC_right {s : Scene} (h : isC s = true) : Right s := by
  have h1 := (of_decide_eq_true h).2
  refine gcheck_right.1 (Classical.byContradiction fun hn => ?_)
  unfold nums at h1
  rw [if_neg hn] at h1
  simp at h1
theorem ord_iota {s : Scene} (h : Right s) : (ord s).map (fun x => (idx s x : Int)) = iota s.nodes.length := by
  have hl := ord_len h
  refine List.ext_getElem (by rw [List.length_map, hl, iota_len]) (fun m h1 h2 => ?_)
  rw [List.length_map] at h1
  rw [List.getElem_map]
  have h3 := idx_at h (m := m) (by omega)
  rw [rd_eq h1] at h3
  rw [h3]
  have h4 := iota_rd s.nodes.length m (by omega)
  rw [rd_eq h2] at h4
  exact h4.symm
theorem canon_ord {s : Scene} (h : Right s) : ord ⟨canonL s, (s.nodes.length : Int) - 1⟩ = iota s.nodes.length := by
  have hi := canon_iso h
  have := (hi.ord (s := ⟨canonL s, (s.nodes.length : Int) - 1⟩) h.pl ⟨h.r0, h.r1⟩ (canon_root h)).1
  rw [this]
  exact ord_iota h
theorem idxOf_iota (n p : Nat) (h : p < n) : (iota n).idxOf (p : Int) = p := by
  have hp : p < (iota n).length := by rw [iota_len]; exact h
  have hnd : (iota n).Nodup := by
    unfold iota
    refine List.pairwise_map.2 (List.Pairwise.imp ?_ List.nodup_range)
    intro a b hab e
    exact hab (by omega)
  have e : (iota n)[p] = (p : Int) := by have := iota_rd n p h; rwa [rd_eq hp] at this
  have := hnd.idxOf_getElem p hp
  rwa [e] at this
theorem canon_isC {s : Scene} (h : Right s) : isC ⟨canonL s, (s.nodes.length : Int) - 1⟩ = true := by
  have hr := canon_right h
  have hlen : (canonL s).length = s.nodes.length := (canon_iso h).len
  have hn : 0 < s.nodes.length := by have := h.r0; have := h.r1; omega
  have hnum : nums ⟨canonL s, (s.nodes.length : Int) - 1⟩ = iota s.nodes.length := by
    unfold nums
    rw [if_pos (gcheck_right.2 hr)]
    unfold numsL
    show (List.range (canonL s).length).map _ = _
    rw [hlen]
    unfold iota
    refine List.map_congr_left (fun p hp => ?_)
    unfold idx
    rw [canon_ord h, idxOf_iota _ _ (List.mem_range.1 hp)]
  refine decide_eq_true ?_
  rw [hnum, iota_len]
  exact ⟨rfl, hn⟩
theorem isC_idx {s : Scene} (h : Right s) (hc : isC s = true) {p : Nat} (hp : p < s.nodes.length) : idx s (p : Int) = p := by
  have h1 := (of_decide_eq_true hc).1
  have h2 : nums s = numsL s := by unfold nums; rw [if_pos (gcheck_right.2 h)]
  rw [h2, numsL_len] at h1
  have h3 := numsL_rd s p hp
  rw [h1, iota_rd _ _ hp] at h3
  omega
theorem isC_eq {s : Scene} (h : Right s) (hc : isC s = true) : s = ⟨canonL s, (s.nodes.length : Int) - 1⟩ := by
  have hlen : (canonL s).length = s.nodes.length := (canon_iso h).len
  have hroot : s.root = (s.nodes.length : Int) - 1 := by
    have h1 := canon_root h
    obtain ⟨r, hr⟩ : ∃ r : Nat, s.root = (r : Int) := ⟨s.root.toNat, by have := h.r0; omega⟩
    rw [hr] at h1
    rw [isC_idx h hc (p := r) (by have := h.r1; omega)] at h1
    omega
  have hnodes : s.nodes = canonL s := by
    refine List.ext_getElem hlen.symm (fun p h1 h2 => ?_)
    have h3 := (canon_iso h).nd (p : Int) ⟨by omega, by omega⟩
    rw [isC_idx h hc h1, Int.toNat_natCast] at h3
    unfold nd kids nd at h3
    rw [Int.toNat_natCast, getD_eq _ h2, getD_eq _ h1] at h3
    rw [h3]
    generalize hx : s.nodes[p] = x
    have hk : ∀ k ∈ x.kids, Pl s.nodes k := fun k hk => h.pl p h1 k (by unfold nd; rw [getD_eq _ h1, hx]; exact hk)
    have e : x.kids.map (fun x => (idx s x : Int)) = x.kids := by
      conv => rhs; rw [← List.map_id x.kids]
      refine List.map_congr_left (fun k hkk => ?_)
      have hkp := hk k hkk
      obtain ⟨q, rfl⟩ : ∃ q : Nat, k = (q : Int) := ⟨k.toNat, by have := hkp.1; omega⟩
      show ((idx s (q : Int) : Nat) : Int) = _
      rw [isC_idx h hc (by have := hkp.2; omega)]
      rfl
    cases x
    simp only at e ⊢
    rw [e]
  cases s
  simp only at hnodes hroot ⊢
  congr 1
theorem isC_iff {s : Scene} (h : Right s) : isC s = true ↔ (⟨canonL s, (s.nodes.length : Int) - 1⟩ : Scene) = s :=
  ⟨fun hc => (isC_eq h hc).symm, fun e => by have := canon_isC h; rwa [e] at this⟩
end Go.Proofs.YtdfneldenipljaaDoor.L
end
section
namespace Go.Proofs.YtdfneldenipljaaDoor.L
open Go.RowKit Go.ChangeShapes Go.WideShapes Go.Proofs.YtdfneldenipljaaDoorW.PrintWords Go.Proofs.YtdfneldenipljaaDoorW.PrintLast Go.Proofs.YtdfneldenipljaaDoorW.PrintMore
attribute [local go_sem] max2_int min2_int max_two min_two max_three min_three max_four min_four
def PO (ns : List Node) (m : List Int) : Prop := ∀ (a : List Int) (x : Int) (b : List Int), m = a ++ x :: b → ∀ k ∈ kids ns x, k ∈ a
theorem PO.nil (ns : List Node) : PO ns [] := fun a x b e => by
  have := congrArg List.length e
  simp at this
theorem PO.snoc {ns : List Node} {m : List Int} {x : Int} (h : PO ns m) (hk : ∀ k ∈ kids ns x, k ∈ m) : PO ns (m ++ [x]) := fun a y b e => by
  rcases snoc_cases b with rfl | ⟨b', z, rfl⟩
  · have e1 : m ++ [x] = a ++ [y] := e
    obtain ⟨rfl, e2⟩ := List.append_inj' e1 rfl
    injection e2 with e2
    subst e2
    exact hk
  · have e1 : m ++ [x] = (a ++ y :: b') ++ [z] := by rw [e]; simp
    obtain ⟨e2, _⟩ := List.append_inj' e1 rfl
    exact h a y b' e2
theorem M_po {ns : List Node} (h : Dag ns) : ∀ (N : Nat) (a : Int) (met : List Int), reachN ns a < N → Pl ns a → Shut ns met → PO ns met → PO ns (M ns a met)
  | 0, _, _, hN, _, _, _ => by omega
  | N + 1, a, met, hN, ha, hs, hp => by
    by_cases hm : a ∈ met
    · rw [M_in h ha hm]; exact hp
    · rw [M_out h ha hm]
      have key : ∀ (l met : List Int), (∀ k ∈ l, k ∈ kids ns a) → Shut ns met → PO ns met → (PO ns (ML ns l met) ∧ (∀ x ∈ met, x ∈ ML ns l met) ∧ ∀ k ∈ l, k ∈ ML ns l met) := by
        intro l
        induction l with
        | nil => intro met _ hs hp; exact ⟨hp, fun x hx => hx, fun k hk => by simp at hk⟩
        | cons k l ih =>
          intro met hl hs hp
          have hk := hl k (by simp)
          have hN' : reachN ns k < N := by have := h.lower ha hk; omega
          have m1 := M_met h N k met hN' (h.kid ha hk) hs (shut_next hs k)
          have p1 := M_po h N k met hN' (h.kid ha hk) hs hp
          obtain ⟨r1, e1, _⟩ := m1.ext
          obtain ⟨p2, i2, k2⟩ := ih (M ns k met) (fun y hy => hl y (by simp [hy])) m1.shut p1
          rw [ML_cons]
          refine ⟨p2, fun x hx => i2 x (by rw [e1]; exact List.mem_append_left _ hx), fun y hy => ?_⟩
          rcases List.mem_cons.1 hy with rfl | hy
          · exact i2 _ m1.here
          · exact k2 y hy
      obtain ⟨p2, _, k2⟩ := key (kids ns a) met (fun _ hk => hk) hs hp
      exact p2.snoc k2
theorem ord_po {s : Scene} (h : Right s) : PO s.nodes (ord s) := M_po h.dag _ _ _ (Nat.lt_succ_self _) ⟨h.r0, h.r1⟩ (Shut.nil _) (PO.nil _)
theorem idx_kid {s : Scene} (h : Right s) {p : Nat} (hp : p < s.nodes.length) {k : Int} (hk : k ∈ (nd s.nodes p).kids) : idx s k < idx s (p : Int) := by
  obtain ⟨a, b, e⟩ := List.append_of_mem (ord_all h p hp)
  have hka : k ∈ a := ord_po h a (p : Int) b e k (by rw [kids_nat]; exact hk)
  have hnd := ord_nodup h
  have hpa : ¬ (p : Int) ∈ a := fun hm => by
    rw [e] at hnd
    exact (List.nodup_append.1 hnd).2.2 _ hm _ (by simp) rfl
  unfold idx
  rw [e, List.idxOf_append, if_pos hka, List.idxOf_append, if_neg hpa]
  have := List.idxOf_lt_length_of_mem hka
  omega
theorem isC_ahead {s : Scene} (h : Right s) (hc : isC s = true) {p : Nat} (hp : p < s.nodes.length) {k : Int} (hk : k ∈ (nd s.nodes p).kids) : 0 ≤ k ∧ k < (p : Int) := by
  have hpl := h.pl p hp k hk
  obtain ⟨q, rfl⟩ : ∃ q : Nat, k = (q : Int) := ⟨k.toNat, by omega⟩
  have h1 := idx_kid h hp hk
  rw [isC_idx h hc (by omega), isC_idx h hc hp] at h1
  omega
end Go.Proofs.YtdfneldenipljaaDoor.L
end
section
namespace Go.Proofs.YtdfneldenipljaaDoor.L
open Go.RowKit Go.ChangeShapes Go.WideShapes Go.Proofs.YtdfneldenipljaaDoorW.PrintWords Go.Proofs.YtdfneldenipljaaDoorW.PrintLast Go.Proofs.YtdfneldenipljaaDoorW.PrintMore
attribute [local go_sem] max2_int min2_int max_two min_two max_three min_three max_four min_four
section
open Go.Maps
variable {P : Program} {k : TypeId} {w w1 : World} {b n : Nat} {f : Lit → Option Value}
def MapN (P : Program) (k : TypeId) (w : World) (b n : Nat) (f : Lit → Option Value) : Prop :=
  ∃ D : DataW Value, w.ownsMap P k heldE b n D ∧ Maps.size D = n ∧ ∀ q, Maps.has D q = (f q).isSome ∧ ∀ v z, f q = some v → D.atKey q z = .held v
theorem MapN.toF (h : MapN P k w b n f) : MapF P k w b n f := by
  obtain ⟨D, h1, _, h2⟩ := h
  exact ⟨D, h1, h2⟩
theorem MapN.made (P : Program) (k : TypeId) (w : World) : MapN P k (w.alloc (.map #[] 0)) w.heap.size 0 (fun _ => none) :=
  ⟨.map [], World.ownsMap_made w P k heldE, rfl, fun q => ⟨rfl, fun v z h => by cases h⟩⟩
theorem MapN.kept {row : Option Nat} (h : MapN P k w b n f) (hg : w.grownBy w1 row) (hne : some b ≠ row) : MapN P k w1 b n f := by
  obtain ⟨D, h, hs, hf⟩ := h
  exact ⟨D, h.kept hg hne, hs, hf⟩
theorem MapN.below (h : MapN P k w b n f) (hb : Below w.heap.size w w1) : MapN P k w1 b n f := h.kept (row := none) ⟨hb.os, hb.tape, hb.output, hb.size, fun i hi _ => hb.block i hi⟩ (by simp)
theorem MapN.lt (h : MapN P k w b n f) : b < w.heap.size := h.toF.lt
end
section
open Go.Maps
variable {P : Program} (w : World) {ops : Array Oper} {rest : List Oper} {o : Oper} {a : Act} {Q : Exit → Act → World → Prop}
theorem wpList_update_N (hg : o.guard = none) (m x v : Operand) (t : TypeId) (hop : o.op = Op.mapUpdate t m x v)
    (k e : TypeId) (K : Keyed P k) (ht : P.underlying t = some (.map k e)) (b n : Nat) (f : Lit → Option Value)
    (hm : a.eval m = .map (some b)) (hown : MapN P k w b n f) (hn : n < maxLen) (key val : Value) (kl : Lit) (hx : a.eval x = key) (hv : a.eval v = val) (hkey : keyOf P k key = some kl) (hnew : f kl = none)
    (hK : ∀ w', MapN P k w' b (n + 1) (putF f kl val) → w.grownBy w' (some b) → wpList P ops Q rest (a.put o.dst undef) w') :
    wpList P ops Q (o :: rest) a w := by
  obtain ⟨D, hown, hs, hf⟩ := hown
  have hm' := hown.isMap
  have htd := hown.tidy K
  have hkl : WideAt.IsKeyLit kl := K.key hkey
  refine wpList_mapUpdate_own w hg m x v t hop k e K ht heldE b n D hm hown hn key val kl hx hv hkey (.held val) [] rfl ?_
  intro w' h1 h2
  refine hK w' ⟨_, h1, ?_, fun q => ?_⟩ h2
  · rw [Maps.size_put htd]
    have h3 := (hf kl).1
    rw [hnew] at h3
    rw [h3, hs]; rfl
  by_cases hq : q = kl
  · subst hq
    rw [Maps.has_put_same hm' hkl, putF_same]
    refine ⟨rfl, fun u z hu => ?_⟩
    cases hu
    exact Maps.atKey_put_same hm' hkl _ _
  · rw [Maps.has_put_other hq, putF_other f val hq]
    refine ⟨(hf q).1, fun u z hu => ?_⟩
    rw [Maps.atKey_put_other hq]
    exact (hf q).2 u z hu
theorem wpList_len_N (hg : o.guard = none) (m : Operand) (t : TypeId) (hop : o.op = Op.call { callee := Callee.builtin Builtin.len, args := #[m], argTypes := #[t] })
    (k e : TypeId) (ht : P.underlying t = some (.map k e)) (b n : Nat) (f : Lit → Option Value) (hm : a.eval m = .map (some b)) (hown : MapN P k w b n f)
    (hK : wpList P ops Q rest (a.put o.dst (.int .i64 (n : Int))) w) :
    wpList P ops Q (o :: rest) a w := by
  obtain ⟨D, hown, hs, hf⟩ := hown
  refine wpList_len_own w hg m t hop k e ht heldE b n D hm hown ?_
  rw [hs]; exact hK
end
theorem keyW : Maps.Keyed Tryd.prog 9 := Maps.string_keyed Tryd.underlying9
theorem keyW_of {s : List UInt8} (h : s.length ≤ maxLen) : keyOf Tryd.prog 9 (.string ⟨s.toArray⟩) = some (.string s) := by
  have h1 := Go.WideMaps.keyOf_string_mk (P := Tryd.prog) (k := 9) (s := ⟨s.toArray⟩) Tryd.underlying9 (by show s.toArray.size ≤ _; simpa using h)
  simpa using h1
theorem zeroIW (w : World) : (zeroValue 3).run Tryd.prog w = .ok (.int .i64 0) w := by kernel_rfl
def numF (vs : List (List UInt8)) : Lit → Option Value
  | .string x => if x ∈ vs then some (.int .i64 (vs.idxOf x : Int)) else none
  | _ => none
theorem numF_nil : numF [] = fun _ => none := by
  funext q
  cases q <;> rfl
theorem numF_in {vs : List (List UInt8)} {x : List UInt8} (h : x ∈ vs) (z : Value) : (numF vs (.string x)).getD z = .int .i64 (vs.idxOf x : Int) ∧ (numF vs (.string x)).isSome = true := by
  unfold numF
  dsimp only
  rw [if_pos h]; exact ⟨rfl, rfl⟩
theorem numF_out {vs : List (List UInt8)} {x : List UInt8} (h : ¬ x ∈ vs) (z : Value) : (numF vs (.string x)).getD z = z ∧ (numF vs (.string x)).isSome = false ∧ numF vs (.string x) = none := by
  unfold numF
  dsimp only
  rw [if_neg h]; exact ⟨rfl, rfl, rfl⟩
theorem numF_put {vs : List (List UInt8)} {x : List UInt8} (h : ¬ x ∈ vs) : putF (numF vs) (.string x) (.int .i64 (vs.length : Int)) = numF (vs ++ [x]) := by
  funext q
  by_cases hq : q = .string x
  · subst hq
    rw [putF_same]
    unfold numF
    dsimp only
    rw [if_pos (by simp), List.idxOf_append, if_neg h]
    simp
  · rw [putF_other _ _ hq]
    cases q with
    | string y =>
      have hy : y ≠ x := fun e => hq (by rw [e])
      unfold numF
      dsimp only
      by_cases hm : y ∈ vs
      · rw [if_pos hm, if_pos (by simp [hm]), List.idxOf_append, if_pos hm]
      · rw [if_neg hm, if_neg (by simp [hm, hy])]
    | _ => rfl
def kInts : Kd (List Int) := Kd.slice 3 (Kd.int .i64)
structure ClsIn (w Wg : World) (mb : Nat) (vs : List (List UInt8)) (own : List Int) (v : Value) (W : World) : Prop where
  map : MapN Tryd.prog 9 W mb vs.length (numF vs)
  own : (Kd.int .i64).R 3 W w.heap.size (fun q => Wg.heap.size ≤ q) v own
  grown : Wg.grownBy W (some mb)
  below : Below w.heap.size w W
theorem grown_below {Wg W W1 : World} {row : Option Nat} (h : Wg.grownBy W row) (hb : Below W.heap.size W W1) : Wg.grownBy W1 row :=
  ⟨hb.os.trans h.os, hb.tape.trans h.tape, hb.output.trans h.output, Nat.le_trans h.size hb.size, fun i hi hr => (hb.block i (Nat.lt_of_lt_of_le hi h.size)).trans (h.block i hi hr)⟩
theorem ClsIn.later {w Wg : World} {mb : Nat} {vs : List (List UInt8)} {own : List Int} {v : Value} {W W1 : World} (h : ClsIn w Wg mb vs own v W) (hb : Below W.heap.size W W1) : ClsIn w Wg mb vs own v W1 :=
  ⟨h.map.below hb, Kd.R_grown (row := none) h.own ⟨hb.os, hb.tape, hb.output, hb.size, fun i hi _ => hb.block i hi⟩ (fun _ _ => by simp), grown_below h.grown hb, below_step h.below hb⟩
structure ClsOut (w : World) (mb : Nat) (vs : List (List UInt8)) (outs : List (List Int)) (v : Value) (W : World) : Prop where
  map : MapN Tryd.prog 9 W mb vs.length (numF vs)
  out : kInts.R 31 W w.heap.size (fun _ => True) v outs
  below : Below w.heap.size w W
  ge : w.heap.size ≤ mb
theorem ClsOut.later {w : World} {mb : Nat} {vs : List (List UInt8)} {outs : List (List Int)} {v : Value} {W W1 : World} (h : ClsOut w mb vs outs v W) (hb : Below W.heap.size W W1) : ClsOut w mb vs outs v W1 :=
  ⟨h.map.below hb, Kd.R_grown (row := none) h.out ⟨hb.os, hb.tape, hb.output, hb.size, fun i hi _ => hb.block i hi⟩ (fun _ _ => by simp), below_step h.below hb, h.ge⟩
theorem own_vs_len (T : Lib.PrintTabs) (vs : List (List UInt8)) : ∀ (n : Nat) (ns : List Node), ns.length = n → (ownS T vs ns).1.length ≤ vs.length + n
  | n, ns, hn => by
    rcases snoc_cases ns with rfl | ⟨l, x, rfl⟩
    · show vs.length ≤ _; omega
    · rw [own_snoc]
      match n, hn with
      | 0, hn => simp at hn
      | n + 1, hn =>
        have := own_vs_len T vs n l (by simpa using hn)
        show (addW (ownS T vs l).1 _).length ≤ _
        unfold addW
        split
        · omega
        · simp; omega
theorem all_vs_len (T : Lib.PrintTabs) : ∀ (n : Nat) (l : List Scene), l.length = n → (∀ s ∈ l, s.nodes.length ≤ 400000) → (allS T l).1.length ≤ n * 400000
  | n, l, hn, hs => by
    rcases snoc_cases l with rfl | ⟨l, x, rfl⟩
    · show 0 ≤ _; omega
    · rw [all_snoc]
      match n, hn with
      | 0, hn => simp at hn
      | n + 1, hn =>
        have h1 := all_vs_len T n l (by simpa using hn) (fun s h => hs s (by simp [h]))
        have h2 := own_vs_len T (allS T l).1 x.nodes.length x.nodes rfl
        have h3 := hs x (by simp)
        show (ownS T (allS T l).1 x.nodes).1.length ≤ _
        rw [Nat.succ_mul]
        omega
theorem own_vals (T : Lib.PrintTabs) (vs : List (List UInt8)) (ns : List Node) : ∀ x ∈ (ownS T vs ns).2, 0 ≤ x ∧ x ≤ ((ownS T vs ns).1.length : Int) := by
  intro x hx
  obtain ⟨i, hi, rfl⟩ := List.getElem_of_mem hx
  obtain ⟨h1, h2⟩ := own_riseN T vs ns.length (ns := ns) rfl
  rw [own_len T vs ns.length ns rfl] at hi
  have h3 := h1 i hi
  have h4 := cnt_mono (ownS T vs ns).2 vs.length (i := i) (j := ns.length) (by omega)
  rw [rd_eq (by rw [own_len T vs ns.length ns rfl]; exact hi)] at h3
  omega
theorem nodeW_len (T : Lib.PrintTabs) {n : Node} {own : List Int} (hs : Small n) (hts : ∀ x ∈ n.texts, x.size ≤ 1000000) (hn : NBd n) (hk : ∀ k ∈ n.kids, 0 ≤ k ∧ k < (own.length : Int)) (hoB : ∀ x ∈ own, I64 x) : (nodeW T n own).length ≤ maxLen := by
  have h1 := itoa_len hn.kind
  have h2 := wNums_len hn.ints
  have h3 := wTexts_len T hts
  have h4 := wNums_len (l := n.kids.map (rd own)) (fun x hx => by
    obtain ⟨q, hq, rfl⟩ := List.mem_map.1 hx
    have h1 := hk q hq
    obtain ⟨p, rfl⟩ : ∃ p : Nat, q = (p : Int) := ⟨q.toNat, by omega⟩
    exact hoB _ (rd_mem (by omega)))
  rw [List.length_map] at h4
  have e : (nodeW T n own).length = (Lib.itoa n.kind).length + ((wNums n.ints).length + ((wTexts T n.texts).length + (2 + (wNums (n.kids.map (rd own))).length))) := by
    unfold nodeW wordL
    simp only [List.length_append, List.length_cons]
    omega
  have h5 := hs.1
  have h6 := hs.2.1
  have h7 := hs.2.2
  unfold maxLen
  omega
end Go.Proofs.YtdfneldenipljaaDoor.L
end
section
namespace Go.Proofs.YtdfneldenipljaaDoor.L
open Go.RowKit Go.ChangeShapes Go.WideShapes Go.Proofs.YtdfneldenipljaaDoorW.PrintWords Go.Proofs.YtdfneldenipljaaDoorW.PrintLast Go.Proofs.YtdfneldenipljaaDoorW.PrintMore
attribute [local go_sem] max2_int min2_int max_two min_two max_three min_three max_four min_four
def ScBd (s : Scene) : Prop := (∀ i : Nat, i < s.nodes.length → Small (nd s.nodes i) ∧ (∀ x ∈ (nd s.nodes i).texts, x.size ≤ 1000000) ∧ NBd (nd s.nodes i)) ∧ rows s.nodes ≤ 400000
def NumsPost (T : Lib.PrintTabs) (l : List Scene) (w : World) (e : Ending) (w' : World) : Prop :=
  Below w.heap.size w w' ∧ (((∀ i : Nat, i < l.length → isC (sc l i) = true) ∧ ∃ v, e = .returned (.tuple #[v, .int .i64 0]) ∧ kInts.R 31 w' w.heap.size (fun _ => True) v (allS T l).2) ∨
    ((∃ i : Nat, i < l.length ∧ isC (sc l i) = false) ∧ e = .returned (.tuple #[.slice none 0 0, .int .i64 16])))
theorem take_sc {l : List Scene} {i : Nat} (h : i < l.length) : l.take (i + 1) = l.take i ++ [sc l i] := by rw [take_succ_getD ⟨[], 0⟩ h]; rfl
theorem take_nd' {l : List Node} {i : Nat} (h : i < l.length) : l.take (i + 1) = l.take i ++ [nd l i] := by rw [take_succ_getD nodez h]; rfl
theorem grown_trans {Wg W W1 : World} {mb : Nat} {row : Option Nat} (h : Wg.grownBy W (some mb)) (hg : W.grownBy W1 row) (hr : ∀ k, row = some k → k = mb ∨ Wg.heap.size ≤ k) : Wg.grownBy W1 (some mb) :=
  ⟨hg.os.trans h.os, hg.tape.trans h.tape, hg.output.trans h.output, Nat.le_trans h.size hg.size, fun i hi hn => (hg.block i (Nat.lt_of_lt_of_le hi h.size) (fun e => by
    rcases hr i e.symm with h1 | h1
    · exact hn (by rw [h1])
    · omega)).trans (h.block i hi hn)⟩
theorem ClsIn.pushed {w Wg W W2 : World} {mb : Nat} {us : List (List UInt8)} {own : List Int} {x : Int} {v v2 : Value} (h : ClsIn w Wg mb us own v W) (hR : (Kd.int .i64).R 3 W2 w.heap.size (fun q => Wg.heap.size ≤ q) v2 (own ++ [x])) (hB : Below w.heap.size w W2) (hg : W.grownBy W2 v.ownBlock) : ClsIn w Wg mb us (own ++ [x]) v2 W2 :=
  ⟨h.map.kept hg (h.map.toF.ne_row h.own), hR, grown_trans h.grown hg (fun k hk => .inr (h.own.1 k hk)), hB⟩
theorem ClsIn.put {w Wg W W2 : World} {mb : Nat} {us : List (List UInt8)} {own : List Int} {x : List UInt8} {v : Value} (h : ClsIn w Wg mb us own v W) (hx : ¬ x ∈ us) (hM : MapN Tryd.prog 9 W2 mb (us.length + 1) (putF (numF us) (.string x) (.int .i64 (us.length : Int)))) (hg : W.grownBy W2 (some mb)) (hmb : w.heap.size ≤ mb) : ClsIn w Wg mb (us ++ [x]) own v W2 := by
  rw [numF_put hx] at hM
  exact ⟨by rw [List.length_append]; exact hM, R_past_map h.own h.map.toF hg, grown_trans h.grown hg (fun k hk => .inl (by injection hk with hk; exact hk.symm)), below_map h.below h.below.size hg hmb⟩
theorem ClsIn.whole {w Wg W : World} {mb : Nat} {vs us : List (List UInt8)} {outs : List (List Int)} {own : List Int} {vo v : Value} (ho : ClsOut w mb vs outs vo Wg) (h : ClsIn w Wg mb us own v W) : kInts.R 31 W w.heap.size (fun q => q < Wg.heap.size) vo outs :=
  Kd.R_mono (Kd.R_grown (Kd.R_bound ho.out) h.grown (fun q hq he => by
    obtain ⟨_, _, _, e', _, cells, hc⟩ := hq
    injection he with he
    subst he
    exact ho.map.toF.not_cells hc)) (fun q hq => hq.2.2.1)
theorem infoInts : (Tryd.prog.info? 31).map (fun i => (i.zero, i.size, i.bytes)) = some (some (.slice none 0 0), 1, 24) := by kernel_rfl
theorem ClsOut.pushed {w Wg W W2 : World} {mb : Nat} {us : List (List UInt8)} {outs : List (List Int)} {own : List Int} {vo v v2 : Value} (h : ClsIn w Wg mb us own v W) (ho : kInts.R 31 W w.heap.size (fun q => q < Wg.heap.size) vo outs) (hR : kInts.R 31 W2 w.heap.size (fun _ => True) v2 (outs ++ [own])) (hB : Below w.heap.size w W2) (hg : W.grownBy W2 vo.ownBlock) (hm : w.heap.size ≤ mb) : ClsOut w mb us (outs ++ [own]) v2 W2 :=
  ⟨h.map.kept hg (h.map.toF.ne_row ho), hR, hB, hm⟩
set_option maxRecDepth 100000 in
set_option maxHeartbeats 8000000 in
theorem numbers_any (T : Lib.PrintTabs) (A : Option Addr) (c : Nat) (l : List Scene) (w : World) (h : kScene.C w A l.length l) (hB : ∀ i : Nat, i < l.length → ScBd (sc l i)) (hn : l.length ≤ 1000000) (hT : QTabs T w) :
    Calls Tryd.prog 15 #[.slice A l.length c] w (NumsPost T l w) := by
  have HR := Aside0.mk h
  have HBd := Aside0.mk hB
  have HT := Aside0.mk hT
  have hus := Tryd.underlying34
  have hun := Tryd.underlying52
  have hmm := @run_makeMap Tryd.prog
  have HO0 : Aside0 (ClsOut w w.heap.size [] [] (.slice none 0 0) (w.alloc (.map #[] 0))) :=
    ⟨by rw [numF_nil]; exact MapN.made Tryd.prog 9 w, Kd.R_nil _ _ _ _ _, below_alloc (Below.refl _ _) _, Nat.le_refl _⟩
  clear h hB hT
  go_enter Tryd.func15, Tryd.ntmps15
  go_wp2
  clear hmm
  generalize w.alloc (.map #[] 0) = w0 at HO0 ⊢
  generalize hmb : w.heap.size = mb at HO0
  go_loopw [17, 5] (fun v17 v5 W => ∃ (i : Nat) (vo : Value), i ≤ l.length ∧ v17 = .int .i64 i ∧ vo = v5 ∧ Aside0 (∀ k : Nat, k < i → isC (sc l k) = true) ∧ Aside0 (ClsOut w mb (allS T (l.take i)).1 (allS T (l.take i)).2 vo W)) (fun v17 _ _ => l.length - (intOf v17).toNat)
  case atStart => exact ⟨0, _, by omega, rfl, rfl, ⟨fun k h => by omega⟩, ⟨by rw [List.take_zero]; exact HO0.out⟩⟩
  case round =>
    clear HO0
    obtain ⟨i, vo, hi, rfl, rfl, HC, HO⟩ := hrel
    by_cases hlt : i < l.length
    · obtain ⟨ad, B, d, rfl, x0, x1, hd, hS⟩ := at_scene HR.out i hlt
      replace x0 := pw_cell_below HO.out.below x0
      replace x1 := pw_cell_below HO.out.below x1
      have HSb := Aside0.mk (HBd.out i hlt)
      have HS := Aside0.mk hS
      have HTk := Aside0.mk (take_sc hlt)
      have HId := Aside0.mk (show l.length ≤ 1000000 ∧ i < l.length ∧ isC (sc l i) = isC (sc l i) from ⟨hn, hlt, rfl⟩)
      have HVs := Aside0.mk (all_vs_len T i (l.take i) (by rw [List.length_take]; omega) (fun s hs => by
        obtain ⟨k, hk, rfl⟩ := List.getElem_of_mem hs
        have hk' : k < l.length := by rw [List.length_take] at hk; omega
        have h1 := (HBd.out k hk').2
        have e : sc l k = (l.take i)[k] := by rw [List.getElem_take]; unfold sc; rw [getD_eq _ hk']
        rw [← e]
        exact Nat.le_trans (len_rows _) h1))
      have HAll := Aside0.mk (show allS T (l.take (i + 1)) = ((ownS T (allS T (l.take i)).1 (sc l i).nodes).1, (allS T (l.take i)).2 ++ [(ownS T (allS T (l.take i)).1 (sc l i).nodes).2]) from by rw [take_sc hlt, all_snoc])
      have HOl := Aside0.mk (show (allS T (l.take i)).2.length ≤ 1000000 from by
        have : ∀ m : List Scene, (allS T m).2.length = m.length := fun m => by
          have key : ∀ (n : Nat) (m : List Scene), m.length = n → (allS T m).2.length = n := fun n => by
            induction n with
            | zero => intro m hm; obtain rfl := List.eq_nil_of_length_eq_zero hm; rfl
            | succ n ih =>
              intro m hm
              rcases snoc_cases m with rfl | ⟨m, x, rfl⟩
              · simp at hm
              · rw [all_snoc]
                show ((allS T m).2 ++ [_]).length = n + 1
                rw [List.length_append, ih m (by simpa using hm)]; rfl
          exact key m.length m rfl
        rw [this, List.length_take]; omega)
      clear hS hd
      obtain ⟨s, hs⟩ : ∃ s, s = sc l i := ⟨_, rfl⟩
      rw [← hs] at x0 x1 HSb HS HAll
      have HEq := Aside0.mk hs
      clear hs
      generalize allS T (l.take i) = st at HO HVs HAll HOl
      obtain ⟨vs, outs⟩ := st
      have HO : Aside0 (ClsOut w mb vs outs vo wr) := HO
      have HVs : Aside0 (vs.length ≤ i * 400000) := HVs
      have HOl : Aside0 (outs.length ≤ 1000000) := HOl
      have HAll : Aside0 (allS T (l.take (i + 1)) = ((ownS T vs s.nodes).1, outs ++ [(ownS T vs s.nodes).2])) := HAll
      have hA := below_alloc (Below.refl wr.heap.size wr) (.cells #[.slice B s.nodes.length d, .int .i64 s.root] 34)
      have q0 := box_cell wr _ rfl #[.slice B s.nodes.length d, .int .i64 s.root] 34 0 (.slice B s.nodes.length d) rfl
      have q1 := box_cell wr _ rfl #[.slice B s.nodes.length d, .int .i64 s.root] 34 1 (.int .i64 s.root) rfl
      have HO1 := Aside0.mk (HO.out.later hA)
      clear hA HO
      go_wp2_with fail
      refine (is_any B d s _ (Kd.C_below HS.out HO1.out.below) HSb.out.2).mono ?_
      rintro e wg ⟨rfl, hB1⟩
      replace q0 := pw_cell_below hB1 q0
      have HO2 := Aside0.mk (HO1.out.later hB1)
      clear hB1 HO1 x0 x1 q1
      cases hic : isC s with
      | false =>
        have HBad := Aside0.mk (show ∃ i : Nat, i < l.length ∧ isC (sc l i) = false from ⟨i, hlt, by rw [← HEq.out]; exact hic⟩)
        clear hic q0
        go_wp2
        go_ret2
        exact ⟨HO2.out.below, .inr ⟨HBad.out, rfl⟩⟩
      | true =>
        have HAh := Aside0.mk (show AheadN s.nodes from fun p hp k hk => isC_ahead (isC_right hic) hic hp hk)
        have HCi := Aside0.mk (ext_lt HC.out (show isC (sc l i) = true by rw [← HEq.out]; exact hic))
        have hnl : s.nodes.length ≤ 400000 := Nat.le_trans (len_rows _) HSb.out.2
        have HI0 : Aside0 (ClsIn w wg mb vs [] (.slice none 0 0) wg) := ⟨HO2.out.map, Kd.R_nil _ _ _ _ _, ⟨rfl, rfl, rfl, Nat.le_refl _, fun _ _ _ => rfl⟩, HO2.out.below⟩
        clear hic HC
        go_wp2
        clear q0
        go_loopw [27, 8] (fun v27 v8 W => ∃ (j : Nat) (vw : Value), j ≤ s.nodes.length ∧ v27 = .int .i64 j ∧ vw = v8 ∧ Aside0 (ClsIn w wg mb (ownS T vs (s.nodes.take j)).1 (ownS T vs (s.nodes.take j)).2 vw W)) (fun v27 _ _ => s.nodes.length - (intOf v27).toNat)
        case atStart => exact ⟨0, _, by omega, rfl, rfl, ⟨by rw [List.take_zero]; exact HI0.out⟩⟩
        case round =>
          clear HI0
          obtain ⟨j, vw, hj, rfl, rfl, HI⟩ := hrel
          by_cases hjl : j < s.nodes.length
          · obtain ⟨an, A1, c1, A2, c2, A3, c3, rfl, y0, y1, y2, y3, hN⟩ := at_node HS.out j hjl
            replace y0 := pw_cell_below HI.out.below y0
            replace y1 := pw_cell_below HI.out.below y1
            replace y2 := pw_cell_below HI.out.below y2
            replace y3 := pw_cell_below HI.out.below y3
            have HN := Aside0.mk hN
            have HNb := Aside0.mk (HSb.out.1 j hjl)
            have HTk2 := Aside0.mk (show ownS T vs (s.nodes.take (j + 1)) = numStep T (ownS T vs (s.nodes.take j)) (nd s.nodes j) from by rw [take_nd' hjl, own_snoc])
            have HLn := Aside0.mk (show (ownS T vs (s.nodes.take j)).2.length = j from own_len T vs j (s.nodes.take j) (by rw [List.length_take]; omega))
            have HVl := Aside0.mk (show (ownS T vs (s.nodes.take j)).1.length ≤ vs.length + j from own_vs_len T vs j (s.nodes.take j) (by rw [List.length_take]; omega))
            have HVv := Aside0.mk (own_vals T vs (s.nodes.take j))
            have HKd := Aside0.mk (HAh.out j hjl)
            have HIb := Aside0.mk (show i < 1000000 ∧ j < s.nodes.length from ⟨by omega, hjl⟩)
            generalize ownS T vs (s.nodes.take j) = st at HI HTk2 HLn HVl HVv
            obtain ⟨us, own⟩ := st
            have HI : Aside0 (ClsIn w wg mb us own vw wr) := HI
            have HLn : Aside0 (own.length = j) := HLn
            have HVl : Aside0 (us.length ≤ vs.length + j) := HVl
            have HVv : Aside0 (∀ x ∈ own, 0 ≤ x ∧ x ≤ (us.length : Int)) := HVv
            have HUb := Aside0.mk (show us.length ≤ 1000000000000 from by
              have h1 := HVl.out
              have h2 := HVs.out
              have h3 := HIb.out
              have h4 : i * 400000 ≤ 1000000 * 400000 := Nat.mul_le_mul_right _ (by omega)
              omega)
            have HVi := Aside0.mk (show ∀ x ∈ own, I64 x from fun x hx => by
              have h1 := HVv.out x hx
              have h2 := HUb.out
              exact ⟨by omega, by omega⟩)
            have HKk := Aside0.mk (show ∀ k ∈ (nd s.nodes j).kids, 0 ≤ k ∧ k < (own.length : Int) from fun k hk => by
              have := HKd.out k hk
              have := HLn.out
              omega)
            obtain ⟨Ao, co, hv8⟩ := Kd.R_slice HI.out.own
            subst hv8
            have HTk3 := Aside0.mk (show numStep T (us, own) (nd s.nodes j) = (addW us (nodeW T (nd s.nodes j) own), own ++ [((addW us (nodeW T (nd s.nodes j) own)).idxOf (nodeW T (nd s.nodes j) own) : Int)]) from rfl)
            generalize hnn : nd s.nodes j = n at y0 y1 y2 y3 HN HNb HTk2 HKk HTk3
            clear hnn hN
            have hA := below_alloc (Below.refl wr.heap.size wr) (.cells #[.int .i64 n.kind, .slice A1 n.ints.length c1, .slice A2 n.texts.length c2, .slice A3 n.kids.length c3] 52)
            have HJ := Aside0.mk (HI.out.later hA)
            clear hA HI
            have HLo := Aside0.mk (Kd.R_reads' HJ.out.own)
            go_wp2_with fail
            refine (word_any T n A1 c1 A2 c2 A3 c3 Ao co own _ (HN.out.below HJ.out.below) HNb.out.1 HNb.out.2.1 HNb.out.2.2 HLo.out.2.2 HKk.out HVi.out (HT.out.below HJ.out.below)).mono ?_
            rintro e w5 ⟨rfl, hB5⟩
            have HK := Aside0.mk (HJ.out.later hB5)
            clear hB5 HJ y0 y1 y2 y3 HLo
            have HWl := Aside0.mk (keyW_of (nodeW_len T HNb.out.1 HNb.out.2.1 HNb.out.2.2 HKk.out HVi.out))
            clear HN
            generalize nodeW T n own = x at HTk3 HWl ⊢
            by_cases hin : x ∈ us
            · have HV := Aside0.mk (numF_in hin (.int .i64 0))
              have ha : addW us x = us := by unfold addW; rw [if_pos hin]
              rw [ha] at HTk3
              have hjn := hnl
              generalize us.idxOf x = ix at HTk3 HV
              go_wp2_with (first
                | (at_lookup; refine wpList_lookup_F_ok _ rfl (.tmp 35) (.tmp 36) 53 rfl 9 3 keyW Tryd.underlying53 (zeroIW _) mb us.length (numF us) rfl HK.out.map.toF (.string ⟨x.toArray⟩) (.string x) rfl HWl.out (.int .i64 (ix : Int)) HV.out.1 true HV.out.2 ?_)
                | (at_lookup; refine wpList_lookup_F _ rfl (.tmp 47) (.tmp 48) 53 rfl 9 3 keyW Tryd.underlying53 (zeroIW _) mb us.length (numF us) rfl HK.out.map.toF (.string ⟨x.toArray⟩) (.string x) rfl HWl.out (.int .i64 (ix : Int)) HV.out.1 ?_)
                | (at_builtin; refine Kd.R_append (Kd.int .i64) (w0 := w) w.heap.size rfl (.tmp 46) (.tmp 50) 31 3 (.int .i64 0) 8 rfl Tryd.underlying31 info_int rfl (by decide) (by omega) (.slice Ao own.length co) own (ix : Int) [.int .i64 (ix : Int)] (fun q => wg.heap.size ≤ q) (fun _ => False) rfl (by go_simp) rfl (fun _ h => h.elim) (fun k hk => Nat.le_trans HK.out.grown.size hk) HK.out.own HK.out.below HK.out.below.size (by have := HLn.out; omega) ?_; intro v7 w7 hR7 hB7 hg7 _; have HL := Aside0.mk (HK.out.pushed hR7 hB7 hg7); clear hR7 hB7 hg7))
              go_roundw
              case rel =>
                refine ⟨j + 1, _, by omega, by go_num, rfl, ?_⟩
                rw [HTk2.out, HTk3.out]
                exact HL
              case measure => simp [intOf]; omega
            · have HV := Aside0.mk (numF_out hin (.int .i64 0))
              have HIn := Aside0.mk hin
              have ha : addW us x = us ++ [x] := by unfold addW; rw [if_neg hin]
              have HV2 := Aside0.mk (numF_in (vs := us ++ [x]) (x := x) (by simp) (.int .i64 0))
              rw [ha] at HTk3
              have hjn := hnl
              have hul : us.length < maxLen := by have := HUb.out; unfold maxLen; omega
              have HMb := Aside0.mk HO2.out.ge
              clear hin ha
              generalize hix : (us ++ [x]).idxOf x = ix at HTk3 HV2
              clear hix
              go_wp2_with (first
                | (at_lookup; refine wpList_lookup_F_ok _ rfl (.tmp 35) (.tmp 36) 53 rfl 9 3 keyW Tryd.underlying53 (zeroIW _) mb us.length (numF us) rfl HK.out.map.toF (.string ⟨x.toArray⟩) (.string x) rfl HWl.out (.int .i64 0) HV.out.1 false HV.out.2.1 ?_)
                | (at_len; refine wpList_len_N _ rfl (.tmp 44) 53 rfl 9 3 Tryd.underlying53 mb us.length (numF us) rfl HK.out.map ?_)
                | (at_mapUpdate; refine wpList_update_N _ rfl (.tmp 42) (.tmp 43) _ 53 rfl 9 3 keyW Tryd.underlying53 mb us.length (numF us) rfl HK.out.map hul (.string ⟨x.toArray⟩) (.int .i64 (us.length : Int)) (.string x) rfl rfl HWl.out HV.out.2.2 ?_; intro w6 hM6 hg6; have HP := Aside0.mk (HK.out.put HIn.out hM6 hg6 HMb.out); clear hM6 hg6)
                | (at_lookup; refine wpList_lookup_F _ rfl (.tmp 47) (.tmp 48) 53 rfl 9 3 keyW Tryd.underlying53 (zeroIW _) mb (us ++ [x]).length (numF (us ++ [x])) rfl HP.out.map.toF (.string ⟨x.toArray⟩) (.string x) rfl HWl.out (.int .i64 (ix : Int)) HV2.out.1 ?_)
                | (at_builtin; refine Kd.R_append (Kd.int .i64) (w0 := w) w.heap.size rfl (.tmp 46) (.tmp 50) 31 3 (.int .i64 0) 8 rfl Tryd.underlying31 info_int rfl (by decide) (by omega) (.slice Ao own.length co) own (ix : Int) [.int .i64 (ix : Int)] (fun q => wg.heap.size ≤ q) (fun _ => False) rfl (by go_simp) rfl (fun _ h => h.elim) (fun k hk => Nat.le_trans HP.out.grown.size hk) HP.out.own HP.out.below HP.out.below.size (by have := HLn.out; omega) ?_; intro v7 w7 hR7 hB7 hg7 _; have HL := Aside0.mk (HP.out.pushed hR7 hB7 hg7); clear hR7 hB7 hg7))
              go_roundw
              case rel =>
                refine ⟨j + 1, _, by omega, by go_num, rfl, ?_⟩
                rw [HTk2.out, HTk3.out]
                exact HL
              case measure => simp [intOf]; omega
          · obtain rfl : j = s.nodes.length := by omega
            rw [List.take_length] at HI
            have HOut := Aside0.mk (HI.out.whole HO2.out)
            have HMb := Aside0.mk HO2.out.ge
            have hol := HOl.out
            obtain ⟨Ao, co, hv8⟩ := Kd.R_slice HI.out.own
            subst hv8
            generalize ownS T vs s.nodes = st at HI HAll
            obtain ⟨us, own⟩ := st
            have HI : Aside0 (ClsIn w wg mb us own (.slice Ao own.length co) wr) := HI
            have HAll : Aside0 (allS T (l.take (i + 1)) = (us, outs ++ [own])) := HAll
            clear hjl hj HO2
            go_wp2_with (at_builtin; refine Kd.R_append kInts (w0 := w) w.heap.size rfl (.tmp 53) (.tmp 55) 25 31 (.slice none 0 0) 24 rfl Tryd.underlying25 infoInts rfl (by decide) (by omega) vo outs own [.slice Ao own.length co] (fun _ => True) (fun q => wg.heap.size ≤ q) rfl (by go_simp) ⟨_, rfl, HI.out.own⟩ (fun k hk => ⟨trivial, fun e => by have := HOut.out.1 k e.symm; omega⟩) (fun _ _ => trivial) (Kd.R_mono HOut.out (fun _ _ => trivial)) HI.out.below HI.out.below.size (by omega) ?_; intro v7 w7 hR7 hB7 hg7 _; have HL := Aside0.mk (ClsOut.pushed HI.out HOut.out hR7 hB7 hg7 HMb.out); clear hR7 hB7 hg7)
            go_roundw
            case rel =>
              refine ⟨i + 1, _, by omega, by go_num, rfl, HCi, ?_⟩
              rw [HAll.out]
              exact HL
            case measure => simp [intOf]; omega
    · obtain rfl : i = l.length := by omega
      rw [List.take_length] at HO
      go_wp2
      go_ret2
      exact ⟨HO.out.below, .inl ⟨HC.out, _, rfl, HO.out.out⟩⟩
end Go.Proofs.YtdfneldenipljaaDoor.L
end
section
namespace Go.Proofs.YtdfneldenipljaaDoor.L
open Go.RowKit Go.ChangeShapes Go.WideShapes Go.Proofs.YtdfneldenipljaaDoorW.PrintWords Go.Proofs.YtdfneldenipljaaDoorW.PrintLast Go.Proofs.YtdfneldenipljaaDoorW.PrintMore
attribute [local go_sem] max2_int min2_int max_two min_two max_three min_three max_four min_four
theorem sum_map_le {f : Nat → Nat} {b : Nat} : ∀ l : List Nat, (∀ x ∈ l, f x ≤ b) → (l.map f).sum ≤ l.length * b
  | [], _ => by simp
  | x :: l, h => by
    have h1 := sum_map_le l (fun y hy => h y (by simp [hy]))
    have h2 := h x (by simp)
    rw [List.map_cons, List.sum_cons, List.length_cons, Nat.succ_mul]
    omega
theorem rows_leB {ns : List Node} {b : Nat} (h : ∀ i : Nat, i < ns.length → (nd ns i).kids.length ≤ b) : rows ns ≤ ns.length * (b + 1) := by
  unfold rows
  have := sum_map_le (f := wt ns) (b := b + 1) (List.range ns.length) (fun x hx => by
    have := h x (List.mem_range.1 hx)
    unfold wt; omega)
  rwa [List.length_range] at this
theorem greatC_bd {s : Scene} (hg : greatC s = false) (hN : ∀ i : Nat, i < s.nodes.length → NBd (nd s.nodes i)) : ScBd s ∧ s.nodes.length ≤ 25 := by
  unfold greatC at hg
  obtain ⟨h1, h2⟩ := Bool.or_eq_false_iff.1 hg
  have h2 := of_decide_eq_false h2
  have h1 := of_decide_eq_false h1
  have hn : ∀ i : Nat, i < s.nodes.length → greatN (nd s.nodes i) = false := fun i hi => Bool.eq_false_iff.2 (fun e => h1 (.inr (.inr ⟨i, hi, e⟩)))
  have key : ∀ i : Nat, i < s.nodes.length → Small (nd s.nodes i) ∧ (∀ x ∈ (nd s.nodes i).texts, x.size ≤ 500) ∧ (nd s.nodes i).kids.length ≤ 300 := fun i hi => by
    have h3 := of_decide_eq_false (hn i hi)
    have a1 : ¬ 100 < (nd s.nodes i).ints.length := fun e => h3 (.inl e)
    have a2 : ¬ 100 < (nd s.nodes i).texts.length := fun e => h3 (.inr (.inl e))
    have a3 : ¬ 300 < (nd s.nodes i).kids.length := fun e => h3 (.inr (.inr (.inl e)))
    refine ⟨⟨by omega, by omega, by omega⟩, fun x hx => ?_, by omega⟩
    obtain ⟨j, hj, rfl⟩ := List.getElem_of_mem hx
    refine Classical.byContradiction fun hb => h3 (.inr (.inr (.inr ⟨j, hj, ?_⟩)))
    unfold str
    rw [List.getD_eq_getElem?_getD, List.getElem?_eq_getElem hj]
    show 500 < ((nd s.nodes i).texts[j]).size
    omega
  refine ⟨⟨fun i hi => ⟨(key i hi).1, fun x hx => Nat.le_trans ((key i hi).2.1 x hx) (by omega), hN i hi⟩, ?_⟩, by omega⟩
  have := rows_leB (ns := s.nodes) (b := 300) (fun i hi => (key i hi).2.2)
  have h4 : s.nodes.length * (300 + 1) ≤ 25 * 301 := Nat.mul_le_mul (by omega) (by omega)
  omega
theorem great2 {a b : Scene} (h : great19 [a, b] = false) : greatC a = false ∧ greatC b = false := by
  have h1 := of_decide_eq_false h
  refine ⟨Bool.eq_false_iff.2 (fun e => h1 (.inr ⟨0, by simp, e⟩)), Bool.eq_false_iff.2 (fun e => h1 (.inr ⟨1, by simp, e⟩))⟩
end Go.Proofs.YtdfneldenipljaaDoor.L
end
section
namespace Go.Proofs.YtdfneldenipljaaDoor.L
open Go.RowKit Go.ChangeShapes Go.WideShapes Go.Proofs.YtdfneldenipljaaDoorW.PrintWords Go.Proofs.YtdfneldenipljaaDoorW.PrintLast Go.Proofs.YtdfneldenipljaaDoorW.PrintMore
attribute [local go_sem] max2_int min2_int max_two min_two max_three min_three max_four min_four
def Lits {α : Type} (d : Kd α) (W : World) : List α → List Value → Prop
  | [], cs => cs = []
  | p :: ps, cs => ∃ c r, cs = c ++ r ∧ d.K W p c ∧ Lits d W ps r
theorem Lits.reps {α : Type} {d : Kd α} {W : World} : ∀ (ps : List α) (cs : List Value) (qs : List α) (ds : List Value), Lits d W ps cs → Reps (d.K W) d.sz qs ds → Reps (d.K W) d.sz (qs ++ ps) (ds ++ cs)
  | [], cs, qs, ds, h, hr => by
    obtain rfl : cs = [] := h
    simpa using hr
  | p :: ps, cs, qs, ds, h, hr => by
    obtain ⟨c, r, rfl, hk, hl⟩ := h
    have := Lits.reps ps r (qs ++ [p]) (ds ++ c) hl (Reps.snoc hr hk (d.K_len hk))
    simpa using this
theorem C_lits {α : Type} (d : Kd α) (W : World) (e n : Nat) (hn : W.heap.size = n) (ps : List α) (cs : List Value) (h : Lits d W ps cs) (hm : ps.length ≤ 1000000) {ca : Array Value} (hca : ca = cs.toArray) :
    d.C (W.alloc (.cells ca e)) (some ⟨n, 0, none⟩) ps.length ps := by
  subst hn hca
  have hr := Lits.reps ps cs [] [] h (Reps.none _ _)
  rw [List.nil_append, List.nil_append] at hr
  have hb : Below W.heap.size W (W.alloc (.cells cs.toArray e)) := below_alloc (Below.refl _ _) _
  refine ⟨rfl, by omega, fun _ => ⟨_, rfl, fun j p hj => ?_⟩⟩
  have hk := hr.2 j p hj
  refine ⟨_, d.K_len hk, d.K_below hb hk, fun q u hu => ?_⟩
  have hh : (W.alloc (.cells cs.toArray e)).heap[W.heap.size]? = some (.cells cs.toArray e (0, 0)) := by simpa using heap_alloc_new W _
  rw [Go.Proofs.YtdfneldenipljaaDoorW.PrintWords.add_plain, blk_cell hh]
  rw [List.getElem?_take] at hu
  split at hu
  · rw [List.getElem?_drop] at hu
    simpa using hu
  · cases hu
end Go.Proofs.YtdfneldenipljaaDoor.L
end
section
namespace Go.Proofs.YtdfneldenipljaaDoor.L
open Go.RowKit Go.ChangeShapes Go.WideShapes Go.Proofs.YtdfneldenipljaaDoorW.PrintWords Go.Proofs.YtdfneldenipljaaDoorW.PrintLast Go.Proofs.YtdfneldenipljaaDoorW.PrintMore
attribute [local go_sem] max2_int min2_int max_two min_two max_three min_three max_four min_four
theorem scK {w : World} {A : Option Addr} {c : Nat} {s : Scene} (h : kNode.C w A s.nodes.length s.nodes) (hc : s.nodes.length ≤ c) : kScene.K w s [.slice A s.nodes.length c, .int .i64 s.root] := ⟨_, _, rfl, ⟨A, c, rfl, hc, h⟩, rfl⟩
theorem sc_row1 (w : World) (g : Nat) (hg : w.heap.size = g) {a : Scene} {x0 x1 : Value} (ha : kScene.K w a [x0, x1]) : kScene.C (w.alloc (.cells #[x0, x1] 34)) (some ⟨g, 0, none⟩) 1 [a] := by
  subst hg
  exact C_lits kScene _ 34 _ rfl [a] _ ⟨_, _, (show _ = [_, _] ++ [] from rfl), ha, rfl⟩ (by simp) rfl
theorem sc_row2 (w : World) (g : Nat) (hg : w.heap.size = g) {a b : Scene} {x0 x1 y0 y1 : Value} (ha : kScene.K w a [x0, x1]) (hb : kScene.K w b [y0, y1]) : kScene.C (w.alloc (.cells #[x0, x1, y0, y1] 34)) (some ⟨g, 0, none⟩) 2 [a, b] := by
  subst hg
  exact C_lits kScene _ 34 _ rfl [a, b] _ ⟨_, _, (show _ = [_, _] ++ [_, _] from rfl), ha, _, _, (show _ = [_, _] ++ [] from rfl), hb, rfl⟩ (by simp) rfl
def kA : Node := ⟨3, [], [], []⟩
def kB : Node := ⟨1, [], [], [0, 1]⟩
def sK : Scene := ⟨[kA, kA, kB], 2⟩
theorem sK_ahead : AheadN sK.nodes := fun p hp k hk => by
  have hp : p < 3 := hp
  match p, hp with
  | 0, _ => cases hk
  | 1, _ => cases hk
  | 2, _ =>
    have hk : k ∈ [(0 : Int), 1] := hk
    simp at hk
    omega
theorem sK_right : Right sK := by
  refine ⟨by show (0 : Int) ≤ 2; omega, by show (2 : Int) < 3; omega, ahead_places sK_ahead, ahead_cyc sK_ahead, fun p hp => ?_⟩
  have hp : p < 3 := hp
  have h2 : Rch sK.nodes [sK.root] 2 := .base (by simp [sK])
  match p, hp with
  | 0, _ => exact .step h2 (show (0 : Int) ∈ [(0 : Int), 1] by simp)
  | 1, _ => exact .step h2 (show (1 : Int) ∈ [(0 : Int), 1] by simp)
  | 2, _ => exact h2
theorem sK_ord : ord sK = [0, 1, 2] := by
  have hd := sK_right.dag
  have p0 : Pl sK.nodes 0 := ⟨by omega, by show (0 : Int) < 3; omega⟩
  have p1 : Pl sK.nodes 1 := ⟨by omega, by show (1 : Int) < 3; omega⟩
  have p2 : Pl sK.nodes 2 := ⟨by omega, by show (2 : Int) < 3; omega⟩
  have k0 : kids sK.nodes 0 = [] := rfl
  have k1 : kids sK.nodes 1 = [] := rfl
  have k2 : kids sK.nodes 2 = [0, 1] := rfl
  show M sK.nodes 2 [] = _
  rw [M_out hd p2 (by simp), k2, ML_cons, M_out hd p0 (by simp), k0, ML_cons]
  show M sK.nodes 1 [0] ++ [2] = _
  rw [M_out hd p1 (by simp), k1]
  rfl
theorem sK_c : isC sK = true := by
  refine (isC_iff sK_right).2 ?_
  have hc : canonL sK = sK.nodes := by
    unfold canonL
    rw [sK_ord]
    show [relab sK kA, relab sK kA, relab sK kB] = _
    have e1 : relab sK kA = kA := rfl
    have e2 : relab sK kB = kB := by
      unfold relab idx
      rw [sK_ord]
      rfl
    rw [e1, e2]
    rfl
  rw [hc]
  rfl
theorem none_c : isC ⟨[], 0⟩ = false := Bool.eq_false_iff.2 fun h => by
  have := (isC_right h).r1
  simp at this
theorem sK_all (T : Lib.PrintTabs) : (allS T [sK]).2 = [[0, 0, 1]] := by
  have h1 : nodeW T kA [0] = nodeW T kA [] := (nodeW_inj T).2 ⟨rfl, rfl, rfl, rfl⟩
  have hne : ¬ nodeW T kB [0, 0] = nodeW T kA [] := fun e => absurd ((nodeW_inj T).1 e).1 (by decide)
  have hn2 : ¬ nodeW T kA [] = nodeW T kB [0, 0] := fun e => hne e.symm
  have hb : (nodeW T kA [] == nodeW T kB [0, 0]) = false := beq_eq_false_iff_ne.2 hn2
  simp [allS, ownS, numStep, addW, sK, h1, hne, hn2, List.idxOf_cons, hb]
theorem sK_bd : ScBd sK := by
  refine ⟨fun i hi => ?_, by decide⟩
  have hi : i < 3 := hi
  have hA : Small kA ∧ (∀ x ∈ kA.texts, x.size ≤ 1000000) ∧ NBd kA := ⟨⟨by decide, by decide, by decide⟩, (fun x hx => by cases hx), ⟨⟨by decide, by decide⟩, (fun x hx => by cases hx)⟩⟩
  match i, hi with
  | 0, _ => exact hA
  | 1, _ => exact hA
  | 2, _ => exact ⟨⟨by decide, by decide, by decide⟩, (fun x hx => by cases hx), ⟨⟨by decide, by decide⟩, (fun x hx => by cases hx)⟩⟩
theorem none_bd : ScBd ⟨[], 0⟩ := ⟨fun i hi => absurd hi (Nat.not_lt_zero _), by decide⟩
end Go.Proofs.YtdfneldenipljaaDoor.L
end
section
namespace Go.Proofs.YtdfneldenipljaaDoor.L
open Go.RowKit Go.ChangeShapes Go.WideShapes Go.Proofs.YtdfneldenipljaaDoorW.PrintWords Go.Proofs.YtdfneldenipljaaDoorW.PrintLast Go.Proofs.YtdfneldenipljaaDoorW.PrintMore
attribute [local go_sem] max2_int min2_int max_two min_two max_three min_three max_four min_four
theorem at_ints {w : World} {A : Option Addr} {n : Nat} {xs : List (List Int)} (h : kInts.C w A n xs) (i : Nat) (h1 : i < n) :
    ∃ ad B d, A = some ad ∧ w.cell? (ad.add i) = some (.slice B (xs.getD i []).length d) ∧ (xs.getD i []).length ≤ d ∧ (Kd.int .i64).C w B (xs.getD i []).length (xs.getD i []) := by
  obtain ⟨ad, c, e, _, hK, hc0⟩ := Kd.C_get h [] (i : Int) (by omega) (by omega)
  have hK : kInts.K w (xs.getD i []) c := by simpa using hK
  obtain ⟨B, d, rfl, hl, hC⟩ := hK
  refine ⟨ad, B, d, e, ?_, hl, hC⟩
  have := hc0 0 _ rfl
  simpa [show kInts.sz = 1 from rfl] using this
abbrev oK1 : Obj := .cells #[.int .i64 0, .int .i64 1] 3
abbrev oK2 (g : Nat) : Obj := .cells #[.int .i64 3, .slice none 0 0, .slice none 0 0, .slice none 0 0, .int .i64 3, .slice none 0 0, .slice none 0 0, .slice none 0 0, .int .i64 1, .slice none 0 0, .slice none 0 0, .slice (some ⟨g, 0, none⟩) 2 2] 52
theorem kA_K (w : World) : kNode.K w kA [.int .i64 3, .slice none 0 0, .slice none 0 0, .slice none 0 0] := kNode_mk (x := kA) ⟨by simp [kA], by simp [kA], by simp [kA], C_nil _ _, C_nil _ _, C_nil _ _⟩
theorem sK_C (w : World) (g : Nat) (hg : w.heap.size = g) : kNode.C ((w.alloc oK1).alloc (oK2 g)) (some ⟨g + 1, 0, none⟩) 3 sK.nodes := by
  subst hg
  refine C_lits kNode _ 52 _ (by simp) [kA, kA, kB] _ ⟨_, _, (show _ = [_, _, _, _] ++ [_, _, _, _, _, _, _, _] from rfl), kA_K _, _, _, (show _ = [_, _, _, _] ++ [_, _, _, _] from rfl), kA_K _, _, _, (show _ = [_, _, _, _] ++ [] from rfl), ?_, rfl⟩ (by simp) rfl
  exact kNode_mk (x := kB) ⟨by simp [kB], by simp [kB], by simp [kB], C_nil _ _, C_nil _ _, C_ints w _ _ rfl [0, 1] (by simp) rfl⟩
theorem add_zero (ad : Addr) : ad.add (0 : Nat) = ad := by cases ad; simp [Addr.add]
set_option maxRecDepth 100000 in
set_option maxHeartbeats 4000000 in
theorem cawake_any (T : Lib.PrintTabs) (w : World) (hT : QTabs T w) : Calls Tryd.prog 13 #[] w fun e w' => e = .returned (.bool true) ∧ Below w.heap.size w w' := by
  have HT := Aside0.mk hT
  have hua := Tryd.underlying34
  have hun := Tryd.underlying52
  clear hT
  go_enter Tryd.func13, Tryd.ntmps13
  go_wp2_with fail
  have HS3 := Aside0.mk (Kd.C_alloc (sK_C w _ rfl) (.cells #[.slice (some ⟨w.heap.size + 1, 0, none⟩) 3 3, .int .i64 2] 34))
  have HB3 := Aside0.mk (below_alloc (below_alloc (below_alloc (Below.refl w.heap.size w) oK1) (oK2 w.heap.size)) (.cells #[.slice (some ⟨w.heap.size + 1, 0, none⟩) 3 3, .int .i64 2] 34))
  have k0 := box_cell ((w.alloc oK1).alloc (oK2 w.heap.size)) (w.heap.size + 1 + 1) (by simp) #[.slice (some ⟨w.heap.size + 1, 0, none⟩) 3 3, .int .i64 2] 34 0 _ rfl
  have k1 := box_cell ((w.alloc oK1).alloc (oK2 w.heap.size)) (w.heap.size + 1 + 1) (by simp) #[.slice (some ⟨w.heap.size + 1, 0, none⟩) 3 3, .int .i64 2] 34 1 _ rfl
  have HZ := Aside0.mk (show ((((w.alloc oK1).alloc (oK2 w.heap.size)).alloc (.cells #[.slice (some ⟨w.heap.size + 1, 0, none⟩) 3 3, .int .i64 2] 34))).heap.size = w.heap.size + 1 + 1 + 1 by simp)
  generalize ((w.alloc oK1).alloc (oK2 w.heap.size)).alloc (.cells #[.slice (some ⟨w.heap.size + 1, 0, none⟩) 3 3, .int .i64 2] 34) = w3 at HS3 HB3 k0 k1 HZ ⊢
  have hA3 := below_alloc (Below.refl w3.heap.size w3) (.cells #[.slice (some ⟨w.heap.size + 1, 0, none⟩) 3 3, .int .i64 2] 34)
  refine (numbers_any T _ 1 [sK] _ (sc_row1 w3 _ HZ.out (scK (s := sK) HS3.out (by decide))) (fun i hi => by
    obtain rfl : i = 0 := by simp at hi; omega
    exact sK_bd) (by simp) (HT.out.below (below_step HB3.out hA3))).mono ?_
  rintro e w5 ⟨hB5, (⟨-, v, rfl, hR5⟩ | ⟨⟨i, hi, hbad⟩, rfl⟩)⟩
  rotate_left
  · obtain rfl : i = 0 := by simp at hi; omega
    have h1 : isC sK = false := hbad
    rw [sK_c] at h1
    cases h1
  replace k0 := pw_cell_below hB5 (pw_cell_below hA3 k0)
  replace k1 := pw_cell_below hB5 (pw_cell_below hA3 k1)
  have HB5 := Aside0.mk (below_step (below_step HB3.out hA3) hB5)
  have HS5 := Aside0.mk (Kd.C_below (Kd.C_below HS3.out hA3) hB5)
  rw [sK_all] at hR5
  obtain ⟨A5, c5, hv5⟩ := Kd.R_slice hR5
  subst hv5
  have HL5 := Aside0.mk (Kd.R_reads' hR5).2.2
  clear hR5 hB5 hA3 HS3 HB3
  go_wp2_with fail
  have hA5 := below_alloc (Below.refl w5.heap.size w5) (.cells #[.slice (some ⟨w.heap.size + 1, 0, none⟩) 3 3, .int .i64 2, .slice none 0 0, .int .i64 0] 34)
  refine (numbers_any T _ 2 [sK, ⟨[], 0⟩] _ (sc_row2 w5 _ rfl (scK (s := sK) HS5.out (by decide)) (scK (s := ⟨[], 0⟩) (C_nil _ _) (by decide))) (fun i hi => by
    have hi : i < 2 := hi
    match i, hi with
    | 0, _ => exact sK_bd
    | 1, _ => exact none_bd) (by simp) (HT.out.below (below_step HB5.out hA5))).mono ?_
  rintro e w6 ⟨hB6, (⟨hall, -⟩ | ⟨-, rfl⟩)⟩
  · have h1 : isC ⟨[], 0⟩ = true := hall 1 (by simp)
    rw [none_c] at h1
    cases h1
  have HB6 := Aside0.mk (below_step (below_step HB5.out hA5) hB6)
  have HL6 := Aside0.mk (Kd.C_below (Kd.C_below HL5.out hA5) hB6)
  clear hB6 hA5 HL5 HS5 HB5 k0 k1
  go_wp2_with fail
  refine (numbers_any T none 0 [] _ (C_nil _ _) (fun i hi => by simp at hi) (by simp) (HT.out.below HB6.out)).mono ?_
  rintro e w7 ⟨hB7, (⟨-, v, rfl, hR7⟩ | ⟨⟨i, hi, hbad⟩, rfl⟩)⟩
  rotate_left
  · simp at hi
  obtain ⟨A7, c7, hv7⟩ := Kd.R_slice hR7
  subst hv7
  have HB7 := Aside0.mk (below_step HB6.out hB7)
  have HL7 := Aside0.mk (Kd.C_below HL6.out hB7)
  have e7 : (allS T []).2.length = 0 := rfl
  rw [e7]
  clear hB7 hR7 HL6 HB6 e7
  obtain ⟨ad, B, d, rfl, x0, hd, hC⟩ := at_ints HL7.out 0 (by simp)
  have HC := Aside0.mk (show (Kd.int .i64).C w7 B 3 [0, 0, 1] from hC)
  have x0 : w7.cell? ad = some (.slice B 3 d) := by
    rw [add_zero ad] at x0
    exact x0
  clear hC hd
  go_wp2_with fail
  refine (ints_any B d [0, 0, 1] (some ⟨w7.heap.size, 0, none⟩) 3 [0, 0, 1] _ (Kd.C_alloc HC.out _) (C_ints w7 _ _ rfl [0, 0, 1] (by simp) rfl)).mono ?_
  rintro e w8 ⟨rfl, hB8⟩
  have HB8 := Aside0.mk (below_step HB7.out (below_step (below_alloc (Below.refl w7.heap.size w7) _) hB8))
  clear hB8 x0
  go_wp2
  go_ret
  exact ⟨by first | rfl | (simp; done), HB8.out⟩
end Go.Proofs.YtdfneldenipljaaDoor.L
end
section
namespace Go.Proofs.YtdfneldenipljaaDoor.L
open Go.RowKit Go.ChangeShapes Go.WideShapes Go.Proofs.YtdfneldenipljaaDoorW.PrintWords Go.Proofs.YtdfneldenipljaaDoorW.PrintLast Go.Proofs.YtdfneldenipljaaDoorW.PrintMore
attribute [local go_sem] max2_int min2_int max_two min_two max_three min_three max_four min_four
theorem wrap64_in (n : Int) (h : -9223372036854775808 ≤ n ∧ n ≤ 9223372036854775807) : wrap64 n = n := by unfold wrap64; omega
end Go.Proofs.YtdfneldenipljaaDoor.L
end
section
namespace Go.Proofs.YtdfneldenipljaaDoor.L
open Go.RowKit Go.ChangeShapes Go.WideShapes Go.Proofs.YtdfneldenipljaaDoorW.PrintWords Go.Proofs.YtdfneldenipljaaDoorW.PrintLast Go.Proofs.YtdfneldenipljaaDoorW.PrintMore
attribute [local go_sem] max2_int min2_int max_two min_two max_three min_three max_four min_four
theorem R_apart {α β : Type} {d : Kd α} {d' : Kd β} {e e' : Nat} {w : World} {b b' : Nat} {ok ok' : Nat → Prop} {v v' : Value} {xs : List α} {ys : List β} (h : d.R e w b ok v xs) (h' : d'.R e' w b' ok' v' ys) (hT : e ≠ e') (k : Nat) (hk : some k = v.ownBlock) : some k ≠ v'.ownBlock := fun hk' => by
  obtain ⟨c1, e1⟩ := Kd.R_typed h k hk.symm
  obtain ⟨c2, e2⟩ := Kd.R_typed h' k hk'.symm
  rw [e1] at e2
  injection e2 with e2
  injection e2 with _ e2
  exact hT e2
structure CnRel (w1 : World) (root : Int) (xs : List Node) (v4 : Value) (W : World) : Prop where
  below : Below w1.heap.size w1 W
  out : W.heap[w1.heap.size]? = some (.cells #[v4, .int .i64 root] 34 (0, 0))
  row : kNode.R 52 W w1.heap.size (fun _ => True) v4 xs
theorem CnRel.start (w1 : World) (root : Int) : CnRel w1 root [] (.slice none 0 0) (w1.alloc (.cells #[.slice none 0 0, .int .i64 root] 34)) :=
  ⟨below_alloc (Below.refl _ _) _, by simpa using heap_alloc_new w1 _, Kd.R_nil _ _ _ _ _⟩
theorem CnRel.later {w1 : World} {root : Int} {xs : List Node} {v4 : Value} {W W1 : World} (h : CnRel w1 root xs v4 W) (hb : Below W.heap.size W W1) : CnRel w1 root xs v4 W1 :=
  ⟨below_step h.below hb, (hb.block _ (blk_lt h.out)).trans h.out, Kd.R_below h.row hb⟩
theorem CnRel.drewN {w1 : World} {root : Int} {xs : List Node} {v4 : Value} {W : World} (h : CnRel w1 root xs v4 W) (m : Nat) : CnRel w1 root xs v4 (W.drewN m) := h.later (pw_below_drewN (Below.refl _ _) m)
theorem CnRel.put {w1 : World} {root : Int} {xs : List Node} {v4 v5 : Value} {ys : List Node} {W w2 : World} (h : CnRel w1 root xs v4 W) (hR : kNode.R 52 w2 w1.heap.size (fun _ => True) v5 ys) (hB : Below w1.heap.size w1 w2) (hg : W.grownBy w2 v4.ownBlock) :
    w2.heap[w1.heap.size]? = some (.cells #[v4, .int .i64 root] 34 (0, 0)) ∧ CnRel w1 root ys v5 (w2.setCell ⟨w1.heap.size, 0, none⟩ v5) := by
  have hb := blk_grown h.out hg (Kd.R_ne h.row h.out (by decide))
  refine ⟨hb, below_set hB (Nat.le_refl _), ?_, R_type hR hb (by decide) v5 0⟩
  have := blk_set hb 0 v5
  simpa using this
theorem node_off {W : World} {base : Nat} {n : Node} {v1 v2 v3 v4 : Value} {xs : List Node} (h1 : (Kd.int .i64).R 2 W base (fun _ => True) v1 n.ints) (h2 : Kd.string.R 9 W base (fun _ => True) v2 n.texts) (h3 : (Kd.int .i64).R 3 W base (fun _ => True) v3 n.kids)
    (h : kNode.R 52 W base (fun _ => True) v4 xs) : kNode.M W base (fun k => some k ≠ v4.ownBlock) n [.int .i64 n.kind, v1, v2, v3] :=
  kNode_mkM (Kd.R_mono (Kd.R_tight rfl h1) (fun k hk => R_apart h1 h (by decide) k hk)) (Kd.R_mono (Kd.R_tight rfl h2) (fun k hk => R_apart h2 h (by decide) k hk)) (Kd.R_mono (Kd.R_tight rfl h3) (fun k hk => R_apart h3 h (by decide) k hk))
end Go.Proofs.YtdfneldenipljaaDoor.L
end
section
namespace Go.Proofs.YtdfneldenipljaaDoor.L
open Go.RowKit Go.ChangeShapes Go.WideShapes Go.Proofs.YtdfneldenipljaaDoorW.PrintWords Go.Proofs.YtdfneldenipljaaDoorW.PrintLast Go.Proofs.YtdfneldenipljaaDoorW.PrintMore
attribute [local go_sem] max2_int min2_int max_two min_two max_three min_three max_four min_four
structure PF (w : World) (g r : Nat) (cs : Array Value) (W : World) (v1 v2 v3 : Value) (l1 : List Int) (l2 : List ByteArray) (l3 : List Int) : Prop where
  below : Below w.heap.size w W
  box : W.heap[g]? = some (.cells cs 52 (0, 0))
  res : W.heap[r]? = some (.cells #[.int .i64 0, .slice none 0 0, .slice none 0 0, .slice none 0 0] 52 (0, 0))
  r1 : (Kd.int .i64).R 2 W w.heap.size (fun _ => True) v1 l1
  r2 : Kd.string.R 9 W w.heap.size (fun _ => True) v2 l2
  r3 : (Kd.int .i64).R 3 W w.heap.size (fun _ => True) v3 l3
section
variable {w : World} {g r : Nat} {cs : Array Value} {W W1 : World} {v1 v2 v3 : Value} {l1 : List Int} {l2 : List ByteArray} {l3 : List Int}
theorem PF.later (h : PF w g r cs W v1 v2 v3 l1 l2 l3) (hb : Below W.heap.size W W1) : PF w g r cs W1 v1 v2 v3 l1 l2 l3 :=
  ⟨below_step h.below hb, (hb.block _ (blk_lt h.box)).trans h.box, (hb.block _ (blk_lt h.res)).trans h.res, Kd.R_below h.r1 hb, Kd.R_below h.r2 hb, Kd.R_below h.r3 hb⟩
theorem PF.alloc (h : PF w g r cs W v1 v2 v3 l1 l2 l3) (o : Obj) : PF w g r cs (W.alloc o) v1 v2 v3 l1 l2 l3 := h.later (below_alloc (Below.refl _ _) o)
theorem PF.drew (h : PF w g r cs W v1 v2 v3 l1 l2 l3) : PF w g r cs W.drew v1 v2 v3 l1 l2 l3 := h.later (below_drew (Below.refl _ _))
theorem PF.lives (h : PF w g r cs W v1 v2 v3 l1 l2 l3) : Lives 4 r W := ⟨_, rfl, _, h.res⟩
theorem PF.cell (h : PF w g r cs W v1 v2 v3 l1 l2 l3) (i : Nat) {v : Value} (hv : cs[i]? = some v) : W.cell? ⟨g, i, none⟩ = some v := (blk_cell h.box i).trans hv
theorem PF.lit1 (h : PF w g r cs W v1 v2 v3 l1 l2 l3) (b : Nat) (hb : b = W.heap.size) : PF w g r cs (W.alloc (.cells #[] 2)) (.slice (some ⟨b, 0, none⟩) 0 0) v2 v3 [] l2 l3 := by
  subst hb
  have h' := h.alloc (.cells #[] 2)
  exact { h' with r1 := R_empty _ _ _ _ h.below.size }
theorem PF.lit1a (h : PF w g r cs W v1 v2 v3 l1 l2 l3) : PF w g r cs (W.alloc (.cells #[] 2)) (.slice (some ⟨W.heap.size, 0, none⟩) 0 0) v2 v3 [] l2 l3 := h.lit1 _ rfl
theorem PF.lit1b {o : Obj} (h : PF w g r cs (W.alloc o) v1 v2 v3 l1 l2 l3) : PF w g r cs ((W.alloc o).alloc (.cells #[] 2)) (.slice (some ⟨W.heap.size + 1, 0, none⟩) 0 0) v2 v3 [] l2 l3 := h.lit1 _ (by simp)
theorem PF.lit1c {o o' : Obj} (h : PF w g r cs ((W.alloc o).alloc o') v1 v2 v3 l1 l2 l3) : PF w g r cs (((W.alloc o).alloc o').alloc (.cells #[] 2)) (.slice (some ⟨W.heap.size + 1 + 1, 0, none⟩) 0 0) v2 v3 [] l2 l3 := h.lit1 _ (by simp)
theorem PF.app1 {b n c : Nat} {u : Value} {m : List Int} (h : PF w g r cs W (.slice (some ⟨b, 0, none⟩) n c) v2 v3 l1 l2 l3) (hR : (Kd.int .i64).R 2 W1 w.heap.size (fun _ => True) u m) (hB : Below w.heap.size w W1) (hg : W.grownBy W1 (Value.slice (some ⟨b, 0, none⟩) n c).ownBlock) : PF w g r cs W1 u v2 v3 m l2 l3 := by
  obtain ⟨cells, hc⟩ := Kd.R_typed h.r1 b rfl
  have hg' : W.grownBy W1 (some b) := hg
  refine ⟨hB, blk_grown h.box hg' (fun e => ?_), blk_grown h.res hg' (fun e => ?_), hR, Kd.R_grown1 h.r2 rfl hg (Kd.R_ne h.r2 hc (by decide)), Kd.R_grown1 h.r3 rfl hg (Kd.R_ne h.r3 hc (by decide))⟩
  · injection e with e
    have h1 := h.box
    rw [e, hc] at h1
    injection h1 with h1
    injection h1 with _ h1
    exact absurd h1 (by decide)
  · injection e with e
    have h1 := h.res
    rw [e, hc] at h1
    injection h1 with h1
    injection h1 with _ h1
    exact absurd h1 (by decide)
theorem PF.lit2 (h : PF w g r cs W v1 v2 v3 l1 l2 l3) (b : Nat) (hb : b = W.heap.size) : PF w g r cs (W.alloc (.cells #[] 9)) v1 (.slice (some ⟨b, 0, none⟩) 0 0) v3 l1 [] l3 := by
  subst hb
  have h' := h.alloc (.cells #[] 9)
  exact { h' with r2 := R_empty _ _ _ _ h.below.size }
theorem PF.lit2a (h : PF w g r cs W v1 v2 v3 l1 l2 l3) : PF w g r cs (W.alloc (.cells #[] 9)) v1 (.slice (some ⟨W.heap.size, 0, none⟩) 0 0) v3 l1 [] l3 := h.lit2 _ rfl
theorem PF.lit2b {o : Obj} (h : PF w g r cs (W.alloc o) v1 v2 v3 l1 l2 l3) : PF w g r cs ((W.alloc o).alloc (.cells #[] 9)) v1 (.slice (some ⟨W.heap.size + 1, 0, none⟩) 0 0) v3 l1 [] l3 := h.lit2 _ (by simp)
theorem PF.lit2c {o o' : Obj} (h : PF w g r cs ((W.alloc o).alloc o') v1 v2 v3 l1 l2 l3) : PF w g r cs (((W.alloc o).alloc o').alloc (.cells #[] 9)) v1 (.slice (some ⟨W.heap.size + 1 + 1, 0, none⟩) 0 0) v3 l1 [] l3 := h.lit2 _ (by simp)
theorem PF.app2 {b n c : Nat} {u : Value} {m : List ByteArray} (h : PF w g r cs W v1 (.slice (some ⟨b, 0, none⟩) n c) v3 l1 l2 l3) (hR : Kd.string.R 9 W1 w.heap.size (fun _ => True) u m) (hB : Below w.heap.size w W1) (hg : W.grownBy W1 (Value.slice (some ⟨b, 0, none⟩) n c).ownBlock) : PF w g r cs W1 v1 u v3 l1 m l3 := by
  obtain ⟨cells, hc⟩ := Kd.R_typed h.r2 b rfl
  have hg' : W.grownBy W1 (some b) := hg
  refine ⟨hB, blk_grown h.box hg' (fun e => ?_), blk_grown h.res hg' (fun e => ?_), Kd.R_grown1 h.r1 rfl hg (Kd.R_ne h.r1 hc (by decide)), hR, Kd.R_grown1 h.r3 rfl hg (Kd.R_ne h.r3 hc (by decide))⟩
  · injection e with e
    have h1 := h.box
    rw [e, hc] at h1
    injection h1 with h1
    injection h1 with _ h1
    exact absurd h1 (by decide)
  · injection e with e
    have h1 := h.res
    rw [e, hc] at h1
    injection h1 with h1
    injection h1 with _ h1
    exact absurd h1 (by decide)
theorem PF.lit3 (h : PF w g r cs W v1 v2 v3 l1 l2 l3) (b : Nat) (hb : b = W.heap.size) : PF w g r cs (W.alloc (.cells #[] 3)) v1 v2 (.slice (some ⟨b, 0, none⟩) 0 0) l1 l2 [] := by
  subst hb
  have h' := h.alloc (.cells #[] 3)
  exact { h' with r3 := R_empty _ _ _ _ h.below.size }
theorem PF.lit3a (h : PF w g r cs W v1 v2 v3 l1 l2 l3) : PF w g r cs (W.alloc (.cells #[] 3)) v1 v2 (.slice (some ⟨W.heap.size, 0, none⟩) 0 0) l1 l2 [] := h.lit3 _ rfl
theorem PF.lit3b {o : Obj} (h : PF w g r cs (W.alloc o) v1 v2 v3 l1 l2 l3) : PF w g r cs ((W.alloc o).alloc (.cells #[] 3)) v1 v2 (.slice (some ⟨W.heap.size + 1, 0, none⟩) 0 0) l1 l2 [] := h.lit3 _ (by simp)
theorem PF.lit3c {o o' : Obj} (h : PF w g r cs ((W.alloc o).alloc o') v1 v2 v3 l1 l2 l3) : PF w g r cs (((W.alloc o).alloc o').alloc (.cells #[] 3)) v1 v2 (.slice (some ⟨W.heap.size + 1 + 1, 0, none⟩) 0 0) l1 l2 [] := h.lit3 _ (by simp)
theorem PF.app3 {b n c : Nat} {u : Value} {m : List Int} (h : PF w g r cs W v1 v2 (.slice (some ⟨b, 0, none⟩) n c) l1 l2 l3) (hR : (Kd.int .i64).R 3 W1 w.heap.size (fun _ => True) u m) (hB : Below w.heap.size w W1) (hg : W.grownBy W1 (Value.slice (some ⟨b, 0, none⟩) n c).ownBlock) : PF w g r cs W1 v1 v2 u l1 l2 m := by
  obtain ⟨cells, hc⟩ := Kd.R_typed h.r3 b rfl
  have hg' : W.grownBy W1 (some b) := hg
  refine ⟨hB, blk_grown h.box hg' (fun e => ?_), blk_grown h.res hg' (fun e => ?_), Kd.R_grown1 h.r1 rfl hg (Kd.R_ne h.r1 hc (by decide)), Kd.R_grown1 h.r2 rfl hg (Kd.R_ne h.r2 hc (by decide)), hR⟩
  · injection e with e
    have h1 := h.box
    rw [e, hc] at h1
    injection h1 with h1
    injection h1 with _ h1
    exact absurd h1 (by decide)
  · injection e with e
    have h1 := h.res
    rw [e, hc] at h1
    injection h1 with h1
    injection h1 with _ h1
    exact absurd h1 (by decide)
theorem PF.step1 {ops : Array Oper} {o : Oper} {a : Act} {Q : Exit → Act → World → Prop} {Kc : Act → World → Prop} {b : Nat} {A : Option Addr} {c : Nat} {l : List Int} (s x : Operand) (h : PF w g r cs W (.slice (some ⟨b, 0, none⟩) 0 0) v2 v3 [] l2 l3) (hw : Region.wanted o (yielded ops a.tmps) = true)
    (ho : o.op = .call { callee := .builtin .append, args := #[s, x], argTypes := #[49, 49] }) (hs : a.eval s = .slice (some ⟨b, 0, none⟩) 0 0) (hx : a.eval x = .slice A l.length c) (hC : (Kd.int .i64).C w A l.length l) (hl : l.length ≤ 1000000)
    (hK : ∀ B d W1, PF w g r cs W1 (.slice B l.length d) v2 v3 l l2 l3 → Kc (a.put o.dst (.slice B l.length d)) W1) : if Region.wanted o (yielded ops a.tmps) = true then Oper.wp Tryd.prog o a W Kc Q else Kc (a.put o.dst undef) W := by
  refine Kd.R_append_rows_step (Kd.int .i64) (Rr := fun x cs => cs = [.int .i64 x]) (w0 := w) w.heap.size hw s x 49 2 (.int .i64 0) 8 ho Tryd.underlying49 info_i64 rfl (by decide) (by omega) _ [] l A l.length c (fun _ => True) (fun _ => False) hs hx h.r1 (Kd.C_below hC h.below) (fun _ _ h => h) (fun _ h => h.elim) (fun _ _ => trivial) h.below h.below.size (by simp; omega) ?_
  intro u W1 hR hB hg _
  obtain ⟨B, d, rfl⟩ := Kd.R_slice hR
  exact hK B d W1 (h.app1 hR hB hg)
theorem PF.step2 {ops : Array Oper} {o : Oper} {a : Act} {Q : Exit → Act → World → Prop} {Kc : Act → World → Prop} {b : Nat} {A : Option Addr} {c : Nat} {l : List ByteArray} (s x : Operand) (h : PF w g r cs W v1 (.slice (some ⟨b, 0, none⟩) 0 0) v3 l1 [] l3) (hw : Region.wanted o (yielded ops a.tmps) = true)
    (ho : o.op = .call { callee := .builtin .append, args := #[s, x], argTypes := #[50, 50] }) (hs : a.eval s = .slice (some ⟨b, 0, none⟩) 0 0) (hx : a.eval x = .slice A l.length c) (hC : Kd.string.C w A l.length l) (hl : l.length ≤ 1000000)
    (hK : ∀ B d W1, PF w g r cs W1 v1 (.slice B l.length d) v3 l1 l l3 → Kc (a.put o.dst (.slice B l.length d)) W1) : if Region.wanted o (yielded ops a.tmps) = true then Oper.wp Tryd.prog o a W Kc Q else Kc (a.put o.dst undef) W := by
  refine Kd.R_append_rows_step Kd.string (Rr := fun x cs => cs = [.string x]) (w0 := w) w.heap.size hw s x 50 9 (.string ByteArray.empty) 16 ho Tryd.underlying50 info_str rfl (by decide) (by omega) _ [] l A l.length c (fun _ => True) (fun _ => False) hs hx h.r2 (Kd.C_below hC h.below) (fun _ _ h => h) (fun _ h => h.elim) (fun _ _ => trivial) h.below h.below.size (by simp; omega) ?_
  intro u W1 hR hB hg _
  obtain ⟨B, d, rfl⟩ := Kd.R_slice hR
  exact hK B d W1 (h.app2 hR hB hg)
theorem PF.step3 {ops : Array Oper} {o : Oper} {a : Act} {Q : Exit → Act → World → Prop} {Kc : Act → World → Prop} {b : Nat} {A : Option Addr} {c : Nat} {l : List Int} (s x : Operand) (h : PF w g r cs W v1 v2 (.slice (some ⟨b, 0, none⟩) 0 0) l1 l2 []) (hw : Region.wanted o (yielded ops a.tmps) = true)
    (ho : o.op = .call { callee := .builtin .append, args := #[s, x], argTypes := #[31, 31] }) (hs : a.eval s = .slice (some ⟨b, 0, none⟩) 0 0) (hx : a.eval x = .slice A l.length c) (hC : (Kd.int .i64).C w A l.length l) (hl : l.length ≤ 1000000)
    (hK : ∀ B d W1, PF w g r cs W1 v1 v2 (.slice B l.length d) l1 l2 l → Kc (a.put o.dst (.slice B l.length d)) W1) : if Region.wanted o (yielded ops a.tmps) = true then Oper.wp Tryd.prog o a W Kc Q else Kc (a.put o.dst undef) W := by
  refine Kd.R_append_rows_step (Kd.int .i64) (Rr := fun x cs => cs = [.int .i64 x]) (w0 := w) w.heap.size hw s x 31 3 (.int .i64 0) 8 ho Tryd.underlying31 info_int rfl (by decide) (by omega) _ [] l A l.length c (fun _ => True) (fun _ => False) hs hx h.r3 (Kd.C_below hC h.below) (fun _ _ h => h) (fun _ h => h.elim) (fun _ _ => trivial) h.below h.below.size (by simp; omega) ?_
  intro u W1 hR hB hg _
  obtain ⟨B, d, rfl⟩ := Kd.R_slice hR
  exact hK B d W1 (h.app3 hR hB hg)
theorem PF.done {n : Node} (h : PF w g r cs W v1 v2 v3 n.ints n.texts n.kids) (hr : w.heap.size ≤ r) :
    kNode.M ((((W.setCell ⟨r, 0, none⟩ (.int .i64 n.kind)).setCell ⟨r, 1, none⟩ v1).setCell ⟨r, 2, none⟩ v2).setCell ⟨r, 3, none⟩ v3) w.heap.size (fun _ => True) n [.int .i64 n.kind, v1, v2, v3] ∧
    Below w.heap.size w ((((W.setCell ⟨r, 0, none⟩ (.int .i64 n.kind)).setCell ⟨r, 1, none⟩ v1).setCell ⟨r, 2, none⟩ v2).setCell ⟨r, 3, none⟩ v3) := by
  have hb0 := h.res
  have hb1 := blk_set hb0 0 (.int .i64 n.kind)
  have hb2 := blk_set hb1 1 v1
  have hb3 := blk_set hb2 2 v2
  refine ⟨kNode_mkM ?_ ?_ ?_, below_set4 h.below hr⟩
  · exact Kd.R_set (Kd.R_set (Kd.R_set (Kd.R_set h.r1 hb0 (by decide) _ _) hb1 (by decide) _ _) hb2 (by decide) _ _) hb3 (by decide) _ _
  · exact Kd.R_set (Kd.R_set (Kd.R_set (Kd.R_set h.r2 hb0 (by decide) _ _) hb1 (by decide) _ _) hb2 (by decide) _ _) hb3 (by decide) _ _
  · exact Kd.R_set (Kd.R_set (Kd.R_set (Kd.R_set h.r3 hb0 (by decide) _ _) hb1 (by decide) _ _) hb2 (by decide) _ _) hb3 (by decide) _ _
end
set_option maxRecDepth 100000 in
set_option maxHeartbeats 4000000 in
theorem rcopy_any (n : Node) (A1 : Option Addr) (c1 : Nat) (A2 : Option Addr) (c2 : Nat) (A3 : Option Addr) (c3 : Nat) (w : World) (h : NodeC w n A1 c1 A2 c2 A3 c3) (hs : Small n) :
    Calls Tryd.prog 39 #[.agg #[.int .i64 n.kind, .slice A1 n.ints.length c1, .slice A2 n.texts.length c2, .slice A3 n.kids.length c3]] w (CopyPost n w) := by
  have HN := Aside0.mk h
  have HS := Aside0.mk hs
  have HP : Aside0 (PF w w.heap.size (w.heap.size + 1) #[.int .i64 n.kind, .slice A1 n.ints.length c1, .slice A2 n.texts.length c2, .slice A3 n.kids.length c3] ((w.alloc (.cells #[.int .i64 n.kind, .slice A1 n.ints.length c1, .slice A2 n.texts.length c2, .slice A3 n.kids.length c3] 52)).alloc (.cells #[.int .i64 0, .slice none 0 0, .slice none 0 0, .slice none 0 0] 52)) (.slice none 0 0) (.slice none 0 0) (.slice none 0 0) [] [] []) := ⟨by
    have b1 := below_alloc (Below.refl w.heap.size w) (.cells #[.int .i64 n.kind, .slice A1 n.ints.length c1, .slice A2 n.texts.length c2, .slice A3 n.kids.length c3] 52)
    have n1 := heap_alloc_new w (.cells #[.int .i64 n.kind, .slice A1 n.ints.length c1, .slice A2 n.texts.length c2, .slice A3 n.kids.length c3] 52)
    generalize hw1 : w.alloc (.cells #[.int .i64 n.kind, .slice A1 n.ints.length c1, .slice A2 n.texts.length c2, .slice A3 n.kids.length c3] 52) = W1 at b1 n1 ⊢
    have s1 : W1.heap.size = w.heap.size + 1 := by rw [← hw1]; simp
    have b2 := below_alloc (Below.refl W1.heap.size W1) (.cells #[.int .i64 0, .slice none 0 0, .slice none 0 0, .slice none 0 0] 52)
    have n2 := heap_alloc_new W1 (.cells #[.int .i64 0, .slice none 0 0, .slice none 0 0, .slice none 0 0] 52)
    rw [s1] at n2
    exact ⟨below_step b1 b2, (b2.block _ (by omega)).trans n1, n2, Kd.R_nil _ _ _ _ _, Kd.R_nil _ _ _ _ _, Kd.R_nil _ _ _ _ _⟩⟩
  have hu := Tryd.underlying52
  clear h hs
  have hL0 := fun (W : World) (h : Lives 4 (w.heap.size + 1) W) => h.at 0 (by omega)
  have hL1 := fun (W : World) (h : Lives 4 (w.heap.size + 1) W) => h.at 1 (by omega)
  have hL2 := fun (W : World) (h : Lives 4 (w.heap.size + 1) W) => h.at 2 (by omega)
  have hL3 := fun (W : World) (h : Lives 4 (w.heap.size + 1) W) => h.at 3 (by omega)
  go_enter Tryd.func39, Tryd.ntmps39
  go_wp2_with fail
  generalize (w.alloc (.cells #[.int .i64 n.kind, .slice A1 n.ints.length c1, .slice A2 n.texts.length c2, .slice A3 n.kids.length c3] 52)).alloc (.cells #[.int .i64 0, .slice none 0 0, .slice none 0 0, .slice none 0 0] 52) = W0 at HP ⊢
  go_region_held3 (fun W => W.cell? ⟨w.heap.size, 0, none⟩ = some (.int .i64 n.kind) ∧ W.cell? ⟨w.heap.size, 1, none⟩ = some (.slice A1 n.ints.length c1) ∧ W.cell? ⟨w.heap.size, 2, none⟩ = some (.slice A2 n.texts.length c2) ∧ W.cell? ⟨w.heap.size, 3, none⟩ = some (.slice A3 n.kids.length c3) ∧ Lives 4 (w.heap.size + 1) W)
    (first
      | (go_split_ands
         refine ⟨?_, ?_, ?_, ?_, ?_⟩
         all_goals first
           | with_reducible exact HP.out.cell _ rfl
           | with_reducible exact HP.out.lives
           | with_reducible exact HP.out.drew.cell _ rfl
           | with_reducible exact HP.out.drew.lives
           | with_reducible exact (HP.out.alloc _).cell _ rfl
           | with_reducible exact (HP.out.alloc _).lives
           | with_reducible exact (HP.out.alloc _).drew.cell _ rfl
           | with_reducible exact (HP.out.alloc _).drew.lives
           | with_reducible exact ((HP.out.alloc _).alloc _).cell _ rfl
           | with_reducible exact ((HP.out.alloc _).alloc _).lives
           | with_reducible exact ((HP.out.alloc _).alloc _).drew.cell _ rfl
           | with_reducible exact ((HP.out.alloc _).alloc _).drew.lives
           | with_reducible exact (((HP.out.alloc _).alloc _).alloc _).cell _ rfl
           | with_reducible exact (((HP.out.alloc _).alloc _).alloc _).lives
           | with_reducible exact (((HP.out.alloc _).alloc _).alloc _).drew.cell _ rfl
           | with_reducible exact (((HP.out.alloc _).alloc _).alloc _).drew.lives
           | with_reducible exact far_set (far_set (far_set (far_set (by assumption) _ _ (by simp) _) _ _ (by simp) _) _ _ (by simp) _) _ _ (by simp) _
           | with_reducible exact Lives.set (Lives.set (Lives.set (Lives.set (by assumption) _ _) _ _) _ _) _ _
           | (simp; done)))
    (first
      | (refine' PF.step1 (.tmp 5) (.tmp 7) ?hP ?hw ?ho ?hs ?hx HN.out.i HS.out.1 ?_; (case hw => rfl); (case ho => rfl); (case hs => rfl); (case hx => rfl); (case hP => first | with_reducible exact HP.out | with_reducible exact (HP.out).drew | with_reducible exact HP.out.lit1a | with_reducible exact (HP.out.lit1a).drew | with_reducible exact HP.out.lit2a | with_reducible exact (HP.out.lit2a).drew | with_reducible exact HP.out.lit3a | with_reducible exact (HP.out.lit3a).drew | with_reducible exact HP.out.lit1a.lit2b | with_reducible exact (HP.out.lit1a.lit2b).drew | with_reducible exact HP.out.lit1a.lit3b | with_reducible exact (HP.out.lit1a.lit3b).drew | with_reducible exact HP.out.lit2a.lit1b | with_reducible exact (HP.out.lit2a.lit1b).drew | with_reducible exact HP.out.lit2a.lit3b | with_reducible exact (HP.out.lit2a.lit3b).drew | with_reducible exact HP.out.lit3a.lit1b | with_reducible exact (HP.out.lit3a.lit1b).drew | with_reducible exact HP.out.lit3a.lit2b | with_reducible exact (HP.out.lit3a.lit2b).drew | with_reducible exact HP.out.lit1a.lit2b.lit3c | with_reducible exact (HP.out.lit1a.lit2b.lit3c).drew | with_reducible exact HP.out.lit1a.lit3b.lit2c | with_reducible exact (HP.out.lit1a.lit3b.lit2c).drew | with_reducible exact HP.out.lit2a.lit1b.lit3c | with_reducible exact (HP.out.lit2a.lit1b.lit3c).drew | with_reducible exact HP.out.lit2a.lit3b.lit1c | with_reducible exact (HP.out.lit2a.lit3b.lit1c).drew | with_reducible exact HP.out.lit3a.lit1b.lit2c | with_reducible exact (HP.out.lit3a.lit1b.lit2c).drew | with_reducible exact HP.out.lit3a.lit2b.lit1c | with_reducible exact (HP.out.lit3a.lit2b.lit1c).drew); intro B1 d1 w1 hP; replace HP := Aside0.mk hP; clear hP)
      | (refine' PF.step2 (.tmp 9) (.tmp 11) ?hP ?hw ?ho ?hs ?hx HN.out.t HS.out.2.1 ?_; (case hw => rfl); (case ho => rfl); (case hs => rfl); (case hx => rfl); (case hP => first | with_reducible exact HP.out | with_reducible exact (HP.out).drew | with_reducible exact HP.out.lit1a | with_reducible exact (HP.out.lit1a).drew | with_reducible exact HP.out.lit2a | with_reducible exact (HP.out.lit2a).drew | with_reducible exact HP.out.lit3a | with_reducible exact (HP.out.lit3a).drew | with_reducible exact HP.out.lit1a.lit2b | with_reducible exact (HP.out.lit1a.lit2b).drew | with_reducible exact HP.out.lit1a.lit3b | with_reducible exact (HP.out.lit1a.lit3b).drew | with_reducible exact HP.out.lit2a.lit1b | with_reducible exact (HP.out.lit2a.lit1b).drew | with_reducible exact HP.out.lit2a.lit3b | with_reducible exact (HP.out.lit2a.lit3b).drew | with_reducible exact HP.out.lit3a.lit1b | with_reducible exact (HP.out.lit3a.lit1b).drew | with_reducible exact HP.out.lit3a.lit2b | with_reducible exact (HP.out.lit3a.lit2b).drew | with_reducible exact HP.out.lit1a.lit2b.lit3c | with_reducible exact (HP.out.lit1a.lit2b.lit3c).drew | with_reducible exact HP.out.lit1a.lit3b.lit2c | with_reducible exact (HP.out.lit1a.lit3b.lit2c).drew | with_reducible exact HP.out.lit2a.lit1b.lit3c | with_reducible exact (HP.out.lit2a.lit1b.lit3c).drew | with_reducible exact HP.out.lit2a.lit3b.lit1c | with_reducible exact (HP.out.lit2a.lit3b.lit1c).drew | with_reducible exact HP.out.lit3a.lit1b.lit2c | with_reducible exact (HP.out.lit3a.lit1b.lit2c).drew | with_reducible exact HP.out.lit3a.lit2b.lit1c | with_reducible exact (HP.out.lit3a.lit2b.lit1c).drew); intro B2 d2 w2 hP; replace HP := Aside0.mk hP; clear hP)
      | (refine' PF.step3 (.tmp 13) (.tmp 15) ?hP ?hw ?ho ?hs ?hx HN.out.k HS.out.2.2 ?_; (case hw => rfl); (case ho => rfl); (case hs => rfl); (case hx => rfl); (case hP => first | with_reducible exact HP.out | with_reducible exact (HP.out).drew | with_reducible exact HP.out.lit1a | with_reducible exact (HP.out.lit1a).drew | with_reducible exact HP.out.lit2a | with_reducible exact (HP.out.lit2a).drew | with_reducible exact HP.out.lit3a | with_reducible exact (HP.out.lit3a).drew | with_reducible exact HP.out.lit1a.lit2b | with_reducible exact (HP.out.lit1a.lit2b).drew | with_reducible exact HP.out.lit1a.lit3b | with_reducible exact (HP.out.lit1a.lit3b).drew | with_reducible exact HP.out.lit2a.lit1b | with_reducible exact (HP.out.lit2a.lit1b).drew | with_reducible exact HP.out.lit2a.lit3b | with_reducible exact (HP.out.lit2a.lit3b).drew | with_reducible exact HP.out.lit3a.lit1b | with_reducible exact (HP.out.lit3a.lit1b).drew | with_reducible exact HP.out.lit3a.lit2b | with_reducible exact (HP.out.lit3a.lit2b).drew | with_reducible exact HP.out.lit1a.lit2b.lit3c | with_reducible exact (HP.out.lit1a.lit2b.lit3c).drew | with_reducible exact HP.out.lit1a.lit3b.lit2c | with_reducible exact (HP.out.lit1a.lit3b.lit2c).drew | with_reducible exact HP.out.lit2a.lit1b.lit3c | with_reducible exact (HP.out.lit2a.lit1b.lit3c).drew | with_reducible exact HP.out.lit2a.lit3b.lit1c | with_reducible exact (HP.out.lit2a.lit3b.lit1c).drew | with_reducible exact HP.out.lit3a.lit1b.lit2c | with_reducible exact (HP.out.lit3a.lit1b.lit2c).drew | with_reducible exact HP.out.lit3a.lit2b.lit1c | with_reducible exact (HP.out.lit3a.lit2b.lit1c).drew); intro B3 d3 w3 hP; replace HP := Aside0.mk hP; clear hP))
  all_goals
    clear hL0 hL1 hL2 hL3
    go_wp2
    have h4 := HP.out.lives.set4 (.int .i64 n.kind) (.slice B1 n.ints.length d1) (.slice B2 n.texts.length d2) (.slice B3 n.kids.length d3)
    obtain ⟨hM, hB⟩ := HP.out.done (n := n) (Nat.le_succ _)
    exact bodyPost_ret (v := .agg #[.int .i64 n.kind, .slice B1 n.ints.length d1, .slice B2 n.texts.length d2, .slice B3 n.kids.length d3]) (by simp [results, Tryd.results39, go_sem, h4]) rfl ⟨_, rfl, ⟨_, _, _, rfl, hM⟩, hB⟩
end Go.Proofs.YtdfneldenipljaaDoor.L
end
section
namespace Go.Proofs.YtdfneldenipljaaDoor.L
open Go.RowKit Go.ChangeShapes Go.WideShapes Go.Proofs.YtdfneldenipljaaDoorW.PrintWords Go.Proofs.YtdfneldenipljaaDoorW.PrintLast Go.Proofs.YtdfneldenipljaaDoorW.PrintMore
attribute [local go_sem] max2_int min2_int max_two min_two max_three min_three max_four min_four
def isPl (n : Nat) (k : Int) : Bool := decide (0 ≤ k ∧ k < (n : Int))
set_option maxRecDepth 100000 in
set_option maxHeartbeats 1000000 in
theorem place_any (A : Option Addr) (c n : Nat) (r k : Int) (w : World) :
    Calls Tryd.prog 43 #[.agg #[.slice A n c, .int .i64 r], .int .i64 k] w fun e w' => e = .returned (.bool (isPl n k)) ∧ Below w.heap.size w w' := by
  have HB := Aside0.mk (below_alloc (Below.refl w.heap.size w) (.cells #[.slice A n c, .int .i64 r] 34))
  have k0 := box_cell w _ rfl #[.slice A n c, .int .i64 r] 34 0 _ rfl
  have hu := Tryd.underlying34
  by_cases h0 : 0 ≤ k
  · by_cases h1 : k < (n : Int)
    · have HE : Aside0 (isPl n k = true) := ⟨decide_eq_true ⟨h0, h1⟩⟩
      have d0 : decide (0 ≤ k) = true := decide_eq_true h0
      have d1 : decide (k < (n : Int)) = true := decide_eq_true h1
      clear h0 h1
      go_enter Tryd.func43, Tryd.ntmps43
      go_wp2
      go_ret
      exact ⟨ret_bool HE.out.symm, HB.out⟩
    · have HE : Aside0 (isPl n k = false) := ⟨decide_eq_false (fun h => h1 h.2)⟩
      have d0 : decide (0 ≤ k) = true := decide_eq_true h0
      have d1 : decide (k < (n : Int)) = false := decide_eq_false h1
      clear h0 h1
      go_enter Tryd.func43, Tryd.ntmps43
      go_wp2
      go_ret
      exact ⟨ret_bool HE.out.symm, HB.out⟩
  · have HE : Aside0 (isPl n k = false) := ⟨decide_eq_false (fun h => h0 h.1)⟩
    have d0 : decide (0 ≤ k) = false := decide_eq_false h0
    clear h0
    go_enter Tryd.func43, Tryd.ntmps43
    go_wp2
    go_ret
    exact ⟨ret_bool HE.out.symm, HB.out⟩
end Go.Proofs.YtdfneldenipljaaDoor.L
end
section
namespace Go.Proofs.YtdfneldenipljaaDoor.L
open Go.RowKit Go.ChangeShapes Go.WideShapes Go.Proofs.YtdfneldenipljaaDoorW.PrintWords Go.Proofs.YtdfneldenipljaaDoorW.PrintLast Go.Proofs.YtdfneldenipljaaDoorW.PrintMore
attribute [local go_sem] max2_int min2_int max_two min_two max_three min_three max_four min_four
theorem isPl_no {n : Nat} {k : Int} : isPl n k = !noPlace n k := by
  unfold isPl noPlace
  by_cases h0 : 0 ≤ k
  · by_cases h1 : k < (n : Int)
    · rw [decide_eq_true (And.intro h0 h1), decide_eq_false (by omega : ¬ k < 0), decide_eq_false (by omega : ¬ (n : Int) ≤ k)]; rfl
    · rw [decide_eq_false (fun h => h1 h.2), decide_eq_false (by omega : ¬ k < 0), decide_eq_true (by omega : (n : Int) ≤ k)]; rfl
  · rw [decide_eq_false (fun h => h0 h.1), decide_eq_true (by omega : k < 0)]; rfl
set_option maxRecDepth 100000 in
set_option maxHeartbeats 4000000 in
theorem rrefs_any (A : Option Addr) (c : Nat) (s : Scene) (w : World) (h : kNode.C w A s.nodes.length s.nodes) :
    Calls Tryd.prog 44 #[.agg #[.slice A s.nodes.length c, .int .i64 s.root]] w fun e w' => e = .returned (.int .i64 (refsAt s.nodes)) ∧ Below w.heap.size w w' := by
  have HR := Aside0.mk h
  have b0 := h.2.1
  have HB := Aside0.mk (below_alloc (Below.refl w.heap.size w) (.cells #[.slice A s.nodes.length c, .int .i64 s.root] 34))
  have k0 := box_cell w _ rfl #[.slice A s.nodes.length c, .int .i64 s.root] 34 0 _ rfl
  have k1 := box_cell w _ rfl #[.slice A s.nodes.length c, .int .i64 s.root] 34 1 _ rfl
  have HK := Aside0.mk (And.intro HB.out (And.intro k0 k1))
  have hu := Tryd.underlying34
  have hun := Tryd.underlying52
  clear h
  go_enter Tryd.func44, Tryd.ntmps44
  go_wp2
  clear k0 k1
  go_loopw [3] (fun v3 W => ∃ i : Nat, i ≤ s.nodes.length ∧ v3 = .int .i64 i ∧ Aside0 (∀ j, j < i → kidsBad s.nodes.length (nd s.nodes j).kids = false) ∧ Aside0 (Below w.heap.size w W ∧ W.cell? ⟨w.heap.size, 0, none⟩ = some (.slice A s.nodes.length c) ∧ W.cell? ⟨w.heap.size, 1, none⟩ = some (.int .i64 s.root))) (fun v3 _ => s.nodes.length - (intOf v3).toNat)
  case atStart => exact ⟨0, by omega, rfl, ⟨fun j h => by omega⟩, HK⟩
  case round =>
    clear HK
    obtain ⟨i, hi, rfl, HJ, HK⟩ := hrel
    have k0 := HK.out.2.1
    by_cases hlt : i < s.nodes.length
    · obtain ⟨adn, A1, c1, A2, c2, A3, c3, rfl, y0, y1, y2, y3, hN⟩ := at_node HR.out i hlt
      have HN := Aside0.mk hN.k
      have HY := Aside0.mk y3
      have b3 := hN.k.2.1
      clear hN y0 y1 y2 y3
      go_wp2
      go_loopw [4] (fun v4 W => ∃ j : Nat, j ≤ (nd s.nodes i).kids.length ∧ v4 = .int .i64 j ∧ Aside0 (∀ q, q < j → noPlace s.nodes.length (rd (nd s.nodes i).kids (q : Int)) = false) ∧ Aside0 (Below w.heap.size w W ∧ W.cell? ⟨w.heap.size, 0, none⟩ = some (.slice (some adn) s.nodes.length c) ∧ W.cell? ⟨w.heap.size, 1, none⟩ = some (.int .i64 s.root))) (fun v4 _ => (nd s.nodes i).kids.length - (intOf v4).toNat)
      case atStart => exact ⟨0, by omega, rfl, ⟨fun j h => by omega⟩, HK⟩
      case round =>
        clear HK k0
        obtain ⟨j, hj, rfl, HQ, HK⟩ := hrel
        have k0 := HK.out.2.1
        have k1 := HK.out.2.2
        have x3 := pw_cell_below HK.out.1 HY.out
        by_cases hjl : j < (nd s.nodes i).kids.length
        · obtain ⟨adk, rfl, xk⟩ := at_nat (Kd.C_below HN.out HK.out.1) j hjl
          go_wp2
          go_region_held3 (fun W => W.cell? ⟨w.heap.size, 0, none⟩ = some (.slice (some adn) s.nodes.length c) ∧ W.cell? ⟨w.heap.size, 1, none⟩ = some (.int .i64 s.root) ∧ W.cell? ⟨(adn.add (i * 4)).block, (adn.add (i * 4)).off + 3, none⟩ = some (.slice (some adk) (nd s.nodes i).kids.length c3) ∧ W.cell? (adk.add j) = some (.int .i64 (rd (nd s.nodes i).kids (j : Int))))
            (first
              | (go_split_ands
                 refine ⟨?_, ?_, ?_, ?_⟩
                 all_goals first
                   | with_reducible assumption
                   | with_reducible exact pw_cell_below hB (by assumption)
                   | (simp [*]; done)))
            (first
              | (go_at_call 43; refine (place_any (some adn) c s.nodes.length s.root (rd (nd s.nodes i).kids (j : Int)) _).mono ?_; rintro e w2 ⟨rfl, hB2⟩; have hB := hB2))
          have HK2 := Aside0.mk (And.intro (below_step (below_drew HK.out.1) hB2) (And.intro (pw_cell_below hB2 (show wr.drew.cell? _ = _ from k0)) (pw_cell_below hB2 (show wr.drew.cell? _ = _ from k1))))
          rw [isPl_no]
          clear k0 k1 x3 xk
          cases hp : noPlace s.nodes.length (rd (nd s.nodes i).kids (j : Int)) with
          | true =>
            have HE : Aside0 (refsAt s.nodes = (i : Int)) := ⟨by unfold refsAt; rw [refsFrom_at s.nodes 0 i hlt HJ.out (kidsBad_at hjl hp)]; simp⟩
            clear hp
            go_wp2
            go_ret
            exact ⟨ret_int HE.out.symm, HK2.out.1⟩
          | false =>
            have HQ2 := Aside0.mk (ext_lt HQ.out hp)
            clear hp
            go_wp2
            go_roundw
            case rel => exact ⟨j + 1, by omega, by go_num, HQ2, HK2⟩
            case measure => simp [intOf]; omega
        · obtain rfl : j = (nd s.nodes i).kids.length := by omega
          have HJ2 := Aside0.mk (ext_lt HJ.out (kidsBad_no (Nat.le_refl _) HQ.out))
          go_wp2
          go_roundw
          case rel => exact ⟨i + 1, by omega, by go_num, HJ2, HK⟩
          case measure => simp [intOf]; omega
    · obtain rfl : i = s.nodes.length := by omega
      have HE : Aside0 (refsAt s.nodes = -1) := ⟨refsFrom_no s.nodes 0 HJ.out⟩
      go_wp2
      go_ret
      exact ⟨ret_int HE.out.symm, HK.out.1⟩
end Go.Proofs.YtdfneldenipljaaDoor.L
end
section
-- PRINTED BY print.sh 35421559b90ae4d0a3588c463048766b98c2df88dd9212a6774a882060cdf62d: not written by this session
namespace Go.Proofs.YtdfneldenipljaaDoor.PClassNumbers
open Go.RowKit Go.Proofs.YtdfneldenipljaaDoorW.PrintWords Go.Proofs.YtdfneldenipljaaDoorW.PrintLast Go.Proofs.YtdfneldenipljaaDoorW.PrintMore
attribute [local go_sem] max2_int min2_int max_two min_two max_three min_three max_four min_four   -- for this text's walks alone
set_option linter.unusedVariables false
set_option linter.unusedSimpArgs false
def errW : Option Int → Value
  | none => .nilIface
  | some c => .iface 0 (.int .i64 c)
theorem errW_none : errW none = .nilIface := rfl
theorem errW_some (c : Int) : errW (some c) = .iface 0 (.int .i64 c) := rfl

theorem info3 : (Tryd.prog.info? 3).map (fun i => (i.zero, i.size, i.bytes)) = some (some (.int .i64 0), 1, 8) := by kernel_rfl
theorem info4 : (Tryd.prog.info? 4).map (fun i => (i.zero, i.size, i.bytes)) = some (some (.bool false), 1, 1) := by kernel_rfl
structure S52 where
  f0 : Int
  f1 : (List Int)
  f2 : (List ByteArray)
  f3 : (List Int)
def z52 : S52 := ⟨(0 : Int), ([] : List Int), ([] : List ByteArray), ([] : List Int)⟩
def k52 : Kd S52 := Kd.iso (Kd.pair (Kd.int .i64) (Kd.pair (Kd.slice 2 (Kd.int .i64)) (Kd.pair (Kd.slice 9 Kd.string) (Kd.slice 3 (Kd.int .i64))))) (fun x : S52 => (x.f0, x.f1, x.f2, x.f3))
theorem k52_open {w : World} {x : S52} {cs : List Value} (h : k52.K w x cs) : ∃ A1 c1 A2 c2 A3 c3, cs = [.int .i64 x.f0, .slice A1 x.f1.length c1, .slice A2 x.f2.length c2, .slice A3 x.f3.length c3] ∧ x.f1.length ≤ c1 ∧ (Kd.int .i64).C w A1 x.f1.length x.f1 ∧ x.f2.length ≤ c2 ∧ Kd.string.C w A2 x.f2.length x.f2 ∧ x.f3.length ≤ c3 ∧ (Kd.int .i64).C w A3 x.f3.length x.f3 := by
  obtain ⟨_, _, rfl, rfl, ⟨_, _, rfl, ⟨A1, c1, rfl, l1, g1⟩, ⟨_, _, rfl, ⟨A2, c2, rfl, l2, g2⟩, ⟨A3, c3, rfl, l3, g3⟩⟩⟩⟩ := h
  exact ⟨A1, c1, A2, c2, A3, c3, rfl, l1, g1, l2, g2, l3, g3⟩
def rd_T52 (xs : List S52) (i : Int) : S52 := xs.getD i.toNat z52
theorem at_T52 {w : World} {A : Option Addr} {n : Nat} {xs : List S52} (h : Kd.C k52 w A n xs) (i : Int) (h0 : 0 ≤ i) (h1 : i < n) : ∃ ad A1 c1 A2 c2 A3 c3, A = some ad ∧ w.cell? (ad.add (i.toNat * 4)) = some (.int .i64 (rd_T52 xs i).f0) ∧ w.cell? ⟨(ad.add (i.toNat * 4)).block, (ad.add (i.toNat * 4)).off + 1, none⟩ = some (.slice A1 (rd_T52 xs i).f1.length c1) ∧ w.cell? ⟨(ad.add (i.toNat * 4)).block, (ad.add (i.toNat * 4)).off + 2, none⟩ = some (.slice A2 (rd_T52 xs i).f2.length c2) ∧ w.cell? ⟨(ad.add (i.toNat * 4)).block, (ad.add (i.toNat * 4)).off + 3, none⟩ = some (.slice A3 (rd_T52 xs i).f3.length c3) ∧ (rd_T52 xs i).f1.length ≤ c1 ∧ (Kd.int .i64).C w A1 (rd_T52 xs i).f1.length (rd_T52 xs i).f1 ∧ (rd_T52 xs i).f2.length ≤ c2 ∧ Kd.string.C w A2 (rd_T52 xs i).f2.length (rd_T52 xs i).f2 ∧ (rd_T52 xs i).f3.length ≤ c3 ∧ (Kd.int .i64).C w A3 (rd_T52 xs i).f3.length (rd_T52 xs i).f3 := by
  obtain ⟨ad, c, e, _, hK, hc0⟩ := Kd.C_get h z52 i h0 h1
  have hc : ∀ j u, c[j]? = some u → w.cell? (ad.add (i.toNat * 4 + j)) = some u := hc0
  obtain ⟨A1, c1, A2, c2, A3, c3, rfl, l1, g1, l2, g2, l3, g3⟩ := k52_open hK
  exact ⟨ad, A1, c1, A2, c2, A3, c3, e, hc 0 _ rfl, by rw [← add_field _ _ 1 (by omega)]; exact hc 1 _ rfl, by rw [← add_field _ _ 2 (by omega)]; exact hc 2 _ rfl, by rw [← add_field _ _ 3 (by omega)]; exact hc 3 _ rfl, l1, g1, l2, g2, l3, g3⟩

end Go.Proofs.YtdfneldenipljaaDoor.PClassNumbers
end
section
namespace Go.Proofs.YtdfneldenipljaaDoor.L
open Go.RowKit Go.ChangeShapes Go.WideShapes Go.Proofs.YtdfneldenipljaaDoorW.PrintWords Go.Proofs.YtdfneldenipljaaDoorW.PrintLast Go.Proofs.YtdfneldenipljaaDoorW.PrintMore
attribute [local go_sem] max2_int min2_int max_two min_two max_three min_three max_four min_four
open Go.Proofs.YtdfneldenipljaaDoor.PClassNumbers
def toS (n : Node) : S52 := ⟨n.kind, n.ints, n.texts, n.kids⟩
def ofS (x : S52) : Node := ⟨x.f0, x.f1, x.f2, x.f3⟩
theorem of_to (n : Node) : ofS (toS n) = n := rfl
theorem map_of_to (ns : List Node) : (ns.map toS).map ofS = ns := by
  rw [List.map_map]
  exact (List.map_congr_left (fun x _ => of_to x)).trans (List.map_id _)
theorem C_to {w : World} {A : Option Addr} {n : Nat} {ns : List Node} (h : kNode.C w A n ns) : k52.C w A n (ns.map toS) := by
  refine ⟨by rw [List.length_map]; exact h.1, h.2.1, fun hp => ?_⟩
  obtain ⟨ad, ha, hc⟩ := h.2.2 hp
  refine ⟨ad, ha, fun j p hj => ?_⟩
  rw [List.getElem?_map] at hj
  obtain ⟨x, hx, rfl⟩ := Option.map_eq_some_iff.1 hj
  exact hc j x hx
theorem C_of {w : World} {A : Option Addr} {n : Nat} {xs : List S52} (h : k52.C w A n xs) : kNode.C w A n (xs.map ofS) := by
  refine ⟨by rw [List.length_map]; exact h.1, h.2.1, fun hp => ?_⟩
  obtain ⟨ad, ha, hc⟩ := h.2.2 hp
  refine ⟨ad, ha, fun j p hj => ?_⟩
  rw [List.getElem?_map] at hj
  obtain ⟨x, hx, rfl⟩ := Option.map_eq_some_iff.1 hj
  exact hc j x hx
theorem rd_to (ns : List Node) (i : Int) : rd_T52 (ns.map toS) i = toS (nd ns i.toNat) := by
  unfold rd_T52 nd
  rw [List.getD_eq_getElem?_getD, List.getD_eq_getElem?_getD, List.getElem?_map]
  cases ns[i.toNat]? <;> rfl
theorem kids_to (ns : List Node) (i : Int) : (rd_T52 (ns.map toS) i).f3 = kids ns i := by rw [rd_to]; rfl
end Go.Proofs.YtdfneldenipljaaDoor.L
end
section
namespace Go.Proofs.YtdfneldenipljaaDoor.L
open Go.RowKit Go.ChangeShapes Go.WideShapes Go.Proofs.YtdfneldenipljaaDoorW.PrintWords Go.Proofs.YtdfneldenipljaaDoorW.PrintLast Go.Proofs.YtdfneldenipljaaDoorW.PrintMore
attribute [local go_sem] max2_int min2_int max_two min_two max_three min_three max_four min_four
open Go.Proofs.YtdfneldenipljaaDoor.PClassNumbers
theorem C_len {w : World} {A : Option Addr} {xs : List S52} (h : k52.C w A xs.length xs) : kNode.C w A (xs.map ofS).length (xs.map ofS) := by rw [List.length_map]; exact C_of h
def _root_.Go.Proofs.YtdfneldenipljaaDoor.PClassNumbers.dioramaref09_Place.f (xs : List S52) (_ : Int) (a : Int) : Option Bool := some (isPl xs.length a)
def _root_.Go.Proofs.YtdfneldenipljaaDoor.PClassNumbers.dioramaref09_Refs.f (_ : Nat) (xs : List S52) (_ : Int) : Option Int := some (refsAt (xs.map ofS))
theorem _root_.Go.Proofs.YtdfneldenipljaaDoor.PClassNumbers.dioramaref09_Refs.mono : ∀ a0 a1 k, LeO (dioramaref09_Refs.f k a0 a1) (dioramaref09_Refs.f (k + 1) a0 a1) := fun _ _ _ => LeO.refl _
theorem _root_.Go.Proofs.YtdfneldenipljaaDoor.PClassNumbers.dioramaref09_Place.calls (A0_0 : Option Addr) (c0_0 : Nat) (l0_0 : List S52) (a0_1 : Int) (a1 : Int) (r : Bool) (w : World) (hr0_0 : Kd.C k52 w A0_0 l0_0.length l0_0) (hc0_0 : l0_0.length ≤ c0_0) (h : dioramaref09_Place.f l0_0 a0_1 a1 = some r) :
    Calls Tryd.prog 43 #[.agg #[.slice A0_0 l0_0.length c0_0, .int .i64 a0_1], .int .i64 a1] w fun e w' => e = .returned (.bool r) ∧ Below w.heap.size w w' := by
  obtain rfl := Option.some.inj h
  exact place_any A0_0 c0_0 l0_0.length a0_1 a1 w
theorem _root_.Go.Proofs.YtdfneldenipljaaDoor.PClassNumbers.dioramaref09_Refs.calls (k : Nat) (A0_0 : Option Addr) (c0_0 : Nat) (l0_0 : List S52) (a0_1 : Int) (r : Int) (w : World) (hr0_0 : Kd.C k52 w A0_0 l0_0.length l0_0) (hc0_0 : l0_0.length ≤ c0_0) (h : dioramaref09_Refs.f k l0_0 a0_1 = some r) :
    Calls Tryd.prog 44 #[.agg #[.slice A0_0 l0_0.length c0_0, .int .i64 a0_1]] w fun e w' => e = .returned (.int .i64 r) ∧ Below w.heap.size w w' := by
  obtain rfl := Option.some.inj h
  have := rrefs_any A0_0 c0_0 ⟨l0_0.map ofS, a0_1⟩ w (C_len hr0_0)
  rw [show (Scene.mk (l0_0.map ofS) a0_1).nodes.length = l0_0.length from by simp] at this
  exact this
end Go.Proofs.YtdfneldenipljaaDoor.L
end
section
-- PRINTED BY print.sh 35421559b90ae4d0a3588c463048766b98c2df88dd9212a6774a882060cdf62d: not written by this session
namespace Go.Proofs.YtdfneldenipljaaDoor.PClassNumbers
open Go.RowKit Go.Proofs.YtdfneldenipljaaDoorW.PrintWords Go.Proofs.YtdfneldenipljaaDoorW.PrintLast Go.Proofs.YtdfneldenipljaaDoorW.PrintMore
attribute [local go_sem] max2_int min2_int max_two min_two max_three min_three max_four min_four   -- for this text's walks alone
set_option linter.unusedVariables false
set_option linter.unusedSimpArgs false
def dioramaref09_Led.l0 : Nat → List Bool → List Int → List (S52) → Int → Option (List Bool)
  | 0, _, _, _, _ => none
  | k + 1, x5, x6, x238000, x238001 => if (x6.length : Int) > 0 then (if 0 < (x6.length : Int) then (if 1 ≤ (x6.length : Int) then ((some (x6.drop (1 : Int).toNat : List Int)).bind fun y249 => (if 0 ≤ (rd x6 0) then (if (rd x6 0) < (x5.length : Int) then (if (rdOf false x5 (rd x6 0) = true) then (dioramaref09_Led.l0 k x5 y249 x238000 x238001) else ((some (([] : List Int) : List Int)).bind fun y254 => (if y254.length + y249.length < 17592186044416 then ((some (y254 ++ y249 : List Int)).bind fun y257 => (if (rd x6 0) < (x238000.length : Int) then (if y257.length + ((rd_T52 x238000 (rd x6 0)).f3).length < 17592186044416 then (dioramaref09_Led.l0 k (x5.set ((rd x6 0) : Int).toNat true) (y257 ++ ((rd_T52 x238000 (rd x6 0)).f3)) x238000 x238001) else (none)) else (none))) else (none)))) else (none)) else (none))) else (none)) else (none)) else (some x5)
def dioramaref09_Led.f (k : Nat) (l0_0 : List (S52)) (a0_1 : Int) (a1 : Int) : Option (List Bool) := if 0 ≤ (l0_0.length : Int) then (if ((l0_0.length : Int) : Int).toNat ≤ 281474976710656 then ((some (([] : List Int) : List Int)).bind fun y241 => (if 0 ≤ a1 then (if a1 < (l0_0.length : Int) then (if y241.length + ((rd_T52 l0_0 a1).f3).length < 17592186044416 then (dioramaref09_Led.l0 k (List.replicate ((l0_0.length : Int) : Int).toNat false) (y241 ++ ((rd_T52 l0_0 a1).f3)) l0_0 a0_1) else (none)) else (none)) else (none))) else (none)) else (none)
def dioramaref09_Led.T8 : Bool × List (List Nat × List Nat) := (true, [([], []), ([], []), ([0, 1], [0, 1]), ([], []), ([3], [3]), ([], []), ([4, 5], [4, 5]), ([6], [6]), ([7], [7]), ([2, 8, 2], [2, 8]), ([9, 9, 0, 1, 2, 3, 4, 5, 6, 7, 8, 9], [1, 9])])
def dioramaref09_Led.B8 : List Nat := [0, 0, 3, 0, 8, 0, 56, 120, 248, 511, 1023]
theorem dioramaref09_Led.tab8 : rtab .any (opsOf Tryd.f45 8) = dioramaref09_Led.T8 := by kernel_rfl
theorem dioramaref09_Led.bits8 : waitsOk dioramaref09_Led.T8.2 dioramaref09_Led.B8 = true := by kernel_rfl
set_option maxHeartbeats 8000000 in
set_option maxRecDepth 100000 in
theorem dioramaref09_Led.calls (k : Nat) (A0_0 : Option Addr) (c0_0 : Nat) (l0_0 : List (S52)) (a0_1 : Int) (a1 : Int) (r : List Bool) (w : World) (hr0_0 : Kd.C k52 w A0_0 l0_0.length l0_0) (hc0_0 : l0_0.length ≤ c0_0) (h : dioramaref09_Led.f k l0_0 a0_1 a1 = some r) :
    Calls Tryd.prog 45 #[.agg #[.slice A0_0 l0_0.length c0_0, .int .i64 a0_1], .int .i64 a1] w fun e w' => ∃ v0_ : Value, e = .returned (v0_) ∧ Kd.R Kd.bool 4 w' w.heap.size (fun _ => True) v0_ r ∧ Below w.heap.size w w' := by
  have hu34 := Tryd.underlying34
  have HR0_0 := Aside0.mk hr0_0
  have HC0_0 := Aside0.mk hc0_0
  clear hr0_0 hc0_0
  have HB := Aside0.mk (Below.refl w.heap.size w)
  have H : (if 0 ≤ (l0_0.length : Int) then (if ((l0_0.length : Int) : Int).toNat ≤ 281474976710656 then ((some (([] : List Int) : List Int)).bind fun y241 => (if 0 ≤ a1 then (if a1 < (l0_0.length : Int) then (if y241.length + ((rd_T52 l0_0 a1).f3).length < 17592186044416 then (dioramaref09_Led.l0 k (List.replicate ((l0_0.length : Int) : Int).toNat false) (y241 ++ ((rd_T52 l0_0 a1).f3)) l0_0 a0_1) else (none)) else (none)) else (none))) else (none)) else (none)) = some r := h
  clear h
  by_cases c3 : 0 ≤ (l0_0.length : Int)
  · rw [if_pos c3] at H
    have c3b0 := eq_true c3
    have c3b1 : decide (0 ≤ (l0_0.length : Int)) = true := decide_eq_true c3
    clear c3
    by_cases c4 : ((l0_0.length : Int) : Int).toNat ≤ 281474976710656
    · rw [if_pos c4] at H
      have c4b0 := eq_true c4
      have c4b1 : decide (((l0_0.length : Int) : Int).toNat ≤ 281474976710656) = true := decide_eq_true c4
      clear c4
      obtain ⟨y238, hy238⟩ : ∃ y_ : List Bool, y_ = (List.replicate ((l0_0.length : Int) : Int).toNat false) := ⟨_, rfl⟩
      replace H : ((some (([] : List Int) : List Int)).bind fun y241 => (if 0 ≤ a1 then (if a1 < (l0_0.length : Int) then (if y241.length + ((rd_T52 l0_0 a1).f3).length < 17592186044416 then (dioramaref09_Led.l0 k y238 (y241 ++ ((rd_T52 l0_0 a1).f3)) l0_0 a0_1) else (none)) else (none)) else (none))) = some r := by first | (rw [hy238]; with_reducible exact H) | (have H2_ := (Option.bind_some _ _).symm.trans H; rw [hy238]; with_reducible exact H2_) | (have H2_ := (Option.bind_some _ _).symm.trans H; with_reducible exact H2_) | with_reducible exact H | (rw [hy238]; exact H) | exact H
      have Ny238 := Aside0.mk hy238
      clear hy238
      obtain ⟨y241, hy241⟩ : ∃ y_ : List Int, y_ = (([] : List Int)) := ⟨_, rfl⟩
      replace H : (if 0 ≤ a1 then (if a1 < (l0_0.length : Int) then (if y241.length + ((rd_T52 l0_0 a1).f3).length < 17592186044416 then (dioramaref09_Led.l0 k y238 (y241 ++ ((rd_T52 l0_0 a1).f3)) l0_0 a0_1) else (none)) else (none)) else (none)) = some r := by first | (rw [hy241]; with_reducible exact H) | (have H2_ := (Option.bind_some _ _).symm.trans H; rw [hy241]; with_reducible exact H2_) | (have H2_ := (Option.bind_some _ _).symm.trans H; with_reducible exact H2_) | with_reducible exact H | (rw [hy241]; exact H) | exact H
      have Ny241 := Aside0.mk hy241
      clear hy241
      by_cases c5 : 0 ≤ a1
      · rw [if_pos c5] at H
        have c5b0 : decide (0 ≤ a1) = true := decide_eq_true c5
        clear c5
        by_cases c6 : a1 < (l0_0.length : Int)
        · rw [if_pos c6] at H
          have c6b0 : decide (a1 < (l0_0.length : Int)) = true := decide_eq_true c6
          clear c6
          by_cases c7 : y241.length + ((rd_T52 l0_0 a1).f3).length < 17592186044416
          · rw [if_pos c7] at H
            have LMc7 := Aside0.mk c7
            clear c7
            obtain ⟨y245, hy245⟩ : ∃ y_ : List Int, y_ = (y241 ++ ((rd_T52 l0_0 a1).f3)) := ⟨_, rfl⟩
            replace H : (dioramaref09_Led.l0 k y238 y245 l0_0 a0_1) = some r := by first | (rw [hy245]; with_reducible exact H) | (have H2_ := (Option.bind_some _ _).symm.trans H; rw [hy245]; with_reducible exact H2_) | (have H2_ := (Option.bind_some _ _).symm.trans H; with_reducible exact H2_) | with_reducible exact H | (rw [hy245]; exact H) | exact H
            have Ny245 := Aside0.mk hy245
            clear hy245
            have H' := Aside0.mk H
            clear H
            go_enter Tryd.func45, Tryd.ntmps45
            go_wp2_with (first | ((with_reducible refine gate_dst (N := 2) rfl ?_); refine box_event ?hg (N := 2) ?hd (cs := #[.slice A0_0 l0_0.length c0_0, .int .i64 a0_1]) (t := 34) ?hr ?_; (case hd => rfl); (case hg => rfl); (case hr => first | (go_simp; done) | (go_simp; rfl)); intro gb237 hg w8 hbox hb; have n0_ := Aside0.mk (below_step (by repeat (first | (with_reducible first | exact HB.out | apply below_alloc | apply pw_below_drewN | apply below_drew1) | exact HB.out)) hb); have n1_ := Aside0.mk (hbox); have n2_ := Aside0.mk ((by rw [hg]; exact (below_size (by repeat (first | (with_reducible first | exact HB.out | apply below_alloc | apply pw_below_drewN | apply below_drew1) | exact HB.out))) : w.heap.size ≤ gb237)); have n3_ := Aside0.mk ((by rw [hg]; exact (below_size (by repeat (first | (with_reducible first | exact HB.out | apply below_alloc | apply pw_below_drewN | apply below_drew1) | exact HB.out))) : w.heap.size ≤ gb237)); clear HB; have HB := n0_; have BK237 := n1_; have GW237 := n2_; have GE237 := n3_; clear n0_ n1_ n2_ n3_; clear hb hbox hg; have hcz9_0 : w8.cell? ⟨gb237, 0, none⟩ = some (.slice A0_0 l0_0.length c0_0) := (blk_cell BK237.out 0).trans rfl; have hcz9_1 : w8.cell? ⟨gb237, 1, none⟩ = some (.int .i64 a0_1) := (blk_cell BK237.out 1).trans rfl; have hfz9_0 := blk_frozen BK237.out 0; have hfz9_1 := blk_frozen BK237.out 1) | ((with_reducible refine gate_dst (N := 11) rfl ?_); refine Kd.R_make Kd.bool _ 4 rfl (N := 11) rfl 38 _ _ rfl (l0_0.length : Int) rfl rfl Tryd.underlying38 (.bool false) 1 info4 rfl (by decide) (by omega) false (ok := fun _ => True) (okp := fun _ => True) rfl (fun _ hk => hk) trivial (of_decide_eq_true (by first | (with_reducible assumption) | assumption)) (Nat.le_trans (Nat.mul_le_mul_right _ (of_decide_eq_true (by first | (with_reducible assumption) | assumption) : (l0_0.length : Int).toNat ≤ 281474976710656)) (by omega)) (Below.refl _ _) (Nat.le_refl _) ?_; intro v239 w10 ho11 hb hg_ hnew_; clear hg_ hnew_; (first | rw [← Ny238.out] at ho11 | (simp only [Int.reduceToNat] at ho11; rw [← Ny238.out] at ho11)); have n0_ := Aside0.mk (Kd.R_lower ho11 (below_size (by repeat (first | (with_reducible first | exact HB.out | apply below_alloc | apply pw_below_drewN | apply below_drew1 | refine below_set ?_ GE237.out) | exact HB.out)))); have n1_ := Aside0.mk (blk_below (g := gb237) (o := .cells #[.slice A0_0 l0_0.length c0_0, .int .i64 a0_1] 34 (0, 0)) (by (with_reducible repeat (first | refine blk_drewN ?_ _ | refine blk_drew ?_ | refine blk_alloc ?_ _)); exact BK237.out) hb); have n2_ := Aside0.mk (below_step (by repeat (first | (with_reducible first | exact HB.out | apply below_alloc | apply pw_below_drewN | apply below_drew1 | refine below_set ?_ GE237.out) | exact HB.out)) hb); clear BK237; clear HB; have HO240 := n0_; have BK237 := n1_; have HB := n2_; clear n0_ n1_ n2_; clear hb ho11) | ((with_reducible refine gate_dst (N := 12) rfl ?_); refine Kd.R_lit (Kd.int .i64) _ 3 ?hg (N := 12) ?hd (xs := ([] : List Int)) (inner := []) (ok := fun _ => True) (okp := fun _ => True) ?hr ?hp (fun _ hk => hk) trivial (Below.refl _ _) (Nat.le_refl _) (by simp) ?_; (case hd => rfl); (case hg => rfl); (case hr => first | (go_simp; done) | (go_simp; rfl)); (case hp => exact (Reps.none _ _)); intro v242 w12 ho13 hb hg_ hnew_; clear hg_ hnew_; (first | rw [← Ny241.out] at ho13 | (simp only [Int.reduceToNat] at ho13; rw [← Ny241.out] at ho13)); have n0_ := Aside0.mk (Kd.R_below (by (with_reducible repeat (first | apply Kd.R_alloc | apply Kd.R_drewN | apply Kd.R_drew)); exact HO240.out) hb); have n1_ := Aside0.mk (Kd.R_lower ho13 (below_size (by repeat (first | (with_reducible first | exact HB.out | apply below_alloc | apply pw_below_drewN | apply below_drew1 | refine below_set ?_ GE237.out) | exact HB.out)))); have n2_ := Aside0.mk (blk_below (g := gb237) (o := .cells #[.slice A0_0 l0_0.length c0_0, .int .i64 a0_1] 34 (0, 0)) (by (with_reducible repeat (first | refine blk_drewN ?_ _ | refine blk_drew ?_ | refine blk_alloc ?_ _)); exact BK237.out) hb); have n3_ := Aside0.mk (below_step (by repeat (first | (with_reducible first | exact HB.out | apply below_alloc | apply pw_below_drewN | apply below_drew1 | refine below_set ?_ GE237.out) | exact HB.out)) hb); clear HO240; clear BK237; clear HB; have HO240 := n0_; have HO243 := n1_; have BK237 := n2_; have HB := n3_; clear n0_ n1_ n2_ n3_; clear hb ho13; have hcz14_0 : w12.cell? ⟨gb237, 0, none⟩ = some (.slice A0_0 l0_0.length c0_0) := (blk_cell BK237.out 0).trans rfl; have hcz14_1 : w12.cell? ⟨gb237, 1, none⟩ = some (.int .i64 a0_1) := (blk_cell BK237.out 1).trans rfl; have hfz14_0 := blk_frozen BK237.out 0; have hfz14_1 := blk_frozen BK237.out 1; have p244 : 0 ≤ (a1 : Int) := of_decide_eq_true (by first | (with_reducible assumption) | assumption); have q244 : a1 < (l0_0.length : Int) := of_decide_eq_true (by first | (with_reducible assumption) | assumption); obtain ⟨ad244, A244_1, c244_1, A244_2, c244_2, A244_3, c244_3, e244, hx244_0, hx244_1, hx244_2, hx244_3, hl244_1, hi244_1, hl244_2, hi244_2, hl244_3, hi244_3⟩ := at_T52 HR0_0.out a1 p244 q244; cases e244; replace hx244_0 := (HB.out.cell (World.block_lt_of_cell? w _ hx244_0)).trans hx244_0; replace hx244_1 := (HB.out.cell (World.block_lt_of_cell? w _ hx244_1)).trans hx244_1; replace hx244_2 := (HB.out.cell (World.block_lt_of_cell? w _ hx244_2)).trans hx244_2; replace hx244_3 := (HB.out.cell (World.block_lt_of_cell? w _ hx244_3)).trans hx244_3; have HR244_1 := Aside0.mk hi244_1; have HC244_1 := Aside0.mk hl244_1; clear hi244_1 hl244_1; have HR244_2 := Aside0.mk hi244_2; have HC244_2 := Aside0.mk hl244_2; clear hi244_2 hl244_2; have HR244_3 := Aside0.mk hi244_3; have HC244_3 := Aside0.mk hl244_3; clear hi244_3 hl244_3; replace p244 := eq_true p244; replace q244 := eq_true q244) | ((with_reducible refine gate_builtin (b := .append) (xs := #[.tmp 12, .tmp 18]) rfl ?_); at_builtin; refine Kd.R_append_rows (Kd.int .i64) (w0 := w) w.heap.size rfl (.tmp 12) (.tmp 18) 31 3 (.int .i64 0) 8 rfl Tryd.underlying31 info3 rfl (by decide) (by omega) v242 y241 ((rd_T52 l0_0 a1).f3) _ _ _ (fun _ => True) (fun _ => False) rfl rfl ?aO ?aR (fun _ _ h => h) (fun _ h => h.elim) ?aF ?aB ?aS ?aL ?_; (case aR => repeat (first | exact (Kd.C_below HR244_3.out HB.out) | (with_reducible refine Kd.C_alloc ?_ _) | (with_reducible refine Kd.C_drewN ?_ _) | (with_reducible refine Kd.C_drew ?_))); (case aB => exact (by repeat (first | (with_reducible first | exact HB.out | apply below_alloc | apply pw_below_drewN | apply below_drew1 | refine below_set ?_ GE237.out) | exact HB.out))); (case aF => exact (fun _ _ => trivial)); (case aO => exact (by (with_reducible repeat (first | apply Kd.R_alloc | apply Kd.R_drewN | apply Kd.R_drew)); exact HO243.out)); (case aS => exact (below_size (by repeat (first | (with_reducible first | exact HB.out | apply below_alloc | apply pw_below_drewN | apply below_drew1 | refine below_set ?_ GE237.out) | exact HB.out)))); (case aL => have := LMc7.out; omega); intro v246 w15 ho hb hg hat; rw [← Ny245.out] at ho; have n0_ := Aside0.mk (blk_grown (g := gb237) (o := .cells #[.slice (some ad244) l0_0.length c0_0, .int .i64 a0_1] 34 (0, 0)) (by (with_reducible repeat (first | refine blk_drewN ?_ _ | refine blk_drew ?_ | refine blk_alloc ?_ _)); exact BK237.out) hg (Kd.R_ne HO243.out BK237.out (by decide))); have n1_ := Aside0.mk (Kd.R_over' (by (with_reducible repeat (first | apply Kd.R_alloc | apply Kd.R_drewN | apply Kd.R_drew)); exact HO240.out) (Kd.R_typed (by (with_reducible repeat (first | apply Kd.R_alloc | apply Kd.R_drewN | apply Kd.R_drew)); exact HO243.out)) (by decide) hg); have n2_ := Aside0.mk (hb); have n3_ := Aside0.mk (ho); clear BK237; clear HO240; clear HB; clear HO243; have BK237 := n0_; have HO240 := n1_; have HB := n2_; have HO247 := n3_; clear n0_ n1_ n2_ n3_; clear ho hb hg hat))
            go_loopg [6] k (fun kq v6 w' => ∃ (x5_1 : List Bool) (x6_1 : List Int), Aside0 (dioramaref09_Led.l0 kq x5_1 x6_1 l0_0 a0_1 = some r) ∧ Aside0 (kq ≤ k) ∧ Aside0 (Kd.R Kd.bool 4 w' w.heap.size (fun _ => True) v239 x5_1) ∧ Aside0 (Kd.Q (Kd.int .i64) 3 w' w.heap.size (fun _ => True) v6 x6_1) ∧ Aside0 (w'.heap[gb237]? = some (.cells #[(.slice (some ad244) l0_0.length c0_0), .int .i64 a0_1] 34 (0, 0))) ∧ Aside0 (Below w.heap.size w w'))
            case atStart => exact ⟨(y238), (y245), H', ⟨Nat.le_refl _⟩, ⟨by (with_reducible repeat (first | apply Kd.R_alloc | apply Kd.R_drewN | apply Kd.R_drew)); exact HO240.out⟩, ⟨Kd.Q_of_R (by (with_reducible repeat (first | apply Kd.R_alloc | apply Kd.R_drewN | apply Kd.R_drew)); exact HO247.out)⟩, ⟨by (with_reducible repeat (first | refine blk_drewN ?_ _ | refine blk_drew ?_ | refine blk_alloc ?_ _)); exact BK237.out⟩, ⟨by repeat (first | (with_reducible first | exact HB.out | apply below_alloc | apply pw_below_drewN | apply below_drew1 | refine below_set ?_ GE237.out) | exact HB.out)⟩⟩
            case round =>
              clear H'
              try clear c2
              try clear p2
              try clear q2
              try clear hx2
              try clear c3
              try clear c3b0
              try clear c3b1
              try clear c4
              try clear c4b0
              try clear c4b1
              try clear c5
              try clear c5b0
              try clear c6
              try clear c6b0
              try clear c7
              try clear hcz14_0
              try clear hcz14_1
              try clear hcz9_0
              try clear hcz9_1
              try clear hfz14_0
              try clear hfz14_1
              try clear hfz9_0
              try clear hfz9_1
              try clear hx244_0
              try clear hx244_1
              try clear hx244_2
              try clear hx244_3
              try clear p244
              try clear q244
              obtain ⟨x5_1, x6_1, HA, HK1, HO_5, HO_6, BK237, HB⟩ := hrel
              cases gk with
              | zero => exact absurd HA.out (by simp [dioramaref09_Led.l0])
              | succ k1 =>
                have H := HA.out
                clear HA
                simp only [dioramaref09_Led.l0] at H
                by_cases c16 : (x6_1.length : Int) > 0
                · rw [if_pos c16] at H
                  have c16b0 : decide (0 < (x6_1.length : Int)) = true := decide_eq_true c16
                  have c16b1 : decide (0 < x6_1.length) = true := decide_eq_true (by omega)
                  clear c16
                  by_cases c17 : 0 < (x6_1.length : Int)
                  · rw [if_pos c17] at H
                    have c17b0 : decide (0 < (x6_1.length : Int)) = true := decide_eq_true c17
                    have c17b1 : decide (0 < x6_1.length) = true := decide_eq_true (by omega)
                    clear c17
                    by_cases c18 : 1 ≤ (x6_1.length : Int)
                    · rw [if_pos c18] at H
                      have c18b0 := eq_true c18
                      have c18b1 : decide (1 ≤ (x6_1.length : Int)) = true := decide_eq_true c18
                      clear c18
                      obtain ⟨y249, hy249⟩ : ∃ y_ : List Int, y_ = (x6_1.drop (1 : Int).toNat) := ⟨_, rfl⟩
                      replace H : (if 0 ≤ (rd x6_1 0) then (if (rd x6_1 0) < (x5_1.length : Int) then (if (rdOf false x5_1 (rd x6_1 0) = true) then (dioramaref09_Led.l0 k1 x5_1 y249 l0_0 a0_1) else ((some (([] : List Int) : List Int)).bind fun y254 => (if y254.length + y249.length < 17592186044416 then ((some (y254 ++ y249 : List Int)).bind fun y257 => (if (rd x6_1 0) < (l0_0.length : Int) then (if y257.length + ((rd_T52 l0_0 (rd x6_1 0)).f3).length < 17592186044416 then (dioramaref09_Led.l0 k1 (x5_1.set ((rd x6_1 0) : Int).toNat true) (y257 ++ ((rd_T52 l0_0 (rd x6_1 0)).f3)) l0_0 a0_1) else (none)) else (none))) else (none)))) else (none)) else (none)) = some r := by first | (rw [hy249]; with_reducible exact H) | (have H2_ := (Option.bind_some _ _).symm.trans H; rw [hy249]; with_reducible exact H2_) | (have H2_ := (Option.bind_some _ _).symm.trans H; with_reducible exact H2_) | with_reducible exact H | (rw [hy249]; exact H) | exact H
                      have Ny249 := Aside0.mk hy249
                      clear hy249
                      by_cases c19 : 0 ≤ (rd x6_1 0)
                      · rw [if_pos c19] at H
                        have c19b0 : decide (0 ≤ (rd x6_1 0)) = true := decide_eq_true c19
                        clear c19
                        by_cases c20 : (rd x6_1 0) < (x5_1.length : Int)
                        · rw [if_pos c20] at H
                          have c20b0 : decide ((rd x6_1 0) < (x5_1.length : Int)) = true := decide_eq_true c20
                          clear c20
                          obtain ⟨bq21, hbq21⟩ : ∃ b_ : Bool, b_ = (rdOf false x5_1 (rd x6_1 0)) := ⟨_, rfl⟩
                          replace H : (if (bq21 = true) then (dioramaref09_Led.l0 k1 x5_1 y249 l0_0 a0_1) else ((some (([] : List Int) : List Int)).bind fun y254 => (if y254.length + y249.length < 17592186044416 then ((some (y254 ++ y249 : List Int)).bind fun y257 => (if (rd x6_1 0) < (l0_0.length : Int) then (if y257.length + ((rd_T52 l0_0 (rd x6_1 0)).f3).length < 17592186044416 then (dioramaref09_Led.l0 k1 (x5_1.set ((rd x6_1 0) : Int).toNat true) (y257 ++ ((rd_T52 l0_0 (rd x6_1 0)).f3)) l0_0 a0_1) else (none)) else (none))) else (none)))) = some r := by rw [← hbq21] at H; exact H
                          have Nbq21 := Aside0.mk hbq21
                          clear hbq21
                          by_cases c22 : (bq21 = true)
                          · subst c22
                            have H1 : (dioramaref09_Led.l0 k1 x5_1 y249 l0_0 a0_1) = some r := by rw [if_pos rfl] at H; exact H
                            clear H
                            have H := H1
                            clear H1
                            have H' := Aside0.mk H
                            clear H
                            obtain ⟨Ao23, co23, eo23, _⟩ := Kd.Q_slice HO_6.out
                            subst eo23
                            have p248 : 0 ≤ (0 : Int) := (by omega)
                            have q248 : 0 < (x6_1.length : Int) := of_decide_eq_true (by first | (with_reducible assumption) | assumption)
                            obtain ⟨ad248, e248, hx248_0⟩ := Kd.at_int (Kd.Q_reads' HO_6.out).2.2 0 p248 q248
                            cases e248
                            have qi248 : (0 < x6_1.length) = True := eq_true (by omega)
                            (try rw [show ((0 : Int)).toNat = 0 from rfl] at hx248_0)
                            (try rw [Addr.add_zero'] at hx248_0)
                            replace p248 := eq_true p248
                            replace q248 := eq_true q248
                            have q24 : (1 : Int) ≤ ((x6_1.length : Int) : Int) := of_decide_eq_true (by first | (with_reducible assumption) | assumption)
                            obtain ⟨i024, hi024, _, hsz24, _⟩ := info_parts info3
                            have hcut24 := cut_from (P := Tryd.prog) 31 3 .i64 Tryd.underlying31 hi024 1 hsz24 (some ad248) x6_1.length co23 1 (by omega) q24
                            have hr24 := Kd.Q_drop (k := (1 : Int).toNat) HO_6.out (by omega)
                            obtain ⟨A24, hA24⟩ : ∃ A1, A1 = (if co23 = (1 : Int).toNat then (some ad248) else ((some ad248) : Option Addr).map (·.add ((1 : Int).toNat * 1))) := ⟨_, rfl⟩
                            obtain ⟨c24, hc24⟩ : ∃ c1, c1 = co23 - (1 : Int).toNat := ⟨_, rfl⟩
                            have hy24 : y249.length = x6_1.length - (1 : Int).toNat := (by rw [Ny249.out, List.length_drop])
                            rw [← Ny249.out] at hr24
                            rw [← hy24, ← hA24, ← hc24] at hcut24
                            replace hr24 : Kd.Q (Kd.int .i64) 3 wr w.heap.size (fun _ => True) (.slice A24 y249.length c24) y249 := (by rw [hA24, hc24, hy24]; exact hr24)
                            have HE24 : Aside0 ((Value.slice A24 y249.length c24).ownBlock = (.slice (some ad248) x6_1.length co23 : Value).ownBlock) := ⟨by rw [hA24]; split <;> (cases ((some ad248) : Option Addr) <;> rfl)⟩
                            clear hy24 hi024 hsz24 HO_6 hA24 hc24
                            have HO251 := Aside0.mk hr24
                            clear hr24
                            replace q24 := eq_true q24
                            obtain ⟨Ao25, co25, eo25⟩ := Kd.R_slice HO_5.out
                            subst eo25
                            have p252 : 0 ≤ ((rd x6_1 0) : Int) := of_decide_eq_true (by first | (with_reducible assumption) | assumption)
                            have q252 : (rd x6_1 0) < (x5_1.length : Int) := of_decide_eq_true (by first | (with_reducible assumption) | assumption)
                            obtain ⟨ad252, e252, hx252_0⟩ := Kd.at_bool (Kd.R_reads' HO_5.out).2.2 (rd x6_1 0) p252 q252
                            (try rw [← Nbq21.out] at hx252_0)
                            cases e252
                            replace p252 := eq_true p252
                            replace q252 := eq_true q252
                            go_wp2
                            go_roundg k1
                            case measure => have := HK1.out; omega
                            case rel => exact ⟨(x5_1), (y249), H', ⟨by have := HK1.out; omega⟩, ⟨by (with_reducible repeat (first | apply Kd.R_alloc | apply Kd.R_drewN | apply Kd.R_drew)); exact HO_5.out⟩, ⟨by (with_reducible repeat (first | apply Kd.Q_alloc | apply Kd.Q_drewN | apply Kd.Q_drew)); exact HO251.out⟩, ⟨by (with_reducible repeat (first | refine blk_drewN ?_ _ | refine blk_drew ?_ | refine blk_alloc ?_ _)); exact BK237.out⟩, ⟨by repeat (first | (with_reducible first | exact HB.out | apply below_alloc | apply pw_below_drewN | apply below_drew1 | refine below_set ?_ GE237.out) | exact HB.out)⟩⟩
                          · replace c22 := Bool.eq_false_iff.mpr c22
                            subst c22
                            have H1 : ((some (([] : List Int) : List Int)).bind fun y254 => (if y254.length + y249.length < 17592186044416 then ((some (y254 ++ y249 : List Int)).bind fun y257 => (if (rd x6_1 0) < (l0_0.length : Int) then (if y257.length + ((rd_T52 l0_0 (rd x6_1 0)).f3).length < 17592186044416 then (dioramaref09_Led.l0 k1 (x5_1.set ((rd x6_1 0) : Int).toNat true) (y257 ++ ((rd_T52 l0_0 (rd x6_1 0)).f3)) l0_0 a0_1) else (none)) else (none))) else (none))) = some r := by rw [if_neg (show ¬ (false = true) by decide)] at H; exact H
                            clear H
                            have H := H1
                            clear H1
                            obtain ⟨y253, hy253⟩ : ∃ y_ : List Bool, y_ = (x5_1.set ((rd x6_1 0) : Int).toNat true) := ⟨_, rfl⟩
                            replace H : ((some (([] : List Int) : List Int)).bind fun y254 => (if y254.length + y249.length < 17592186044416 then ((some (y254 ++ y249 : List Int)).bind fun y257 => (if (rd x6_1 0) < (l0_0.length : Int) then (if y257.length + ((rd_T52 l0_0 (rd x6_1 0)).f3).length < 17592186044416 then (dioramaref09_Led.l0 k1 y253 (y257 ++ ((rd_T52 l0_0 (rd x6_1 0)).f3)) l0_0 a0_1) else (none)) else (none))) else (none))) = some r := by first | (rw [hy253]; with_reducible exact H) | (have H2_ := (Option.bind_some _ _).symm.trans H; rw [hy253]; with_reducible exact H2_) | (have H2_ := (Option.bind_some _ _).symm.trans H; with_reducible exact H2_) | with_reducible exact H | (rw [hy253]; exact H) | exact H
                            have Ny253 := Aside0.mk hy253
                            clear hy253
                            obtain ⟨y254, hy254⟩ : ∃ y_ : List Int, y_ = (([] : List Int)) := ⟨_, rfl⟩
                            replace H : (if y254.length + y249.length < 17592186044416 then ((some (y254 ++ y249 : List Int)).bind fun y257 => (if (rd x6_1 0) < (l0_0.length : Int) then (if y257.length + ((rd_T52 l0_0 (rd x6_1 0)).f3).length < 17592186044416 then (dioramaref09_Led.l0 k1 y253 (y257 ++ ((rd_T52 l0_0 (rd x6_1 0)).f3)) l0_0 a0_1) else (none)) else (none))) else (none)) = some r := by first | (rw [hy254]; with_reducible exact H) | (have H2_ := (Option.bind_some _ _).symm.trans H; rw [hy254]; with_reducible exact H2_) | (have H2_ := (Option.bind_some _ _).symm.trans H; with_reducible exact H2_) | with_reducible exact H | (rw [hy254]; exact H) | exact H
                            have Ny254 := Aside0.mk hy254
                            clear hy254
                            by_cases c27 : y254.length + y249.length < 17592186044416
                            · rw [if_pos c27] at H
                              have LMc27 := Aside0.mk c27
                              clear c27
                              obtain ⟨y257, hy257⟩ : ∃ y_ : List Int, y_ = (y254 ++ y249) := ⟨_, rfl⟩
                              replace H : (if (rd x6_1 0) < (l0_0.length : Int) then (if y257.length + ((rd_T52 l0_0 (rd x6_1 0)).f3).length < 17592186044416 then (dioramaref09_Led.l0 k1 y253 (y257 ++ ((rd_T52 l0_0 (rd x6_1 0)).f3)) l0_0 a0_1) else (none)) else (none)) = some r := by first | (rw [hy257]; with_reducible exact H) | (have H2_ := (Option.bind_some _ _).symm.trans H; rw [hy257]; with_reducible exact H2_) | (have H2_ := (Option.bind_some _ _).symm.trans H; with_reducible exact H2_) | with_reducible exact H | (rw [hy257]; exact H) | exact H
                              have Ny257 := Aside0.mk hy257
                              clear hy257
                              by_cases c28 : (rd x6_1 0) < (l0_0.length : Int)
                              · rw [if_pos c28] at H
                                have c28b0 : decide ((rd x6_1 0) < (l0_0.length : Int)) = true := decide_eq_true c28
                                clear c28
                                by_cases c29 : y257.length + ((rd_T52 l0_0 (rd x6_1 0)).f3).length < 17592186044416
                                · rw [if_pos c29] at H
                                  have LMc29 := Aside0.mk c29
                                  clear c29
                                  obtain ⟨y261, hy261⟩ : ∃ y_ : List Int, y_ = (y257 ++ ((rd_T52 l0_0 (rd x6_1 0)).f3)) := ⟨_, rfl⟩
                                  replace H : (dioramaref09_Led.l0 k1 y253 y261 l0_0 a0_1) = some r := by first | (rw [hy261]; with_reducible exact H) | (have H2_ := (Option.bind_some _ _).symm.trans H; rw [hy261]; with_reducible exact H2_) | (have H2_ := (Option.bind_some _ _).symm.trans H; with_reducible exact H2_) | with_reducible exact H | (rw [hy261]; exact H) | exact H
                                  have Ny261 := Aside0.mk hy261
                                  clear hy261
                                  have H' := Aside0.mk H
                                  clear H
                                  obtain ⟨Ao30, co30, eo30, _⟩ := Kd.Q_slice HO_6.out
                                  subst eo30
                                  have p248 : 0 ≤ (0 : Int) := (by omega)
                                  have q248 : 0 < (x6_1.length : Int) := of_decide_eq_true (by first | (with_reducible assumption) | assumption)
                                  obtain ⟨ad248, e248, hx248_0⟩ := Kd.at_int (Kd.Q_reads' HO_6.out).2.2 0 p248 q248
                                  cases e248
                                  have qi248 : (0 < x6_1.length) = True := eq_true (by omega)
                                  (try rw [show ((0 : Int)).toNat = 0 from rfl] at hx248_0)
                                  (try rw [Addr.add_zero'] at hx248_0)
                                  replace p248 := eq_true p248
                                  replace q248 := eq_true q248
                                  have q31 : (1 : Int) ≤ ((x6_1.length : Int) : Int) := of_decide_eq_true (by first | (with_reducible assumption) | assumption)
                                  obtain ⟨i031, hi031, _, hsz31, _⟩ := info_parts info3
                                  have hcut31 := cut_from (P := Tryd.prog) 31 3 .i64 Tryd.underlying31 hi031 1 hsz31 (some ad248) x6_1.length co30 1 (by omega) q31
                                  have hr31 := Kd.Q_drop (k := (1 : Int).toNat) HO_6.out (by omega)
                                  obtain ⟨A31, hA31⟩ : ∃ A1, A1 = (if co30 = (1 : Int).toNat then (some ad248) else ((some ad248) : Option Addr).map (·.add ((1 : Int).toNat * 1))) := ⟨_, rfl⟩
                                  obtain ⟨c31, hc31⟩ : ∃ c1, c1 = co30 - (1 : Int).toNat := ⟨_, rfl⟩
                                  have hy31 : y249.length = x6_1.length - (1 : Int).toNat := (by rw [Ny249.out, List.length_drop])
                                  rw [← Ny249.out] at hr31
                                  rw [← hy31, ← hA31, ← hc31] at hcut31
                                  replace hr31 : Kd.Q (Kd.int .i64) 3 wr w.heap.size (fun _ => True) (.slice A31 y249.length c31) y249 := (by rw [hA31, hc31, hy31]; exact hr31)
                                  have HE31 : Aside0 ((Value.slice A31 y249.length c31).ownBlock = (.slice (some ad248) x6_1.length co30 : Value).ownBlock) := ⟨by rw [hA31]; split <;> (cases ((some ad248) : Option Addr) <;> rfl)⟩
                                  clear hy31 hi031 hsz31 HO_6 hA31 hc31
                                  have HO251 := Aside0.mk hr31
                                  clear hr31
                                  replace q31 := eq_true q31
                                  obtain ⟨Ao32, co32, eo32⟩ := Kd.R_slice HO_5.out
                                  subst eo32
                                  have p252 : 0 ≤ ((rd x6_1 0) : Int) := of_decide_eq_true (by first | (with_reducible assumption) | assumption)
                                  have q252 : (rd x6_1 0) < (x5_1.length : Int) := of_decide_eq_true (by first | (with_reducible assumption) | assumption)
                                  obtain ⟨ad252, e252, hx252_0⟩ := Kd.at_bool (Kd.R_reads' HO_5.out).2.2 (rd x6_1 0) p252 q252
                                  (try rw [← Nbq21.out] at hx252_0)
                                  cases e252
                                  replace p252 := eq_true p252
                                  replace q252 := eq_true q252
                                  have p26 : 0 ≤ ((rd x6_1 0) : Int) := of_decide_eq_true (by first | (with_reducible assumption) | assumption)
                                  have q26 : ((rd x6_1 0) : Int) < ((x5_1.length : Int) : Int) := of_decide_eq_true (by first | (with_reducible assumption) | assumption)
                                  obtain ⟨go26, co26, eo26, gb26, gl26, cl26, HG26⟩ := Kd.R_form HO_5.out (by omega)
                                  (first | cases eo26 | (injection eo26 with ea_ en_ ec_; (first | subst ea_ | (injection ea_ with ea_; subst ea_)); subst ec_; clear en_))
                                  have GB26 := Aside0.mk gb26
                                  have GG26 := Aside0.mk HG26
                                  clear gb26 gl26 HG26
                                  (first | simp only [add_plain] at hx252_0 | skip)
                                  obtain ⟨hx26_0, hf26_0⟩ := Kd.R_celln false HO_5.out ((rd x6_1 0) : Int) p26 q26
                                  replace p26 := eq_true p26
                                  replace q26 := eq_true q26
                                  have HP33 := Kd.R_putg HO_5.out ((rd x6_1 0) : Int) true
                                  try go_wp2_with (first | ((with_reducible refine gate_store (t := 4) (p := 35) rfl ?_); refine store_event (t := 4) (p := 35) (v := ?vo_w34) (w1 := (wr.setCell ⟨go26, ((rd x6_1 0) : Int).toNat, none⟩ (.bool true))) ?hg ?ho ?hn ?hr ?_; (case ho => rfl); (case hg => rfl); (case hn => rfl); (case hr => first | (go_simp; done) | (go_simp; rfl)); intro w34 hw; have hg : wr.grownBy w34 (some go26) := (by rw [hw]; exact HP33.2); have hp_ : Kd.R Kd.bool 4 w34 w.heap.size (fun _ => True) (.slice (some ⟨go26, 0, none⟩) x5_1.length co32) y253 := (by rw [hw, Ny253.out]; exact HP33.1); clear HP33; have n0_ := Aside0.mk (hp_); have n1_ := Aside0.mk (Kd.Q_over' (v := (.slice (some ⟨go26, 0, none⟩) x5_1.length co32)) (by (with_reducible repeat (first | apply Kd.Q_alloc | apply Kd.Q_drewN | apply Kd.Q_drew)); exact HO251.out) (Kd.R_typed HO_5.out) (by decide) hg); have n2_ := Aside0.mk (blk_grown (g := gb237) (o := .cells #[.slice (some ad244) l0_0.length c0_0, .int .i64 a0_1] 34 (0, 0)) (by (with_reducible repeat (first | refine blk_drewN ?_ _ | refine blk_drew ?_ | refine blk_alloc ?_ _)); exact BK237.out) hg (Kd.R_ne HO_5.out BK237.out (by decide))); have n3_ := Aside0.mk ((by rw [hw]; exact below_set (HB.out) GB26.out : Below w.heap.size w w34)); clear HO_5; clear HO251; clear BK237; clear HB; have HO_5 := n0_; have HO251 := n1_; have BK237 := n2_; have HB := n3_; clear n0_ n1_ n2_ n3_; clear hg hw hp_))
                                  have n0_ := Aside0.mk (Kd.R_drew HO_5.out)
                                  have n1_ := Aside0.mk (Kd.Q_drew HO251.out)
                                  have n2_ := Aside0.mk (blk_drew BK237.out)
                                  have n3_ := Aside0.mk (below_drew1 HB.out)
                                  clear HO_5
                                  clear HO251
                                  clear BK237
                                  clear HB
                                  have HO_5 := n0_
                                  have HO251 := n1_
                                  have BK237 := n2_
                                  have HB := n3_
                                  clear n0_ n1_ n2_ n3_
                                  have p260 : 0 ≤ ((rd x6_1 0) : Int) := of_decide_eq_true (by first | (with_reducible assumption) | assumption)
                                  have q260 : (rd x6_1 0) < (l0_0.length : Int) := of_decide_eq_true (by first | (with_reducible assumption) | assumption)
                                  obtain ⟨ad260, A260_1, c260_1, A260_2, c260_2, A260_3, c260_3, e260, hx260_0, hx260_1, hx260_2, hx260_3, hl260_1, hi260_1, hl260_2, hi260_2, hl260_3, hi260_3⟩ := at_T52 HR0_0.out (rd x6_1 0) p260 q260
                                  have hw260_3 := hx260_3
                                  have hw260_2 := hx260_2
                                  have hw260_1 := hx260_1
                                  have hw260_0 := hx260_0
                                  obtain rfl : ad244 = ad260 := (by injection e260)
                                  replace hx260_0 := (HB.out.cell (World.block_lt_of_cell? w _ hx260_0)).trans hx260_0
                                  replace hx260_1 := (HB.out.cell (World.block_lt_of_cell? w _ hx260_1)).trans hx260_1
                                  replace hx260_2 := (HB.out.cell (World.block_lt_of_cell? w _ hx260_2)).trans hx260_2
                                  replace hx260_3 := (HB.out.cell (World.block_lt_of_cell? w _ hx260_3)).trans hx260_3
                                  have HR260_1 := Aside0.mk hi260_1
                                  have HC260_1 := Aside0.mk hl260_1
                                  clear hi260_1 hl260_1
                                  have HR260_2 := Aside0.mk hi260_2
                                  have HC260_2 := Aside0.mk hl260_2
                                  clear hi260_2 hl260_2
                                  have HR260_3 := Aside0.mk hi260_3
                                  have HC260_3 := Aside0.mk hl260_3
                                  clear hi260_3 hl260_3
                                  replace p260 := eq_true p260
                                  replace q260 := eq_true q260
                                  refine start_ (n := 11) (S := fun w' => w'.cell? ⟨gb237, 0, none⟩ = some (.slice (some ad244) l0_0.length c0_0) ∧ w'.cell? ⟨gb237, 1, none⟩ = some (.int .i64 a0_1) ∧ w'.cell? (ad244.add (((rd x6_1 0)).toNat * 4)) = some (.int .i64 ((rd_T52 l0_0 (rd x6_1 0)).f0)) ∧ w'.cell? ⟨(ad244.add (((rd x6_1 0)).toNat * 4)).block, (ad244.add (((rd x6_1 0)).toNat * 4)).off + 1, none⟩ = some (.slice A260_1 ((rd_T52 l0_0 (rd x6_1 0)).f1).length c260_1) ∧ w'.cell? ⟨(ad244.add (((rd x6_1 0)).toNat * 4)).block, (ad244.add (((rd x6_1 0)).toNat * 4)).off + 2, none⟩ = some (.slice A260_2 ((rd_T52 l0_0 (rd x6_1 0)).f2).length c260_2) ∧ w'.cell? ⟨(ad244.add (((rd x6_1 0)).toNat * 4)).block, (ad244.add (((rd x6_1 0)).toNat * 4)).off + 3, none⟩ = some (.slice A260_3 ((rd_T52 l0_0 (rd x6_1 0)).f3).length c260_3)) (ds := []) #[false, false, false, false, false, false, false, false, false, false, false] (by kernel_rfl) rfl rfl ⟨(blk_cell BK237.out 0).trans rfl, (blk_cell BK237.out 1).trans rfl, ((HB.out.cell (World.block_lt_of_cell? w _ hw260_0)).trans hw260_0), ((HB.out.cell (World.block_lt_of_cell? w _ hw260_1)).trans hw260_1), ((HB.out.cell (World.block_lt_of_cell? w _ hw260_2)).trans hw260_2), ((HB.out.cell (World.block_lt_of_cell? w _ hw260_3)).trans hw260_3)⟩ (fun hHeld => ?_); refine with_tabW dioramaref09_Led.tab8 dioramaref09_Led.bits8 (fun HT_ HW_ => ?_)
                                  generalize w34.drew = w35 at HO_5 HO251 BK237 HB HR260_1 HR260_2 HR260_3 hx260_0 hx260_1 hx260_2 hx260_3 hHeld ⊢
                                  refine pure_ (i := 1) (N := some 37) (v := ?_) (a' := ?_) #[false, true, false, false, false, false, false, false, false, false, false] rfl rfl (any_of HT_.out (by kernel_rfl)) (fun _ _ _ h => h) (Or.inl ⟨by rfl, ?_⟩) ?_ ?_
                                  rotate_left
                                  · intro w'
                                    go_simp
                                    with_reducible rfl
                                  rotate_left
                                  · simp only [Act.put, List.setIfInBounds_toArray, List.set_cons_zero, List.set_cons_succ, i64_w, i32_w]
                                    rfl
                                  refine pure_ (i := 3) (N := some 39) (v := ?_) (a' := ?_) #[false, true, false, true, false, false, false, false, false, false, false] rfl rfl (any_of HT_.out (by kernel_rfl)) (fun _ _ _ h => h) (Or.inl ⟨by rfl, ?_⟩) ?_ ?_
                                  rotate_left
                                  · intro w'
                                    go_simp
                                    with_reducible rfl
                                  rotate_left
                                  · simp only [Act.put, List.setIfInBounds_toArray, List.set_cons_zero, List.set_cons_succ, i64_w, i32_w]
                                    rfl
                                  refine pure_ (i := 5) (N := some 41) (v := ?_) (a' := ?_) #[false, true, false, true, false, true, false, false, false, false, false] rfl rfl (any_of HT_.out (by kernel_rfl)) (fun _ _ _ h => h) (Or.inl ⟨by rfl, ?_⟩) ?_ ?_
                                  rotate_left
                                  · intro w'
                                    go_simp
                                    with_reducible rfl
                                  rotate_left
                                  · simp only [Act.put, List.setIfInBounds_toArray, List.set_cons_zero, List.set_cons_succ, i64_w, i32_w]
                                    rfl
                                  refine take_ (i := 4) (N := some 40) (v := ?_) (a' := ?_) #[false, true, false, true, true, true, false, false, false, false, false] rfl rfl (take_ofW HT_.out HW_.out (by kernel_rfl)) (fun _ _ _ h => h) (Or.inl ⟨by rfl, ?_⟩) hHeld ?_ ?_
                                  rotate_left
                                  · rintro w' ⟨s0, s1, s2, s3, s4, s5⟩
                                    go_simp
                                    with_reducible rfl
                                  rotate_left
                                  · simp only [Act.put, List.setIfInBounds_toArray, List.set_cons_zero, List.set_cons_succ, i64_w, i32_w]
                                    rfl
                                  refine pure_ (i := 6) (N := some 42) (v := ?_) (a' := ?_) #[false, true, false, true, true, true, true, false, false, false, false] rfl rfl (any_of HT_.out (by kernel_rfl)) (fun _ _ _ h => h) (Or.inl ⟨by rfl, ?_⟩) ?_ ?_
                                  rotate_left
                                  · intro w'
                                    go_simp
                                    with_reducible rfl
                                  rotate_left
                                  · simp only [Act.put, List.setIfInBounds_toArray, List.set_cons_zero, List.set_cons_succ, i64_w, i32_w]
                                    rfl
                                  refine pure_ (i := 7) (N := some 43) (v := ?_) (a' := ?_) #[false, true, false, true, true, true, true, true, false, false, false] rfl rfl (any_of HT_.out (by kernel_rfl)) (fun _ _ _ h => h) (Or.inl ⟨by rfl, ?_⟩) ?_ ?_
                                  rotate_left
                                  · intro w'
                                    go_simp
                                    with_reducible rfl
                                  rotate_left
                                  · simp only [Act.put, List.setIfInBounds_toArray, List.set_cons_zero, List.set_cons_succ, i64_w, i32_w]
                                    rfl
                                  refine take_ (i := 8) (N := some 44) (v := ?_) (a' := ?_) #[false, true, false, true, true, true, true, true, true, false, false] rfl rfl (take_ofW HT_.out HW_.out (by kernel_rfl)) (fun _ _ _ h => h) (Or.inl ⟨by rfl, ?_⟩) hHeld ?_ ?_
                                  rotate_left
                                  · rintro w' ⟨s0, s1, s2, s3, s4, s5⟩
                                    go_simp
                                    with_reducible rfl
                                  rotate_left
                                  · simp only [Act.put, List.setIfInBounds_toArray, List.set_cons_zero, List.set_cons_succ, i64_w, i32_w]
                                    rfl
                                  refine one_ (i := 0) (N := some 36) #[true, true, false, true, true, true, true, true, true, false, false] rfl rfl (one_of HT_.out (by kernel_rfl)) (by decide) (fun K hK => ?_)
                                  refine Kd.R_lit_step (Kd.int .i64) _ 3 ?hg (N := 36) ?hd (xs := ([] : List Int)) (inner := []) (ok := fun _ => True) (okp := fun _ => True) ?hr ?hp (fun _ hk => hk) trivial (Below.refl _ _) (Nat.le_refl _) (by simp) ?_; (case hd => rfl); (case hg => rfl); (case hr => first | (go_simp; done) | (go_simp; rfl)); (case hp => exact (Reps.none _ _))
                                  intro v255 w36 ho37 hb hg_ hnew_
                                  clear hg_ hnew_
                                  (first | rw [← Ny254.out] at ho37 | (simp only [Int.reduceToNat] at ho37; rw [← Ny254.out] at ho37))
                                  have n0_ := Aside0.mk (Kd.R_below (by (with_reducible repeat (first | apply Kd.R_alloc | apply Kd.R_drewN | apply Kd.R_drew)); exact HO_5.out) hb)
                                  have n1_ := Aside0.mk (Kd.Q_elder' (by (with_reducible repeat (first | apply Kd.Q_alloc | apply Kd.Q_drewN | apply Kd.Q_drew)); exact HO251.out) (Kd.R_base ho37) hb)
                                  have n2_ := Aside0.mk (Kd.R_lower (Kd.R_new' ho37 (Kd.Q_lt (by (with_reducible repeat (first | apply Kd.Q_alloc | apply Kd.Q_drewN | apply Kd.Q_drew)); exact HO251.out))) (below_size (by repeat (first | (with_reducible first | exact HB.out | apply below_alloc | apply pw_below_drewN | apply below_drew1 | refine below_set ?_ GE237.out) | exact HB.out))))
                                  have n3_ := Aside0.mk (blk_below (g := gb237) (o := .cells #[.slice (some ad244) l0_0.length c0_0, .int .i64 a0_1] 34 (0, 0)) (by (with_reducible repeat (first | refine blk_drewN ?_ _ | refine blk_drew ?_ | refine blk_alloc ?_ _)); exact BK237.out) hb)
                                  have n4_ := Aside0.mk (below_step (by repeat (first | (with_reducible first | exact HB.out | apply below_alloc | apply pw_below_drewN | apply below_drew1 | refine below_set ?_ GE237.out) | exact HB.out)) hb)
                                  clear HO_5
                                  clear HO251
                                  clear BK237
                                  clear HB
                                  have HO_5 := n0_
                                  have HO251 := n1_
                                  have HO256 := n2_
                                  have BK237 := n3_
                                  have HB := n4_
                                  clear n0_ n1_ n2_ n3_ n4_
                                  clear hb ho37
                                  refine hK.out _ _ ⟨(blk_cell BK237.out 0).trans rfl, (blk_cell BK237.out 1).trans rfl, ((HB.out.cell (World.block_lt_of_cell? w _ hw260_0)).trans hw260_0), ((HB.out.cell (World.block_lt_of_cell? w _ hw260_1)).trans hw260_1), ((HB.out.cell (World.block_lt_of_cell? w _ hw260_2)).trans hw260_2), ((HB.out.cell (World.block_lt_of_cell? w _ hw260_3)).trans hw260_3)⟩ (fun hHeld => ?_)
                                  clear hK K
                                  refine norm_ (a' := ?_) ?_ ?_
                                  rotate_left
                                  · show Act.put _ (some 36) _ = _
                                    simp only [Act.put, List.setIfInBounds_toArray, List.set_cons_zero, List.set_cons_succ, i64_w, i32_w]
                                    rfl
                                  refine one_ (i := 2) (N := some 38) #[true, true, true, true, true, true, true, true, true, false, false] rfl rfl (one_of HT_.out (by kernel_rfl)) (by decide) (fun K hK => ?_)
                                  refine Kd.R_append_rows_step (Kd.int .i64) (w0 := w) w.heap.size (by rfl) (.tmp 36) (.tmp 37) 31 3 (.int .i64 0) 8 rfl Tryd.underlying31 info3 rfl (by decide) (by omega) v255 y254 y249 _ _ _ (fun k_ => some k_ ≠ (.slice A31 y249.length c31 : Value).ownBlock) (fun _ => False) rfl rfl ?aO ?aR (fun _ _ h => h) (fun _ h => h.elim) ?aF ?aB ?aS ?aL ?_
                                  (case aR => repeat (first | exact (Kd.Q_reads' HO251.out).2.2 | (with_reducible refine Kd.C_alloc ?_ _) | (with_reducible refine Kd.C_drewN ?_ _) | (with_reducible refine Kd.C_drew ?_)))
                                  (case aB => exact (by repeat (first | (with_reducible first | exact HB.out | apply below_alloc | apply pw_below_drewN | apply below_drew1 | refine below_set ?_ GE237.out) | exact HB.out)))
                                  (case aF => exact (fun k_ hk => Kd.fresh' (Kd.Q_lt (by (with_reducible repeat (first | apply Kd.Q_alloc | apply Kd.Q_drewN | apply Kd.Q_drew)); exact HO251.out)) k_ hk))
                                  (case aO => exact (by (with_reducible repeat (first | apply Kd.R_alloc | apply Kd.R_drewN | apply Kd.R_drew)); exact Kd.R_mono HO256.out (fun _ hk => hk.2)))
                                  (case aS => exact (below_size (by repeat (first | (with_reducible first | exact HB.out | apply below_alloc | apply pw_below_drewN | apply below_drew1 | refine below_set ?_ GE237.out) | exact HB.out))))
                                  (case aL => have := LMc27.out; omega)
                                  intro v258 w38 ho hb hg hat
                                  rw [← Ny257.out] at ho
                                  have n0_ := Aside0.mk (Kd.R_over' (by (with_reducible repeat (first | apply Kd.R_alloc | apply Kd.R_drewN | apply Kd.R_drew)); exact HO_5.out) (Kd.R_typed (by (with_reducible repeat (first | apply Kd.R_alloc | apply Kd.R_drewN | apply Kd.R_drew)); exact HO256.out)) (by decide) hg)
                                  have n1_ := Aside0.mk (Kd.Q_after (ok := (fun _ => True)) (by (with_reducible repeat (first | apply Kd.Q_alloc | apply Kd.Q_drewN | apply Kd.Q_drew)); exact HO251.out) hg hat)
                                  have n2_ := Aside0.mk (blk_grown (g := gb237) (o := .cells #[.slice (some ad244) l0_0.length c0_0, .int .i64 a0_1] 34 (0, 0)) (by (with_reducible repeat (first | refine blk_drewN ?_ _ | refine blk_drew ?_ | refine blk_alloc ?_ _)); exact BK237.out) hg (Kd.R_ne HO256.out BK237.out (by decide)))
                                  have n3_ := Aside0.mk (hb)
                                  have n4_ := Aside0.mk (ho)
                                  clear HO_5
                                  clear HO251
                                  clear BK237
                                  clear HB
                                  clear HO256
                                  have HO_5 := n0_
                                  have HO251 := n1_
                                  have BK237 := n2_
                                  have HB := n3_
                                  have HO259 := n4_
                                  clear n0_ n1_ n2_ n3_ n4_
                                  clear ho hb hg hat
                                  refine hK.out _ _ ⟨(blk_cell BK237.out 0).trans rfl, (blk_cell BK237.out 1).trans rfl, ((HB.out.cell (World.block_lt_of_cell? w _ hw260_0)).trans hw260_0), ((HB.out.cell (World.block_lt_of_cell? w _ hw260_1)).trans hw260_1), ((HB.out.cell (World.block_lt_of_cell? w _ hw260_2)).trans hw260_2), ((HB.out.cell (World.block_lt_of_cell? w _ hw260_3)).trans hw260_3)⟩ (fun hHeld => ?_)
                                  clear hK K
                                  refine norm_ (a' := ?_) ?_ ?_
                                  rotate_left
                                  · show Act.put _ (some 38) _ = _
                                    simp only [Act.put, List.setIfInBounds_toArray, List.set_cons_zero, List.set_cons_succ, i64_w, i32_w]
                                    rfl
                                  refine one_ (i := 9) (N := some 45) #[true, true, true, true, true, true, true, true, true, true, false] rfl rfl (one_of HT_.out (by kernel_rfl)) (by decide) (fun K hK => ?_)
                                  refine Kd.R_append_rows_step (Kd.int .i64) (w0 := w) w.heap.size (by rfl) (.tmp 38) (.tmp 44) 31 3 (.int .i64 0) 8 rfl Tryd.underlying31 info3 rfl (by decide) (by omega) v258 y257 ((rd_T52 l0_0 (rd x6_1 0)).f3) _ _ _ (fun k_ => some k_ ≠ (.slice A31 y249.length c31 : Value).ownBlock) (fun _ => False) rfl rfl ?aO ?aR (fun _ _ h => h) (fun _ h => h.elim) ?aF ?aB ?aS ?aL ?_
                                  (case aR => repeat (first | exact (Kd.C_below HR260_3.out HB.out) | (with_reducible refine Kd.C_alloc ?_ _) | (with_reducible refine Kd.C_drewN ?_ _) | (with_reducible refine Kd.C_drew ?_)))
                                  (case aB => exact (by repeat (first | (with_reducible first | exact HB.out | apply below_alloc | apply pw_below_drewN | apply below_drew1 | refine below_set ?_ GE237.out) | exact HB.out)))
                                  (case aF => exact (fun k_ hk => Kd.fresh' (Kd.Q_lt (by (with_reducible repeat (first | apply Kd.Q_alloc | apply Kd.Q_drewN | apply Kd.Q_drew)); exact HO251.out)) k_ hk))
                                  (case aO => exact (by (with_reducible repeat (first | apply Kd.R_alloc | apply Kd.R_drewN | apply Kd.R_drew)); exact HO259.out))
                                  (case aS => exact (below_size (by repeat (first | (with_reducible first | exact HB.out | apply below_alloc | apply pw_below_drewN | apply below_drew1 | refine below_set ?_ GE237.out) | exact HB.out))))
                                  (case aL => have := LMc29.out; omega)
                                  intro v262 w39 ho hb hg hat
                                  rw [← Ny261.out] at ho
                                  have n0_ := Aside0.mk (Kd.R_over' (by (with_reducible repeat (first | apply Kd.R_alloc | apply Kd.R_drewN | apply Kd.R_drew)); exact HO_5.out) (Kd.R_typed (by (with_reducible repeat (first | apply Kd.R_alloc | apply Kd.R_drewN | apply Kd.R_drew)); exact HO259.out)) (by decide) hg)
                                  have n1_ := Aside0.mk (Kd.Q_after (ok := (fun _ => True)) (by (with_reducible repeat (first | apply Kd.Q_alloc | apply Kd.Q_drewN | apply Kd.Q_drew)); exact HO251.out) hg hat)
                                  have n2_ := Aside0.mk (blk_grown (g := gb237) (o := .cells #[.slice (some ad244) l0_0.length c0_0, .int .i64 a0_1] 34 (0, 0)) (by (with_reducible repeat (first | refine blk_drewN ?_ _ | refine blk_drew ?_ | refine blk_alloc ?_ _)); exact BK237.out) hg (Kd.R_ne HO259.out BK237.out (by decide)))
                                  have n3_ := Aside0.mk (hb)
                                  have n4_ := Aside0.mk (ho)
                                  clear HO_5
                                  clear HO251
                                  clear BK237
                                  clear HB
                                  clear HO259
                                  have HO_5 := n0_
                                  have HO251 := n1_
                                  have BK237 := n2_
                                  have HB := n3_
                                  have HO263 := n4_
                                  clear n0_ n1_ n2_ n3_ n4_
                                  clear ho hb hg hat
                                  refine hK.out _ _ ⟨(blk_cell BK237.out 0).trans rfl, (blk_cell BK237.out 1).trans rfl, ((HB.out.cell (World.block_lt_of_cell? w _ hw260_0)).trans hw260_0), ((HB.out.cell (World.block_lt_of_cell? w _ hw260_1)).trans hw260_1), ((HB.out.cell (World.block_lt_of_cell? w _ hw260_2)).trans hw260_2), ((HB.out.cell (World.block_lt_of_cell? w _ hw260_3)).trans hw260_3)⟩ (fun hHeld => ?_)
                                  clear hK K
                                  refine norm_ (a' := ?_) ?_ ?_
                                  rotate_left
                                  · show Act.put _ (some 45) _ = _
                                    simp only [Act.put, List.setIfInBounds_toArray, List.set_cons_zero, List.set_cons_succ, i64_w, i32_w]
                                    rfl
                                  refine pure_ (i := 10) (N := some 6) (v := ?_) (a' := ?_) #[true, true, true, true, true, true, true, true, true, true, true] rfl rfl (any_of HT_.out (by kernel_rfl)) (fun _ _ _ h => h) (Or.inl ⟨by rfl, ?_⟩) ?_ ?_
                                  rotate_left
                                  · intro w'
                                    go_simp
                                    with_reducible rfl
                                  rotate_left
                                  · simp only [Act.put, List.setIfInBounds_toArray, List.set_cons_zero, List.set_cons_succ, i64_w, i32_w]
                                    rfl
                                  refine done_ (done_of HT_.out (by kernel_rfl)) ?_
                                  try go_wp2
                                  go_roundg k1
                                  case measure => have := HK1.out; omega
                                  case rel => exact ⟨(y253), (y261), H', ⟨by have := HK1.out; omega⟩, ⟨by (with_reducible repeat (first | apply Kd.R_alloc | apply Kd.R_drewN | apply Kd.R_drew)); exact HO_5.out⟩, ⟨Kd.Q_of_R (by (with_reducible repeat (first | apply Kd.R_alloc | apply Kd.R_drewN | apply Kd.R_drew)); exact Kd.R_mono HO263.out (fun _ hk => trivial))⟩, ⟨by (with_reducible repeat (first | refine blk_drewN ?_ _ | refine blk_drew ?_ | refine blk_alloc ?_ _)); exact BK237.out⟩, ⟨by repeat (first | (with_reducible first | exact HB.out | apply below_alloc | apply pw_below_drewN | apply below_drew1 | refine below_set ?_ GE237.out) | exact HB.out)⟩⟩
                                · rw [if_neg c29] at H
                                  exact absurd H (by simp)
                              · rw [if_neg c28] at H
                                exact absurd H (by simp)
                            · rw [if_neg c27] at H
                              exact absurd H (by simp)
                        · rw [if_neg c20] at H
                          exact absurd H (by simp)
                      · rw [if_neg c19] at H
                        exact absurd H (by simp)
                    · rw [if_neg c18] at H
                      exact absurd H (by simp)
                  · rw [if_neg c17] at H
                    exact absurd H (by simp)
                · rw [if_neg c16] at H
                  have c16b0 : decide (0 < (x6_1.length : Int)) = false := decide_eq_false c16
                  have c16b1 : decide (0 < x6_1.length) = false := decide_eq_false (by omega)
                  clear c16
                  obtain rfl := Option.some.inj H
                  obtain ⟨Ao40, co40, eo40, _⟩ := Kd.Q_slice HO_6.out
                  subst eo40
                  go_wp2
                  go_ret
                  exact ⟨_, by first | rfl | (simp [errW_none, errW_some] <;> rfl) | (simp [*, errW_none, errW_some] <;> rfl), by (with_reducible repeat (first | apply Kd.R_alloc | apply Kd.R_drewN | apply Kd.R_drew)); exact HO_5.out, by repeat (first | (with_reducible first | exact HB.out | apply below_alloc | apply pw_below_drewN | apply below_drew1 | refine below_set ?_ GE237.out) | exact HB.out)⟩
          · rw [if_neg c7] at H
            exact absurd H (by simp)
        · rw [if_neg c6] at H
          exact absurd H (by simp)
      · rw [if_neg c5] at H
        exact absurd H (by simp)
    · rw [if_neg c4] at H
      exact absurd H (by simp)
  · rw [if_neg c3] at H
    exact absurd H (by simp)

end Go.Proofs.YtdfneldenipljaaDoor.PClassNumbers
end
