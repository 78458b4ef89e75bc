/- Part 6 of the texts that the rows of this seat rest on, joined by a program: what its functions come to. Conditions: those that each theorem states. -/
import Derived.Test.YtggldnbhmebcpaaGreatDoorQee
import Derived.Lib.MapLaws
import Derived.Test.YtggldnbhmebcpaaGreatDoorCards
import Derived.Test.YtggldnbhmebcpaaGreatDoorTie
import Derived.OpenShut
import Derived.ChangeOld
import Derived.SizedLaws
import Derived.LaidMore
import Derived.Lay
import Derived.SevenTiedAt
import Derived.Stop.Joined
import Derived.Lib.LaidU8
import Derived.Lib.LaidPrint
import Derived.Lib.LaidTab
set_option linter.unusedVariables false
set_option linter.unusedSimpArgs false
section
namespace Go.Proofs.YtggldnbhmebcpaaGreatDoor.L
open Go.RowKit Go.ChangeShapes Go.WideShapes Go.Proofs.YtggldnbhmebcpaaGreatDoorW.PrintWords Go.Proofs.YtggldnbhmebcpaaGreatDoorW.PrintLast Go.Proofs.YtggldnbhmebcpaaGreatDoorW.PrintMore
attribute [local go_sem] max2_int min2_int max_two min_two max_three min_three max_four min_four
open Go.Proofs.YtggldnbhmebcpaaGreatDoor.PDeltaMakes
def B (s : ByteArray) (i : Nat) : Nat := (s.get! i).toNat
theorem B_lt (s : ByteArray) (i : Nat) : B s i < 256 := UInt8.toNat_lt _
theorem bt_B (s : ByteArray) (i : Nat) (h : i < s.size) : bt s (i : Int) = (B s i : Int) := by
  unfold bt B
  rw [dif_pos (by simpa using h)]
  have : s[i] = s.get! i := by
    show s.data[i] = s.data[i]!
    rw [getElem!_pos]
  rw [← this]; rfl
theorem ext_bytes (s : ByteArray) (p z : Nat) (h : p + z ≤ s.size) : (s.extract p (p + z)).toList = bytesL ((List.range z).map fun i => B s (p + i)) := by
  rw [Lib.toList_data]
  refine List.ext_getElem ?_ (fun i h1 h2 => ?_)
  · have : s.size = s.data.size := rfl
    simp [bytesL]; omega
  · have hz : i < z := by simpa [bytesL] using h2
    simp only [bytesL, List.getElem_map, List.getElem_range, B]
    rw [UInt8.ofNat_toNat]
    have : s.get! (p + i) = s.data[p + i]! := rfl
    rw [this, getElem!_pos s.data (p + i) (show p + i < s.data.size by have : s.size = s.data.size := rfl; omega)]
    simp
theorem bytesL_inj : ∀ (l m : List Nat), (∀ x ∈ l, x < 256) → (∀ x ∈ m, x < 256) → (bytesL l = bytesL m ↔ l = m)
  | [], [], _, _ => by simp
  | [], y :: m, _, _ => by simp [bytesL]
  | x :: l, [], _, _ => by simp [bytesL]
  | x :: l, y :: m, h1, h2 => by
    have ih := bytesL_inj l m (fun z hz => h1 z (by simp [hz])) (fun z hz => h2 z (by simp [hz]))
    have hx := h1 x (by simp)
    have hy := h2 y (by simp)
    simp only [bytesL, List.map_cons, List.cons.injEq] at ih ⊢
    rw [ih]
    refine and_congr_left (fun _ => ⟨fun h => ?_, fun h => by rw [h]⟩)
    have := congrArg UInt8.toNat h
    simpa [Nat.mod_eq_of_lt hx, Nat.mod_eq_of_lt hy] using this
theorem charN_lt (n : Nat) (hn : n ≤ 1114111) : ∀ x ∈ charN n, x < 256 := by
  intro x hx
  unfold charN at hx
  by_cases h0 : 1114111 < n ∨ (55296 ≤ n ∧ n ≤ 57343)
  · rw [if_pos h0] at hx; simp at hx
  · rw [if_neg h0] at hx
    by_cases h1 : n < 128
    · rw [if_pos h1] at hx; simp at hx; omega
    · rw [if_neg h1] at hx
      by_cases h2 : n < 2048
      · rw [if_pos h2] at hx; simp at hx; omega
      · rw [if_neg h2] at hx
        by_cases h3 : n < 65536
        · rw [if_pos h3] at hx; simp at hx; omega
        · rw [if_neg h3] at hx; simp at hx; omega
def okZ (s : ByteArray) (p z : Nat) (x : Int) : Prop := 0 ≤ x ∧ x ≤ 1114111 ∧ charN x.toNat = (List.range z).map fun i => B s (p + i)
theorem fin_at (k : Nat) (s : ByteArray) (p z : Nat) (x : Int) (hp : p + z ≤ s.size) (hs : s.size ≤ 1000000) :
    (okZ s p z x → dioramaref05_At.l1 (k + 2) s (p : Int) (z : Int) x (z : Int) = some (x, (z : Int))) ∧ (¬ okZ s p z x → dioramaref05_At.l1 (k + 2) s (p : Int) (z : Int) x (z : Int) = dioramaref05_At.l0 (k + 1) s (p : Int) ((z + 1 : Nat) : Int)) := by
  have hz : wrap64 ((z : Int) + 1) = ((z + 1 : Nat) : Int) := by rw [wrap64_in _ (by omega)]; rfl
  have hpz : wrap64 ((p : Int) + z) = ((p + z : Nat) : Int) := by rw [wrap64_in _ (by omega)]; rfl
  rw [dioramaref05_At.l1, if_neg (Int.lt_irrefl _), hz]
  by_cases h0 : x ≥ 0
  · rw [if_pos h0]
    by_cases h1 : x ≤ 1114111
    · rw [if_pos h1]
      have hw : wrap32 x = x := wrap32_in x (by omega)
      obtain ⟨n, rfl⟩ : ∃ n : Nat, x = (n : Int) := ⟨x.toNat, by omega⟩
      have hn : n ≤ 1114111 := by omega
      obtain ⟨t, ht, hb⟩ := char_f k n hn
      rw [hw, ht, Option.bind_some, hpz, if_pos (Int.natCast_nonneg p), if_pos (show (p : Int) ≤ ((p + z : Nat) : Int) by omega), if_pos (show ((p + z : Nat) : Int) ≤ (s.size : Int) by omega)]
      rw [hb, Int.toNat_natCast, Int.toNat_natCast, ext_bytes s p z hp]
      have hi := bytesL_inj (charN n) ((List.range z).map fun i => B s (p + i)) (charN_lt n hn) (fun x hx => by
        obtain ⟨i, _, rfl⟩ := List.mem_map.1 hx
        exact B_lt _ _)
      refine ⟨fun hok => ?_, fun hok => ?_⟩
      · rw [if_pos (hi.2 (by have := hok.2.2; rwa [Int.toNat_natCast] at this))]
      · rw [if_neg (fun h => hok ⟨h0, h1, by rw [Int.toNat_natCast]; exact hi.1 h⟩)]
    · rw [if_neg h1]
      exact ⟨fun h => absurd h.2.1 h1, fun _ => rfl⟩
  · rw [if_neg h0]
    exact ⟨fun h => absurd h.1 h0, fun _ => rfl⟩
theorem l1_step (k : Nat) (s : ByteArray) (p z j : Nat) (x : Int) (hj : j < z) (hp : p + z ≤ s.size) (hs : s.size ≤ 1000000) (hx : -100000000 ≤ x ∧ x ≤ 100000000) :
    dioramaref05_At.l1 (k + 1) s (p : Int) (z : Int) x (j : Int) = dioramaref05_At.l1 k s (p : Int) (z : Int) (64 * x + (B s (p + j) : Int) - 128) ((j + 1 : Nat) : Int) := by
  have hb := B_lt s (p + j)
  rw [dioramaref05_At.l1, if_pos (show (j : Int) < z by omega)]
  have e1 : wrap64 ((p : Int) + j) = ((p + j : Nat) : Int) := by rw [wrap64_in _ (by omega)]; rfl
  have e2 : wrap64 ((j : Int) + 1) = ((j + 1 : Nat) : Int) := by rw [wrap64_in _ (by omega)]; rfl
  rw [e1, e2, if_pos (Int.natCast_nonneg _), if_pos (show ((p + j : Nat) : Int) < (s.size : Int) by omega), bt_B s (p + j) (by omega)]
  clear e1 e2
  generalize B s (p + j) = y at hb
  rw [wrap64_in (64 * x) (by omega), wrap64_in (y : Int) (by omega), wrap64_in (64 * x + y) (by omega), wrap64_in (64 * x + y - 128) (by omega)]
def numZ (s : ByteArray) (p z : Nat) : Int :=
  if z = 1 then B s p else if z = 2 then 64 * ((B s p : Int) - 192) + B s (p + 1) - 128
  else if z = 3 then 64 * (64 * ((B s p : Int) - 224) + B s (p + 1) - 128) + B s (p + 2) - 128
  else 64 * (64 * (64 * ((B s p : Int) - 240) + B s (p + 1) - 128) + B s (p + 2) - 128) + B s (p + 3) - 128
theorem l0_step (k : Nat) (s : ByteArray) (p z : Nat) (hz : 1 ≤ z ∧ z ≤ 4) (hs : s.size ≤ 1000000) (hp : p < s.size) :
    (p + z ≤ s.size → okZ s p z (numZ s p z) → dioramaref05_At.l0 (k + 1 + 5 + z) s (p : Int) (z : Int) = some (numZ s p z, (z : Int)))
    ∧ (p + z ≤ s.size → ¬ okZ s p z (numZ s p z) → dioramaref05_At.l0 (k + 1 + 5 + z) s (p : Int) (z : Int) = dioramaref05_At.l0 (k + 1) s (p : Int) ((z + 1 : Nat) : Int))
    ∧ (¬ p + z ≤ s.size → dioramaref05_At.l0 (k + 1 + 5 + z) s (p : Int) (z : Int) = some (0, 0)) := by
  have hb := B_lt s p
  have hw : wrap64 ((p : Int) + z) = ((p + z : Nat) : Int) := by rw [wrap64_in _ (by omega)]; rfl
  have e0 : dioramaref05_At.l0 (k + 1 + 5 + z) s (p : Int) (z : Int) = dioramaref05_At.j1 (k + 1 + 4 + z) s (p : Int) (z : Int) (decide (p + z ≤ s.size)) := by
    rw [show k + 1 + 5 + z = (k + 1 + 4 + z) + 1 by omega, dioramaref05_At.l0, if_pos (show (z : Int) ≤ 4 by omega), hw]
    congr 1
    exact decide_eq_decide.2 (by omega)
  rw [e0]
  clear e0 hw
  by_cases hpz : p + z ≤ s.size
  · rw [decide_eq_true hpz, show k + 1 + 4 + z = (k + 1 + 3 + z) + 1 by omega, dioramaref05_At.j1, if_pos rfl, if_pos (Int.natCast_nonneg p), if_pos (show (p : Int) < s.size by omega), bt_B s p hp, wrap64_in (B s p : Int) (by generalize B s p = y at hb; omega)]
    have c : ∀ x : Int, dioramaref05_At.j4 (k + 1 + 1 + z) s (p : Int) (z : Int) x = dioramaref05_At.l1 (k + 1 + z) s (p : Int) (z : Int) x 1 := fun x => by
      rw [show k + 1 + 1 + z = (k + 1 + z) + 1 by omega, dioramaref05_At.j4]
    have key : dioramaref05_At.l1 (k + 1 + z) s (p : Int) (z : Int) ((B s p : Int) - (if z = 2 then 192 else if z = 3 then 224 else if z = 4 then 240 else 0)) 1 = dioramaref05_At.l1 (k + 2) s (p : Int) (z : Int) (numZ s p z) (z : Int) := by
      have b1 := B_lt s (p + 1)
      have b2 := B_lt s (p + 2)
      have hz4 : z = 1 ∨ z = 2 ∨ z = 3 ∨ z = 4 := by omega
      rcases hz4 with rfl | rfl | rfl | rfl
      · unfold numZ; simp
      · have h1 := l1_step (k + 2) s p 2 1 ((B s p : Int) - 192) (by omega) hpz hs (by generalize B s p = y at hb; omega)
        exact h1
      · have h1 := l1_step (k + 3) s p 3 1 ((B s p : Int) - 224) (by omega) hpz hs (by generalize B s p = y at hb; omega)
        have h2 := l1_step (k + 2) s p 3 2 (64 * ((B s p : Int) - 224) + B s (p + 1) - 128) (by omega) hpz hs (by generalize B s p = y at hb; generalize B s (p + 1) = y1 at b1; omega)
        exact h1.trans h2
      · have h1 := l1_step (k + 4) s p 4 1 ((B s p : Int) - 240) (by omega) hpz hs (by generalize B s p = y at hb; omega)
        have h2 := l1_step (k + 3) s p 4 2 (64 * ((B s p : Int) - 240) + B s (p + 1) - 128) (by omega) hpz hs (by generalize B s p = y at hb; generalize B s (p + 1) = y1 at b1; omega)
        have h3 := l1_step (k + 2) s p 4 3 (64 * (64 * ((B s p : Int) - 240) + B s (p + 1) - 128) + B s (p + 2) - 128) (by omega) hpz hs (by generalize B s p = y at hb; generalize B s (p + 1) = y1 at b1; generalize B s (p + 2) = y2 at b2; omega)
        exact h1.trans (h2.trans h3)
    have hall : (if (z : Int) = 2 then (dioramaref05_At.j2 (k + 1 + 3 + z) s (p : Int) (z : Int) (wrap64 ((B s p : Int) - 192))) else (dioramaref05_At.j2 (k + 1 + 3 + z) s (p : Int) (z : Int) (B s p : Int))) = dioramaref05_At.l1 (k + 2) s (p : Int) (z : Int) (numZ s p z) (z : Int) := by
      rw [← key, ← c]
      have f2 : ∀ x : Int, dioramaref05_At.j2 (k + 1 + 3 + z) s (p : Int) (z : Int) x = (if (z : Int) = 3 then (dioramaref05_At.j3 (k + 1 + 2 + z) s (p : Int) (z : Int) (wrap64 (x - 224))) else (dioramaref05_At.j3 (k + 1 + 2 + z) s (p : Int) (z : Int) x)) := fun x => by
        rw [show k + 1 + 3 + z = (k + 1 + 2 + z) + 1 by omega, dioramaref05_At.j2]
      have f3 : ∀ x : Int, dioramaref05_At.j3 (k + 1 + 2 + z) s (p : Int) (z : Int) x = (if (z : Int) = 4 then (dioramaref05_At.j4 (k + 1 + 1 + z) s (p : Int) (z : Int) (wrap64 (x - 240))) else (dioramaref05_At.j4 (k + 1 + 1 + z) s (p : Int) (z : Int) x)) := fun x => by
        rw [show k + 1 + 2 + z = (k + 1 + 1 + z) + 1 by omega, dioramaref05_At.j3]
      have w1 : wrap64 ((B s p : Int) - 192) = (B s p : Int) - 192 := wrap64_in _ (by generalize B s p = y at hb; omega)
      have w2 : wrap64 ((B s p : Int) - 224) = (B s p : Int) - 224 := wrap64_in _ (by generalize B s p = y at hb; omega)
      have w3 : wrap64 ((B s p : Int) - 240) = (B s p : Int) - 240 := wrap64_in _ (by generalize B s p = y at hb; omega)
      have hz4 : z = 1 ∨ z = 2 ∨ z = 3 ∨ z = 4 := by omega
      rcases hz4 with rfl | rfl | rfl | rfl
      · rw [if_neg (by decide), f2, if_neg (by decide), f3, if_neg (by decide), if_neg (by decide), if_neg (by decide), if_neg (by decide), Int.sub_zero]
      · rw [if_pos (by decide), w1, f2, if_neg (by decide), f3, if_neg (by decide), if_pos (by decide)]
      · rw [if_neg (by decide), f2, if_pos (by decide), w2, f3, if_neg (by decide), if_neg (by decide), if_pos (by decide)]
      · rw [if_neg (by decide), f2, if_neg (by decide), f3, if_pos (by decide), w3, if_neg (by decide), if_neg (by decide), if_pos (by decide)]
    rw [hall]
    have hf := fin_at k s p z (numZ s p z) hpz hs
    exact ⟨fun _ h => hf.1 h, fun _ h => hf.2 h, fun h => absurd hpz h⟩
  · rw [decide_eq_false hpz, show k + 1 + 4 + z = (k + 1 + 3 + z) + 1 by omega, dioramaref05_At.j1, if_neg (by decide)]
    exact ⟨fun h => absurd h hpz, fun h => absurd h hpz, fun _ => rfl⟩
end Go.Proofs.YtggldnbhmebcpaaGreatDoor.L
end
section
namespace Go.Proofs.YtggldnbhmebcpaaGreatDoor.L
open Go.RowKit Go.ChangeShapes Go.WideShapes Go.Proofs.YtggldnbhmebcpaaGreatDoorW.PrintWords Go.Proofs.YtggldnbhmebcpaaGreatDoorW.PrintLast Go.Proofs.YtggldnbhmebcpaaGreatDoorW.PrintMore
attribute [local go_sem] max2_int min2_int max_two min_two max_three min_three max_four min_four
open Go.Proofs.YtggldnbhmebcpaaGreatDoor.PDeltaMakes
theorem range4 {α : Type} (f : Nat → α) : (List.range 1).map f = [f 0] ∧ (List.range 2).map f = [f 0, f 1] ∧ (List.range 3).map f = [f 0, f 1, f 2] ∧ (List.range 4).map f = [f 0, f 1, f 2, f 3] := ⟨rfl, rfl, rfl, rfl⟩
def okN (b0 b1 b2 b3 z : Nat) (x : Int) : Prop := 0 ≤ x ∧ x ≤ 1114111 ∧ charN x.toNat = (if z = 1 then [b0] else if z = 2 then [b0, b1] else if z = 3 then [b0, b1, b2] else [b0, b1, b2, b3])
def nuN (b0 b1 b2 b3 z : Nat) : Int :=
  if z = 1 then b0 else if z = 2 then 64 * ((b0 : Int) - 192) + b1 - 128
  else if z = 3 then 64 * (64 * ((b0 : Int) - 224) + b1 - 128) + b2 - 128
  else 64 * (64 * (64 * ((b0 : Int) - 240) + b1 - 128) + b2 - 128) + b3 - 128
theorem okZ_N (s : ByteArray) (p z : Nat) (hz : 1 ≤ z ∧ z ≤ 4) (x : Int) : okZ s p z x ↔ okN (B s p) (B s (p + 1)) (B s (p + 2)) (B s (p + 3)) z x := by
  unfold okZ okN
  have h4 : z = 1 ∨ z = 2 ∨ z = 3 ∨ z = 4 := by omega
  have r := range4 (fun i => B s (p + i))
  rcases h4 with rfl | rfl | rfl | rfl
  · rw [r.1]; rfl
  · rw [r.2.1]; rfl
  · rw [r.2.2.1]; rfl
  · rw [r.2.2.2]; rfl
theorem charN_cases (n : Nat) (hn : n ≤ 1114111) : (charN n = [] ∧ 55296 ≤ n ∧ n ≤ 57343) ∨ (charN n = [n] ∧ n < 128) ∨ (charN n = [192 + n / 64, 128 + n % 64] ∧ 128 ≤ n ∧ n < 2048) ∨ (charN n = [224 + n / 4096, 128 + n / 64 % 64, 128 + n % 64] ∧ 2048 ≤ n ∧ n < 65536 ∧ ¬ (55296 ≤ n ∧ n ≤ 57343)) ∨ (charN n = [240 + n / 262144, 128 + n / 4096 % 64, 128 + n / 64 % 64, 128 + n % 64] ∧ 65536 ≤ n) := by
  unfold charN
  by_cases h0 : 55296 ≤ n ∧ n ≤ 57343
  · rw [if_pos (.inr h0)]; exact .inl ⟨rfl, h0⟩
  · rw [if_neg (by omega)]
    by_cases h1 : n < 128
    · rw [if_pos h1]; exact .inr (.inl ⟨rfl, h1⟩)
    · rw [if_neg h1]
      by_cases h2 : n < 2048
      · rw [if_pos h2]; exact .inr (.inr (.inl ⟨rfl, by omega, h2⟩))
      · rw [if_neg h2]
        by_cases h3 : n < 65536
        · rw [if_pos h3]; exact .inr (.inr (.inr (.inl ⟨rfl, by omega, h3, h0⟩)))
        · rw [if_neg h3]; exact .inr (.inr (.inr (.inr ⟨rfl, by omega⟩)))
theorem ok_dec (r b0 b1 b2 b3 z : Nat) (hz : 1 ≤ z ∧ z ≤ 4) (hr : z ≤ r) (h : okN b0 b1 b2 b3 z (nuN b0 b1 b2 b3 z)) :
    Lib.decodeN r b0 b1 b2 b3 = ((nuN b0 b1 b2 b3 z).toNat, z) ∧ ¬ ((nuN b0 b1 b2 b3 z).toNat = 65533 ∧ z = 1) := by
  obtain ⟨h0, h1, h2⟩ := h
  have hc := charN_cases (nuN b0 b1 b2 b3 z).toNat (by omega)
  have hmx : (nuN b0 b1 b2 b3 z).toNat ≤ 1114111 := by omega
  generalize (nuN b0 b1 b2 b3 z).toNat = n at *
  clear h0 h1
  have h4 : z = 1 ∨ z = 2 ∨ z = 3 ∨ z = 4 := by omega
  rcases h4 with rfl | rfl | rfl | rfl
  · rw [if_pos rfl] at h2
    rcases hc with ⟨hc, ha⟩ | ⟨hc, ha⟩ | ⟨hc, ha⟩ | ⟨hc, ha⟩ | ⟨hc, ha⟩ <;> rw [hc] at h2 <;> simp only [List.cons.injEq, reduceCtorEq, and_true, and_false, false_and] at h2
    subst h2
    unfold Lib.decodeN
    rw [if_pos ha]
    exact ⟨rfl, by omega⟩
  · rw [if_neg (by decide), if_pos rfl] at h2
    rcases hc with ⟨hc, ha⟩ | ⟨hc, ha⟩ | ⟨hc, ha⟩ | ⟨hc, ha⟩ | ⟨hc, ha⟩ <;> rw [hc] at h2 <;> simp only [List.cons.injEq, reduceCtorEq, and_true, and_false, false_and] at h2
    obtain ⟨e0, e1⟩ := h2
    unfold Lib.decodeN
    rw [if_neg (by omega), if_pos (by omega), if_pos (by omega)]
    exact ⟨Prod.ext (by show _ = n; omega) rfl, by omega⟩
  · rw [if_neg (by decide), if_neg (by decide), if_pos rfl] at h2
    rcases hc with ⟨hc, ha⟩ | ⟨hc, ha⟩ | ⟨hc, ha⟩ | ⟨hc, ha⟩ | ⟨hc, ha⟩ <;> rw [hc] at h2 <;> simp only [List.cons.injEq, reduceCtorEq, and_true, and_false, false_and] at h2
    obtain ⟨e0, e1, e2⟩ := h2
    unfold Lib.decodeN
    rw [if_neg (by omega), if_neg (by omega), if_pos (by omega), if_pos (by omega)]
    exact ⟨Prod.ext (by show _ = n; omega) rfl, by omega⟩
  · rw [if_neg (by decide), if_neg (by decide), if_neg (by decide)] at h2
    rcases hc with ⟨hc, ha⟩ | ⟨hc, ha⟩ | ⟨hc, ha⟩ | ⟨hc, ha⟩ | ⟨hc, ha⟩ <;> rw [hc] at h2 <;> simp only [List.cons.injEq, reduceCtorEq, and_true, and_false, false_and] at h2
    obtain ⟨e0, e1, e2, e3⟩ := h2
    unfold Lib.decodeN
    rw [if_neg (by omega), if_neg (by omega), if_neg (by omega), if_pos (by omega), if_pos (by omega)]
    exact ⟨Prod.ext (by show _ = n; omega) rfl, by omega⟩
theorem dec_ok (r b0 b1 b2 b3 : Nat) (k0 : b0 < 256) (k1 : b1 < 256) (k2 : b2 < 256) (k3 : b3 < 256) :
    Lib.decodeN r b0 b1 b2 b3 = (65533, 1) ∨ ∃ z, 1 ≤ z ∧ z ≤ 4 ∧ (z = 1 ∨ z ≤ r) ∧ okN b0 b1 b2 b3 z (nuN b0 b1 b2 b3 z) := by
  rcases Lib.decodeN_shape r b0 b1 b2 b3 with ⟨c, e⟩ | ⟨c1, c2, c3, cv, e⟩ | ⟨c1, c2, c3, c4, cv, cs, e⟩ | ⟨c1, c2, c3, c4, c5, cv, cw, e⟩ | e
  · refine .inr ⟨1, by omega, by omega, .inl rfl, ?_⟩
    have hn : nuN b0 b1 b2 b3 1 = ((b0 : Nat) : Int) := rfl
    rw [hn]
    refine ⟨by omega, by omega, ?_⟩
    rw [Int.toNat_natCast, if_pos rfl]
    unfold charN
    rw [if_neg (by omega), if_pos c]
  · refine .inr ⟨2, by omega, by omega, .inr (by omega), ?_⟩
    have hn : nuN b0 b1 b2 b3 2 = ((b0 % 32 * 64 + b1 % 64 : Nat) : Int) := by
      show 64 * ((b0 : Int) - 192) + b1 - 128 = _
      omega
    rw [hn]
    clear hn e
    refine ⟨by omega, by omega, ?_⟩
    rw [Int.toNat_natCast, if_neg (by decide), if_pos rfl]
    unfold charN
    rw [if_neg (by omega), if_neg (by omega), if_pos (by omega)]
    rw [show 192 + (b0 % 32 * 64 + b1 % 64) / 64 = b0 by omega, show 128 + (b0 % 32 * 64 + b1 % 64) % 64 = b1 by omega]
  · refine .inr ⟨3, by omega, by omega, .inr (by omega), ?_⟩
    have hn : nuN b0 b1 b2 b3 3 = ((b0 % 16 * 4096 + b1 % 64 * 64 + b2 % 64 : Nat) : Int) := by
      show 64 * (64 * ((b0 : Int) - 224) + b1 - 128) + b2 - 128 = _
      omega
    rw [hn]
    clear hn e
    refine ⟨by omega, by omega, ?_⟩
    rw [Int.toNat_natCast, if_neg (by decide), if_neg (by decide), if_pos rfl]
    unfold charN
    rw [if_neg (by omega), if_neg (by omega), if_neg (by omega), if_pos (by omega)]
    rw [show 224 + (b0 % 16 * 4096 + b1 % 64 * 64 + b2 % 64) / 4096 = b0 by omega, show 128 + (b0 % 16 * 4096 + b1 % 64 * 64 + b2 % 64) / 64 % 64 = b1 by omega, show 128 + (b0 % 16 * 4096 + b1 % 64 * 64 + b2 % 64) % 64 = b2 by omega]
  · refine .inr ⟨4, by omega, by omega, .inr (by omega), ?_⟩
    have hn : nuN b0 b1 b2 b3 4 = ((b0 % 8 * 262144 + b1 % 64 * 4096 + b2 % 64 * 64 + b3 % 64 : Nat) : Int) := by
      show 64 * (64 * (64 * ((b0 : Int) - 240) + b1 - 128) + b2 - 128) + b3 - 128 = _
      omega
    rw [hn]
    clear hn e
    refine ⟨by omega, by omega, ?_⟩
    rw [Int.toNat_natCast, if_neg (by decide), if_neg (by decide), if_neg (by decide)]
    unfold charN
    rw [if_neg (by omega), if_neg (by omega), if_neg (by omega), if_neg (by omega)]
    rw [show 240 + (b0 % 8 * 262144 + b1 % 64 * 4096 + b2 % 64 * 64 + b3 % 64) / 262144 = b0 by omega, show 128 + (b0 % 8 * 262144 + b1 % 64 * 4096 + b2 % 64 * 64 + b3 % 64) / 4096 % 64 = b1 by omega, show 128 + (b0 % 8 * 262144 + b1 % 64 * 4096 + b2 % 64 * 64 + b3 % 64) / 64 % 64 = b2 by omega, show 128 + (b0 % 8 * 262144 + b1 % 64 * 4096 + b2 % 64 * 64 + b3 % 64) % 64 = b3 by omega]
  · exact .inl e
theorem decode_B (s : ByteArray) (p : Nat) : Utf8.decode s p = Lib.decodeN (s.size - p) (B s p) (B s (p + 1)) (B s (p + 2)) (B s (p + 3)) := Lib.decode_at s p
theorem nuN_B (s : ByteArray) (p z : Nat) : numZ s p z = nuN (B s p) (B s (p + 1)) (B s (p + 2)) (B s (p + 3)) z := rfl
theorem found (s : ByteArray) (p z : Nat) (hz : 1 ≤ z ∧ z ≤ 4) (hp : p + z ≤ s.size) (h : okZ s p z (numZ s p z)) : ¬ Utf8.decode s p = (65533, 1) ∧ (z : Int) = ((Utf8.decode s p).2 : Int) := by
  have h1 := ok_dec (s.size - p) _ _ _ _ z hz (by omega) (by rw [← nuN_B]; exact (okZ_N s p z hz _).1 h)
  rw [decode_B, h1.1]
  exact ⟨fun e => h1.2 ⟨(Prod.mk.inj e).1, (Prod.mk.inj e).2⟩, rfl⟩
theorem none_bad (s : ByteArray) (p : Nat) (hp : p < s.size) (h : ∀ z, 1 ≤ z → z ≤ 4 → ¬ (p + z ≤ s.size ∧ okZ s p z (numZ s p z))) : Utf8.decode s p = (65533, 1) := by
  rw [decode_B]
  refine (dec_ok (s.size - p) _ _ _ _ (B_lt _ _) (B_lt _ _) (B_lt _ _) (B_lt _ _)).resolve_right ?_
  rintro ⟨z, h1, h4, hr, hok⟩
  exact h z h1 h4 ⟨by omega, by rw [okZ_N s p z ⟨h1, h4⟩, nuN_B]; exact hok⟩
def AtPost (s : ByteArray) (p : Nat) (r : Option (Int × Int)) : Prop := ∃ c n : Int, r = some (c, n) ∧ (Utf8.decode s p = (65533, 1) → n = 0) ∧ (¬ Utf8.decode s p = (65533, 1) → n = ((Utf8.decode s p).2 : Int))
theorem at_step (s : ByteArray) (p z k : Nat) (hs : s.size ≤ 1000000) (hp : p < s.size) (hz : 1 ≤ z ∧ z ≤ 4) (hprev : ∀ y, 1 ≤ y → y < z → ¬ (p + y ≤ s.size ∧ okZ s p y (numZ s p y)))
    (hnext : (∀ y, 1 ≤ y → y < z + 1 → ¬ (p + y ≤ s.size ∧ okZ s p y (numZ s p y))) → AtPost s p (dioramaref05_At.l0 (k + 1) s (p : Int) ((z + 1 : Nat) : Int))) : AtPost s p (dioramaref05_At.l0 (k + 1 + 5 + z) s (p : Int) (z : Int)) := by
  have hst := l0_step k s p z hz hs hp
  by_cases h1 : p + z ≤ s.size
  · by_cases h2 : okZ s p z (numZ s p z)
    · rw [hst.1 h1 h2]
      have hf := found s p z hz h1 h2
      exact ⟨_, _, rfl, fun h => absurd h hf.1, fun _ => hf.2⟩
    · rw [hst.2.1 h1 h2]
      refine hnext (fun y hy1 hy2 => ?_)
      by_cases he : y = z
      · subst he; exact fun h => h2 h.2
      · exact hprev y hy1 (by omega)
  · rw [hst.2.2 h1]
    have hb := none_bad s p hp (fun y hy1 hy2 => by
      by_cases he : y < z
      · exact hprev y hy1 he
      · exact fun h => h1 (by have := h.1; omega))
    exact ⟨_, _, rfl, fun _ => rfl, fun h => absurd hb h⟩
theorem at_f (s : ByteArray) (p K : Nat) (hs : s.size ≤ 1000000) (hp : p < s.size) : AtPost s p (dioramaref05_At.f (K + 32) s (p : Int)) := by
  unfold dioramaref05_At.f
  refine at_step s p 1 (K + 25) hs hp (by omega) (fun y h1 h2 => by omega) (fun h1 => ?_)
  refine at_step s p 2 (K + 18) hs hp (by omega) h1 (fun h2 => ?_)
  refine at_step s p 3 (K + 10) hs hp (by omega) h2 (fun h3 => ?_)
  refine at_step s p 4 (K + 1) hs hp (by omega) h3 (fun h4 => ?_)
  rw [dioramaref05_At.l0, if_neg (by decide), dioramaref05_At.j1, if_neg (by decide)]
  have hb := none_bad s p hp (fun y hy1 hy2 => h4 y hy1 (by omega))
  exact ⟨_, _, rfl, fun _ => rfl, fun h => absurd hb h⟩
theorem read_l0 (s : ByteArray) (hs : s.size ≤ 1000000) : ∀ (m p K : Nat) (acc : List Int), s.size ≤ p + m → p ≤ s.size → acc.length ≤ p →
    ∃ l, ∃ q : Nat, dioramaref05_Read.l0 (K + 33 + m) s acc (p : Int) = some (l, (q : Int)) ∧ (q = s.size ↔ utfFrom s m p = -1)
  | 0, p, K, acc, h1, h2, h3 => by
    rw [show K + 33 + 0 = (K + 32) + 1 by omega, dioramaref05_Read.l0, if_neg (by omega)]
    exact ⟨_, p, rfl, fun _ => rfl, fun _ => by omega⟩
  | m + 1, p, K, acc, h1, h2, h3 => by
    rw [show K + 33 + (m + 1) = (K + 33 + m) + 1 by omega, dioramaref05_Read.l0]
    by_cases hp : p < s.size
    · rw [if_pos (show (p : Int) < s.size by omega)]
      obtain ⟨c, n, he, hb, hg⟩ := at_f s p (K + 1 + m) hs hp
      rw [show K + 33 + m = K + 1 + m + 32 by omega, he, Option.bind_some]
      unfold utfFrom
      rw [if_pos hp]
      by_cases hd : Utf8.decode s p = (65533, 1)
      · rw [if_pos (hb hd), if_pos hd]
        exact ⟨_, p, rfl, fun h => by omega, fun h => by omega⟩
      · have hn := hg hd
        have hbd := decode_bound s p
        have hbd3 := hbd.2.2 hp
        rw [if_neg (by show ¬ n = 0; omega), if_neg hd]
        dsimp only
        rw [if_pos (by omega), hn, wrap64_in ((p : Int) + _) (by omega), show K + 1 + m + 32 = K + 33 + m by omega]
        exact read_l0 s hs m (p + (Utf8.decode s p).2) K _ (by omega) (by omega) (by rw [List.length_append]; simp; omega)
    · rw [if_neg (show ¬ (p : Int) < s.size by omega), utfFrom_end hp]
      exact ⟨_, p, rfl, fun _ => rfl, fun _ => by omega⟩
theorem utf_ok_iff (s : ByteArray) : utfOk s = true ↔ utfFrom s s.size 0 ≠ -1 → False := by
  unfold utfOk utfFirst
  rw [decide_eq_true_iff]
  refine ⟨fun h hn => ?_, fun h => ?_⟩
  · have hge : ∀ (f p : Nat), utfFrom s f p = -1 ∨ 0 ≤ utfFrom s f p := fun f => by
      induction f with
      | zero => intro p; exact .inl rfl
      | succ f ih =>
        intro p
        unfold utfFrom
        split
        · split
          · exact .inr (by omega)
          · exact ih _
        · exact .inl rfl
    rcases hge s.size 0 with h0 | h0
    · exact hn h0
    · omega
  · have : utfFrom s s.size 0 = -1 := Classical.byContradiction h
    rw [this]; decide
theorem right_f (s : ByteArray) (hs : s.size ≤ 1000000) (k : Nat) (hk : s.size + 33 ≤ k) : dioramaref05_Right.f k s = some (utfOk s) := by
  obtain ⟨K, rfl⟩ : ∃ K, k = K + 33 + s.size := ⟨k - 33 - s.size, by omega⟩
  obtain ⟨l, q, he, hq⟩ := read_l0 s hs s.size 0 K [] (by omega) (by omega) (by simp)
  unfold dioramaref05_Right.f dioramaref05_Read.f
  rw [show ((0 : Int)) = ((0 : Nat) : Int) from rfl, he, Option.bind_some]
  congr 1
  show ((q : Int) == (s.size : Int)) = utfOk s
  have h1 := utf_ok_iff s
  by_cases h : utfFrom s s.size 0 = -1
  · have e1 := hq.2 h
    have e2 : utfOk s = true := h1.2 (fun hn => hn h)
    rw [e1, e2]; simp
  · have e1 : ¬ q = s.size := fun e => h (hq.1 e)
    have e2 : utfOk s = false := Bool.eq_false_iff.2 (fun e => h1.1 e h)
    rw [e2]
    exact beq_eq_false_iff_ne.2 (by omega)
end Go.Proofs.YtggldnbhmebcpaaGreatDoor.L
end
section
namespace Go.Proofs.YtggldnbhmebcpaaGreatDoor.L
open Go.RowKit Go.ChangeShapes Go.WideShapes Go.Proofs.YtggldnbhmebcpaaGreatDoorW.PrintWords Go.Proofs.YtggldnbhmebcpaaGreatDoorW.PrintLast Go.Proofs.YtggldnbhmebcpaaGreatDoorW.PrintMore
attribute [local go_sem] max2_int min2_int max_two min_two max_three min_three max_four min_four
open Go.Proofs.YtggldnbhmebcpaaGreatDoor.PDeltaMakes
theorem in_f (c n : Int) : dioramaref07_In.f c n = some (inC c n) := by
  unfold dioramaref07_In.f
  by_cases c1 : c = 1
  · subst c1; rfl
  · rw [if_neg c1]
    by_cases c2 : c = 2
    · subst c2
      rw [if_pos rfl, inC_2]
      by_cases h0 : n ≥ 0
      · rw [if_pos h0]
        by_cases h1 : n ≤ 140737488355328
        · rw [if_pos h1, decide_eq_true (by omega), decide_eq_true h1]; rfl
        · rw [if_neg h1, if_neg (by omega), decide_eq_false h1, Bool.and_false]
      · rw [if_neg h0, if_pos (by omega), decide_eq_true (show n ≤ 140737488355328 by omega), Bool.and_true]
    · rw [if_neg c2]
      by_cases c3 : c = 3
      · subst c3
        rw [if_pos rfl, inC_3]
        by_cases h0 : n ≥ 0
        · rw [if_pos h0, decide_eq_true h0]; rfl
        · rw [if_neg h0, decide_eq_false h0]; rfl
      · rw [if_neg c3]
        by_cases c4 : c = 4
        · subst c4
          rw [if_pos rfl, inC_4]
          by_cases h0 : n ≥ 0
          · rw [if_pos h0, decide_eq_true h0, Bool.true_and]; congr 1; exact decide_eq_decide.2 (by omega)
          · rw [if_neg h0, decide_eq_false h0]; rfl
        · rw [if_neg c4]
          by_cases c5 : c = 5
          · subst c5
            rw [if_pos rfl, inC_5]
            by_cases h0 : n = 0
            · subst h0; rw [if_pos (show wrap64 (0 * 0) = 0 from wrap64_in _ (by decide)), if_pos (by decide)]; rfl
            · by_cases h1 : n = 1
              · subst h1; rw [if_pos (show wrap64 (1 * 1) = 1 from wrap64_in _ (by decide)), if_pos (by decide)]; rfl
              · have hr : ((n == 0) || (n == 1)) = false := by simp [h0, h1]
                rw [hr]
                split
                · split
                  · rw [decide_eq_false (by omega)]
                  · rfl
                · rfl
          · rw [if_neg c5, inC_no c1 c2 c3 c4 c5]
def tailErr (n : Node) (s : Spec) : Int := if (n.kids.length : Int) < s.least ∨ 0 ≤ s.most ∧ s.most < n.kids.length then 12 else 0
theorem check_l1 (n : Node) (s : Spec) (hs : TextsSmall n) (hl : n.texts.length ≤ 1000000) : ∀ (m i K : Nat), n.texts.length ≤ i + m → i ≤ n.texts.length → (∀ j, j < i → utfOk (str n.texts j) = true) →
    dioramaref08_Check.l1 (K + 1000034 + m) (i : Int) n.kind n.ints n.texts n.kids s.ints s.texts s.least s.most = some (if textsOk n.texts = false then 11 else tailErr n s)
  | 0, i, K, h1, h2, h3 => by
    have hi : i = n.texts.length := by omega
    have ht : textsOk n.texts = true := decide_eq_true (fun j hj => h3 j (by omega))
    rw [show K + 1000034 + 0 = (K + 1000033) + 1 by omega, dioramaref08_Check.l1, if_neg (by omega), ht, if_neg (show ¬ (true = false) by decide)]
    unfold tailErr
    by_cases h : (n.kids.length : Int) < s.least
    · rw [if_pos h, if_pos (.inl h)]
    · rw [if_neg h]
      by_cases h' : s.most ≥ 0
      · rw [if_pos h']
        by_cases h'' : (n.kids.length : Int) > s.most
        · rw [if_pos h'', if_pos (.inr ⟨h', h''⟩)]
        · rw [if_neg h'', if_neg (by omega)]
      · rw [if_neg h', if_neg (by omega)]
  | m + 1, i, K, h1, h2, h3 => by
    by_cases hi : i < n.texts.length
    · rw [show K + 1000034 + (m + 1) = (K + 1000034 + m) + 1 by omega, dioramaref08_Check.l1, if_pos (by omega), if_pos (Int.natCast_nonneg i)]
      have hrd : rdOf ByteArray.empty n.texts (i : Int) = str n.texts i := by unfold rdOf str; rw [Int.toNat_natCast]
      rw [hrd, right_f (str n.texts i) (hs i hi) _ (by have := hs i hi; omega), Option.bind_some]
      by_cases hu : utfOk (str n.texts i) = true
      · rw [if_pos hu, wrap64_in ((i : Int) + 1) (by omega), show (i : Int) + 1 = ((i + 1 : Nat) : Int) from rfl]
        exact check_l1 n s hs hl m (i + 1) K (by omega) (by omega) (ext_lt (P := fun j => utfOk (str n.texts j) = true) h3 hu)
      · rw [if_neg hu, textsOk_bad hi (Bool.eq_false_iff.2 hu), if_pos rfl]
    · have := check_l1 n s hs hl m i (K + 1) (by omega) h2 h3
      rw [show K + 1 + 1000034 + m = K + 1000034 + (m + 1) by omega] at this
      exact this
theorem check_l0 (n : Node) (s : Spec) (hs : TextsSmall n) (hl : n.texts.length ≤ 1000000) (hn : n.ints.length ≤ 1000000) (he : n.ints.length = s.ints.length) : ∀ (m i K : Nat), n.ints.length ≤ i + m → i ≤ n.ints.length → (∀ j, j < i → inC (rd s.ints j) (rd n.ints j) = true) →
    dioramaref08_Check.l0 (K + 2000035 + m) (i : Int) n.kind n.ints n.texts n.kids s.ints s.texts s.least s.most = some (nodeErr n s)
  | 0, i, K, h1, h2, h3 => by
    have hi : i = n.ints.length := by omega
    have ht : numsOk n.ints s.ints = true := decide_eq_true ⟨he, fun j hj => h3 j (by omega)⟩
    rw [show K + 2000035 + 0 = (K + 2000034) + 1 by omega, dioramaref08_Check.l0, if_neg (by omega)]
    unfold nodeErr
    rw [ht, if_neg (show ¬ (true = false) by decide)]
    by_cases h : (n.texts.length : Int) = s.texts
    · rw [if_pos h]
      have h1 := check_l1 n s hs hl n.texts.length 0 (K + 1000000 - n.texts.length) (by omega) (by omega) (fun j hj => by omega)
      rw [show K + 1000000 - n.texts.length + 1000034 + n.texts.length = K + 2000034 by omega] at h1
      refine h1.trans ?_
      congr 1
      by_cases hk : textsOk n.texts = false
      · rw [if_pos hk, if_pos (.inr hk)]
      · rw [if_neg hk, if_neg (fun hh => hh.elim (fun h' => h' h) hk)]; rfl
    · rw [if_neg h, if_pos (.inl h)]
  | m + 1, i, K, h1, h2, h3 => by
    by_cases hi : i < n.ints.length
    · rw [show K + 2000035 + (m + 1) = (K + 2000035 + m) + 1 by omega, dioramaref08_Check.l0, if_pos (by omega), if_pos (Int.natCast_nonneg i), if_pos (by omega), in_f, Option.bind_some]
      by_cases hu : inC (rd s.ints i) (rd n.ints i) = true
      · rw [if_pos hu, wrap64_in ((i : Int) + 1) (by omega), show (i : Int) + 1 = ((i + 1 : Nat) : Int) from rfl]
        exact check_l0 n s hs hl hn he m (i + 1) K (by omega) (by omega) (ext_lt (P := fun j => inC (rd s.ints j) (rd n.ints j) = true) h3 hu)
      · rw [if_neg hu]
        unfold nodeErr
        rw [if_pos (numsOk_bad hi (Bool.eq_false_iff.2 hu))]
    · have := check_l0 n s hs hl hn he m i (K + 1) (by omega) h2 h3
      rw [show K + 1 + 2000035 + m = K + 2000035 + (m + 1) by omega] at this
      exact this
theorem check_f (n : Node) (s : Spec) (hs : TextsSmall n) (hm : Small n) : dioramaref08_Check.f 3000035 n.kind n.ints n.texts n.kids s.ints s.texts s.least s.most = some (nodeErr n s) := by
  unfold dioramaref08_Check.f
  by_cases h : n.ints.length = s.ints.length
  · rw [if_pos (by omega)]
    have h1 := check_l0 n s hs hm.2.1 hm.1 h n.ints.length 0 (1000000 - n.ints.length) (by omega) (by omega) (fun j hj => by omega)
    rw [show 1000000 - n.ints.length + 2000035 + n.ints.length = 3000035 by have := hm.1; omega] at h1
    exact h1
  · rw [if_neg (by omega)]
    unfold nodeErr
    rw [if_pos (numsOk_len h)]
theorem rcheck_any (n : Node) (A1 : Option Addr) (c1 : Nat) (A2 : Option Addr) (c2 : Nat) (A3 : Option Addr) (c3 : Nat) (s : Spec) (A4 : Option Addr) (c4 : Nat) (w : World) (h : NodeC w n A1 c1 A2 c2 A3 c3) (h4 : SpecC w s A4 c4) (hs : TextsSmall n) (hm : Small n) :
    Calls Tryz.prog 33 #[.agg #[.int .i64 n.kind, .slice A1 n.ints.length c1, .slice A2 n.texts.length c2, .slice A3 n.kids.length c3], .agg #[.slice A4 s.ints.length c4, .int .i64 s.texts, .int .i64 s.least, .int .i64 s.most]] w
      fun e w' => e = .returned (.int .i64 (nodeErr n s)) ∧ Below w.heap.size w w' :=
  dioramaref08_Check.calls 3000035 n.kind A1 c1 n.ints A2 c2 n.texts A3 c3 n.kids A4 c4 s.ints s.texts s.least s.most _ w h.i h.l1 h.t h.l2 h.k h.l3 h4.i h4.l (check_f n s hs hm)
end Go.Proofs.YtggldnbhmebcpaaGreatDoor.L
end
section
namespace Go.Proofs.YtggldnbhmebcpaaGreatDoor.L
open Go.RowKit Go.ChangeShapes Go.WideShapes Go.Proofs.YtggldnbhmebcpaaGreatDoorW.PrintWords Go.Proofs.YtggldnbhmebcpaaGreatDoorW.PrintLast Go.Proofs.YtggldnbhmebcpaaGreatDoorW.PrintMore
attribute [local go_sem] max2_int min2_int max_two min_two max_three min_three max_four min_four
theorem findS_no (l : List Spec) (k : Int) (h : ∀ i : Nat, 1 ≤ i → i < l.length → k ≠ (i : Int)) : findS l k = none := by
  unfold findS
  rw [if_pos]
  rcases Int.lt_or_le k 1 with h1 | h1
  · exact .inl h1
  · refine .inr ?_
    rcases Int.lt_or_le k l.length with h2 | h2
    · exact absurd (Int.toNat_of_nonneg (show 0 ≤ k by omega)).symm (h k.toNat (by omega) (by omega))
    · exact h2
set_option maxRecDepth 100000 in
set_option maxHeartbeats 4000000 in
theorem rspec_1 (k : Int) (w : World) : Calls Tryz.prog 32 #[.int .i64 1, .int .i64 k] w (SpecPost (Past w.heap.size) (findS oldTab k) w) := by
  have HB := Aside0.mk (Below.refl w.heap.size w)
  have hu := Tryz.underlying66
  by_cases k1 : k = 1
  · subst k1
    have HE : Aside0 (findS oldTab 1 = some ⟨[], 0, 0, -1⟩) := ⟨rfl⟩
    go_enter Tryz.func32, Tryz.ntmps32
    go_wp2
    rw [HE.out]
    exact bodyPost_ret (v := .tuple #[.agg #[.slice none 0 0, .int .i64 0, .int .i64 0, .int .i64 (-1)], .bool true]) (by simp [results, Tryz.results32, go_sem]) rfl ⟨none, 0, rfl, ⟨Nat.le_refl _, C_nil _ _⟩, Past.none _, by repeat (first | with_reducible exact HB.out | with_reducible apply below_alloc | with_reducible apply pw_below_drewN | with_reducible apply below_drew1 | (with_reducible refine below_set ?_ (by first | omega | (simp; omega))))⟩
  by_cases k2 : k = 2
  · subst k2
    have HE : Aside0 (findS oldTab 2 = some ⟨[2, 2, 2, 2], 0, 1, 1⟩) := ⟨rfl⟩
    go_enter Tryz.func32, Tryz.ntmps32
    go_wp2
    rw [HE.out]
    exact bodyPost_ret (v := .tuple #[.agg #[.slice (some ⟨w.heap.size + 2, 0, none⟩) 4 4, .int .i64 0, .int .i64 1, .int .i64 (1)], .bool true]) (by simp [results, Tryz.results32, go_sem]) rfl ⟨(some ⟨w.heap.size + 2, 0, none⟩), 4, rfl, ⟨Nat.le_refl _, C_ints _ 3 _ (by simp) [2, 2, 2, 2] (by decide) rfl⟩, fun ad h => by cases h; simp, by repeat (first | with_reducible exact HB.out | with_reducible apply below_alloc | with_reducible apply pw_below_drewN | with_reducible apply below_drew1 | (with_reducible refine below_set ?_ (by first | omega | (simp; omega))))⟩
  by_cases k3 : k = 3
  · subst k3
    have HE : Aside0 (findS oldTab 3 = some ⟨[3], 1, 0, 0⟩) := ⟨rfl⟩
    go_enter Tryz.func32, Tryz.ntmps32
    go_wp2
    rw [HE.out]
    exact bodyPost_ret (v := .tuple #[.agg #[.slice (some ⟨w.heap.size + 2, 0, none⟩) 1 1, .int .i64 1, .int .i64 0, .int .i64 (0)], .bool true]) (by simp [results, Tryz.results32, go_sem]) rfl ⟨(some ⟨w.heap.size + 2, 0, none⟩), 1, rfl, ⟨Nat.le_refl _, C_ints _ 3 _ (by simp) [3] (by decide) rfl⟩, fun ad h => by cases h; simp, by repeat (first | with_reducible exact HB.out | with_reducible apply below_alloc | with_reducible apply pw_below_drewN | with_reducible apply below_drew1 | (with_reducible refine below_set ?_ (by first | omega | (simp; omega))))⟩
  by_cases k4 : k = 4
  · subst k4
    have HE : Aside0 (findS oldTab 4 = some ⟨[3], 1, 0, 0⟩) := ⟨rfl⟩
    go_enter Tryz.func32, Tryz.ntmps32
    go_wp2
    rw [HE.out]
    exact bodyPost_ret (v := .tuple #[.agg #[.slice (some ⟨w.heap.size + 2, 0, none⟩) 1 1, .int .i64 1, .int .i64 0, .int .i64 (0)], .bool true]) (by simp [results, Tryz.results32, go_sem]) rfl ⟨(some ⟨w.heap.size + 2, 0, none⟩), 1, rfl, ⟨Nat.le_refl _, C_ints _ 3 _ (by simp) [3] (by decide) rfl⟩, fun ad h => by cases h; simp, by repeat (first | with_reducible exact HB.out | with_reducible apply below_alloc | with_reducible apply pw_below_drewN | with_reducible apply below_drew1 | (with_reducible refine below_set ?_ (by first | omega | (simp; omega))))⟩
  by_cases k5 : k = 5
  · subst k5
    have HE : Aside0 (findS oldTab 5 = some ⟨[], 1, 0, 0⟩) := ⟨rfl⟩
    go_enter Tryz.func32, Tryz.ntmps32
    go_wp2
    rw [HE.out]
    exact bodyPost_ret (v := .tuple #[.agg #[.slice none 0 0, .int .i64 1, .int .i64 0, .int .i64 (0)], .bool true]) (by simp [results, Tryz.results32, go_sem]) rfl ⟨none, 0, rfl, ⟨Nat.le_refl _, C_nil _ _⟩, Past.none _, by repeat (first | with_reducible exact HB.out | with_reducible apply below_alloc | with_reducible apply pw_below_drewN | with_reducible apply below_drew1 | (with_reducible refine below_set ?_ (by first | omega | (simp; omega))))⟩
  by_cases k6 : k = 6
  · subst k6
    have HE : Aside0 (findS oldTab 6 = some ⟨[4], 0, 0, 0⟩) := ⟨rfl⟩
    go_enter Tryz.func32, Tryz.ntmps32
    go_wp2
    rw [HE.out]
    exact bodyPost_ret (v := .tuple #[.agg #[.slice (some ⟨w.heap.size + 2, 0, none⟩) 1 1, .int .i64 0, .int .i64 0, .int .i64 (0)], .bool true]) (by simp [results, Tryz.results32, go_sem]) rfl ⟨(some ⟨w.heap.size + 2, 0, none⟩), 1, rfl, ⟨Nat.le_refl _, C_ints _ 3 _ (by simp) [4] (by decide) rfl⟩, fun ad h => by cases h; simp, by repeat (first | with_reducible exact HB.out | with_reducible apply below_alloc | with_reducible apply pw_below_drewN | with_reducible apply below_drew1 | (with_reducible refine below_set ?_ (by first | omega | (simp; omega))))⟩
  have HE : Aside0 (findS oldTab k = none) := ⟨findS_no _ _ (fun i h1 h2 => by simp [oldTab] at h2; omega)⟩
  go_enter Tryz.func32, Tryz.ntmps32
  go_wp2
  rw [HE.out]
  exact bodyPost_ret (v := .tuple #[.agg #[.slice none 0 0, .int .i64 0, .int .i64 0, .int .i64 0], .bool false]) (by simp [results, Tryz.results32, go_sem]) rfl ⟨none, 0, rfl, ⟨Nat.le_refl _, C_nil _ _⟩, Past.none _, by repeat (first | with_reducible exact HB.out | with_reducible apply below_alloc | with_reducible apply pw_below_drewN | with_reducible apply below_drew1 | (with_reducible refine below_set ?_ (by first | omega | (simp; omega))))⟩
set_option maxRecDepth 100000 in
set_option maxHeartbeats 4000000 in
theorem rspec_2 (k : Int) (w : World) : Calls Tryz.prog 32 #[.int .i64 2, .int .i64 k] w (SpecPost (Past w.heap.size) (findS newTab k) w) := by
  have HB := Aside0.mk (Below.refl w.heap.size w)
  have hu := Tryz.underlying66
  by_cases k1 : k = 1
  · subst k1
    have HE : Aside0 (findS newTab 1 = some ⟨[], 1, 0, -1⟩) := ⟨rfl⟩
    go_enter Tryz.func32, Tryz.ntmps32
    go_wp2
    rw [HE.out]
    exact bodyPost_ret (v := .tuple #[.agg #[.slice none 0 0, .int .i64 1, .int .i64 0, .int .i64 (-1)], .bool true]) (by simp [results, Tryz.results32, go_sem]) rfl ⟨none, 0, rfl, ⟨Nat.le_refl _, C_nil _ _⟩, Past.none _, by repeat (first | with_reducible exact HB.out | with_reducible apply below_alloc | with_reducible apply pw_below_drewN | with_reducible apply below_drew1 | (with_reducible refine below_set ?_ (by first | omega | (simp; omega))))⟩
  by_cases k2 : k = 2
  · subst k2
    have HE : Aside0 (findS newTab 2 = some ⟨[2, 2, 2], 0, 1, 1⟩) := ⟨rfl⟩
    go_enter Tryz.func32, Tryz.ntmps32
    go_wp2
    rw [HE.out]
    exact bodyPost_ret (v := .tuple #[.agg #[.slice (some ⟨w.heap.size + 2, 0, none⟩) 3 3, .int .i64 0, .int .i64 1, .int .i64 (1)], .bool true]) (by simp [results, Tryz.results32, go_sem]) rfl ⟨(some ⟨w.heap.size + 2, 0, none⟩), 3, rfl, ⟨Nat.le_refl _, C_ints _ 3 _ (by simp) [2, 2, 2] (by decide) rfl⟩, fun ad h => by cases h; simp, by repeat (first | with_reducible exact HB.out | with_reducible apply below_alloc | with_reducible apply pw_below_drewN | with_reducible apply below_drew1 | (with_reducible refine below_set ?_ (by first | omega | (simp; omega))))⟩
  by_cases k3 : k = 3
  · subst k3
    have HE : Aside0 (findS newTab 3 = some ⟨[3, 3, 3], 1, 0, 0⟩) := ⟨rfl⟩
    go_enter Tryz.func32, Tryz.ntmps32
    go_wp2
    rw [HE.out]
    exact bodyPost_ret (v := .tuple #[.agg #[.slice (some ⟨w.heap.size + 2, 0, none⟩) 3 3, .int .i64 1, .int .i64 0, .int .i64 (0)], .bool true]) (by simp [results, Tryz.results32, go_sem]) rfl ⟨(some ⟨w.heap.size + 2, 0, none⟩), 3, rfl, ⟨Nat.le_refl _, C_ints _ 3 _ (by simp) [3, 3, 3] (by decide) rfl⟩, fun ad h => by cases h; simp, by repeat (first | with_reducible exact HB.out | with_reducible apply below_alloc | with_reducible apply pw_below_drewN | with_reducible apply below_drew1 | (with_reducible refine below_set ?_ (by first | omega | (simp; omega))))⟩
  by_cases k4 : k = 4
  · subst k4
    have HE : Aside0 (findS newTab 4 = some ⟨[3], 1, 0, 0⟩) := ⟨rfl⟩
    go_enter Tryz.func32, Tryz.ntmps32
    go_wp2
    rw [HE.out]
    exact bodyPost_ret (v := .tuple #[.agg #[.slice (some ⟨w.heap.size + 2, 0, none⟩) 1 1, .int .i64 1, .int .i64 0, .int .i64 (0)], .bool true]) (by simp [results, Tryz.results32, go_sem]) rfl ⟨(some ⟨w.heap.size + 2, 0, none⟩), 1, rfl, ⟨Nat.le_refl _, C_ints _ 3 _ (by simp) [3] (by decide) rfl⟩, fun ad h => by cases h; simp, by repeat (first | with_reducible exact HB.out | with_reducible apply below_alloc | with_reducible apply pw_below_drewN | with_reducible apply below_drew1 | (with_reducible refine below_set ?_ (by first | omega | (simp; omega))))⟩
  by_cases k5 : k = 5
  · subst k5
    have HE : Aside0 (findS newTab 5 = some ⟨[3], 2, 0, 0⟩) := ⟨rfl⟩
    go_enter Tryz.func32, Tryz.ntmps32
    go_wp2
    rw [HE.out]
    exact bodyPost_ret (v := .tuple #[.agg #[.slice (some ⟨w.heap.size + 2, 0, none⟩) 1 1, .int .i64 2, .int .i64 0, .int .i64 (0)], .bool true]) (by simp [results, Tryz.results32, go_sem]) rfl ⟨(some ⟨w.heap.size + 2, 0, none⟩), 1, rfl, ⟨Nat.le_refl _, C_ints _ 3 _ (by simp) [3] (by decide) rfl⟩, fun ad h => by cases h; simp, by repeat (first | with_reducible exact HB.out | with_reducible apply below_alloc | with_reducible apply pw_below_drewN | with_reducible apply below_drew1 | (with_reducible refine below_set ?_ (by first | omega | (simp; omega))))⟩
  by_cases k6 : k = 6
  · subst k6
    have HE : Aside0 (findS newTab 6 = some ⟨[1], 0, 0, -1⟩) := ⟨rfl⟩
    go_enter Tryz.func32, Tryz.ntmps32
    go_wp2
    rw [HE.out]
    exact bodyPost_ret (v := .tuple #[.agg #[.slice (some ⟨w.heap.size + 2, 0, none⟩) 1 1, .int .i64 0, .int .i64 0, .int .i64 (-1)], .bool true]) (by simp [results, Tryz.results32, go_sem]) rfl ⟨(some ⟨w.heap.size + 2, 0, none⟩), 1, rfl, ⟨Nat.le_refl _, C_ints _ 3 _ (by simp) [1] (by decide) rfl⟩, fun ad h => by cases h; simp, by repeat (first | with_reducible exact HB.out | with_reducible apply below_alloc | with_reducible apply pw_below_drewN | with_reducible apply below_drew1 | (with_reducible refine below_set ?_ (by first | omega | (simp; omega))))⟩
  by_cases k7 : k = 7
  · subst k7
    have HE : Aside0 (findS newTab 7 = some ⟨[4, 4, 4, 5], 0, 0, 0⟩) := ⟨rfl⟩
    go_enter Tryz.func32, Tryz.ntmps32
    go_wp2
    rw [HE.out]
    exact bodyPost_ret (v := .tuple #[.agg #[.slice (some ⟨w.heap.size + 2, 0, none⟩) 4 4, .int .i64 0, .int .i64 0, .int .i64 (0)], .bool true]) (by simp [results, Tryz.results32, go_sem]) rfl ⟨(some ⟨w.heap.size + 2, 0, none⟩), 4, rfl, ⟨Nat.le_refl _, C_ints _ 3 _ (by simp) [4, 4, 4, 5] (by decide) rfl⟩, fun ad h => by cases h; simp, by repeat (first | with_reducible exact HB.out | with_reducible apply below_alloc | with_reducible apply pw_below_drewN | with_reducible apply below_drew1 | (with_reducible refine below_set ?_ (by first | omega | (simp; omega))))⟩
  by_cases k8 : k = 8
  · subst k8
    have HE : Aside0 (findS newTab 8 = some ⟨[2, 2, 2], 0, 1, 1⟩) := ⟨rfl⟩
    go_enter Tryz.func32, Tryz.ntmps32
    go_wp2
    rw [HE.out]
    exact bodyPost_ret (v := .tuple #[.agg #[.slice (some ⟨w.heap.size + 2, 0, none⟩) 3 3, .int .i64 0, .int .i64 1, .int .i64 (1)], .bool true]) (by simp [results, Tryz.results32, go_sem]) rfl ⟨(some ⟨w.heap.size + 2, 0, none⟩), 3, rfl, ⟨Nat.le_refl _, C_ints _ 3 _ (by simp) [2, 2, 2] (by decide) rfl⟩, fun ad h => by cases h; simp, by repeat (first | with_reducible exact HB.out | with_reducible apply below_alloc | with_reducible apply pw_below_drewN | with_reducible apply below_drew1 | (with_reducible refine below_set ?_ (by first | omega | (simp; omega))))⟩
  have HE : Aside0 (findS newTab k = none) := ⟨findS_no _ _ (fun i h1 h2 => by simp [newTab] at h2; omega)⟩
  go_enter Tryz.func32, Tryz.ntmps32
  go_wp2
  rw [HE.out]
  exact bodyPost_ret (v := .tuple #[.agg #[.slice none 0 0, .int .i64 0, .int .i64 0, .int .i64 0], .bool false]) (by simp [results, Tryz.results32, go_sem]) rfl ⟨none, 0, rfl, ⟨Nat.le_refl _, C_nil _ _⟩, Past.none _, by repeat (first | with_reducible exact HB.out | with_reducible apply below_alloc | with_reducible apply pw_below_drewN | with_reducible apply below_drew1 | (with_reducible refine below_set ?_ (by first | omega | (simp; omega))))⟩
end Go.Proofs.YtggldnbhmebcpaaGreatDoor.L
end
section
namespace Go.Proofs.YtggldnbhmebcpaaGreatDoor.L
open Go.RowKit Go.ChangeShapes Go.WideShapes Go.Proofs.YtggldnbhmebcpaaGreatDoorW.PrintWords Go.Proofs.YtggldnbhmebcpaaGreatDoorW.PrintLast Go.Proofs.YtggldnbhmebcpaaGreatDoorW.PrintMore
attribute [local go_sem] max2_int min2_int max_two min_two max_three min_three max_four min_four
set_option maxRecDepth 100000 in
set_option maxHeartbeats 4000000 in
theorem rtyped_1 (A : Option Addr) (c : Nat) (s : Scene) (w : World) (h : kNode.C w A s.nodes.length s.nodes) (hS : ∀ i : Nat, i < s.nodes.length → Small (nd s.nodes i)) (hTS : ∀ i : Nat, i < s.nodes.length → TextsSmall (nd s.nodes i)) :
    Calls Tryz.prog 13 #[.agg #[.slice A s.nodes.length c, .int .i64 s.root], .int .i64 1] w fun e w' => e = .returned (.tuple #[.int .i64 (typedS oldTab s.nodes).1, .int .i64 (typedS oldTab s.nodes).2]) ∧ Below w.heap.size w w' := by
  have HR := Aside0.mk h
  have HS := Aside0.mk hS
  have HTS := Aside0.mk hTS
  have b0 := h.2.1
  have HB := Aside0.mk (below_alloc (Below.refl w.heap.size w) (.cells #[.slice A s.nodes.length c, .int .i64 s.root] 24))
  have k0 := box_cell w _ rfl #[.slice A s.nodes.length c, .int .i64 s.root] 24 0 (.slice A s.nodes.length c) rfl
  have HK := Aside0.mk k0
  have hu := Tryz.underlying24
  have hun := Tryz.underlying42
  have hus := Tryz.underlying66
  clear h hS hTS
  go_enter Tryz.func13, Tryz.ntmps13
  go_wp2
  clear k0
  go_loopw [6] (fun v6 W => ∃ i : Nat, i ≤ s.nodes.length ∧ v6 = .int .i64 i ∧ Aside0 (∀ j : Nat, j < i → nodeT oldTab (nd s.nodes j) = 0) ∧ Aside0 (Below w.heap.size w W) ∧ Aside0 (W.cell? ⟨w.heap.size, 0, none⟩ = some (.slice A s.nodes.length c))) (fun v6 _ => s.nodes.length - (intOf v6).toNat)
  case atStart => exact ⟨0, by omega, rfl, ⟨fun j h => by omega⟩, HB, HK⟩
  case round =>
    clear HK HB
    obtain ⟨i, hi, rfl, HA, HW, HK⟩ := hrel
    have k0 := HK.out
    by_cases hlt : i < s.nodes.length
    · obtain ⟨adn, A1, c1, A2, c2, A3, c3, rfl, x0, x1, x2, x3, hN⟩ := at_node HR.out i hlt
      replace x0 := pw_cell_below HW.out x0
      replace x1 := pw_cell_below HW.out x1
      replace x2 := pw_cell_below HW.out x2
      replace x3 := pw_cell_below HW.out x3
      have HN := Aside0.mk hN
      clear hN
      go_wp2_with fail
      refine (rspec_1 (nd s.nodes i).kind _).mono ?_
      rintro e w6 ⟨A4, c4, rfl, hS6, -, hB6⟩
      have HB6 := Aside0.mk (below_step HW.out hB6)
      replace k0 := pw_cell_below hB6 k0
      replace x0 := pw_cell_below hB6 x0
      replace x1 := pw_cell_below hB6 x1
      replace x2 := pw_cell_below hB6 x2
      replace x3 := pw_cell_below hB6 x3
      cases hf : findS oldTab (nd s.nodes i).kind with
      | none =>
        have HE := Aside0.mk (typedS_bad (tab := oldTab) hlt HA.out (by unfold nodeT; rw [hf]; exact (by decide : ¬ (9 : Int) = 0)))
        have HE2 := Aside0.mk (show nodeT oldTab (nd s.nodes i) = 9 from by unfold nodeT; rw [hf])
        clear hf hS6 hB6 x0 x1 x2 x3
        go_wp2
        go_ret2
        exact ⟨ret_pair (by rw [HE.out, HE2.out]), below_step HB6.out (below_alloc (Below.refl _ _) _)⟩
      | some sp =>
        have HE2 := Aside0.mk (show nodeT oldTab (nd s.nodes i) = nodeErr (nd s.nodes i) sp from by unfold nodeT; rw [hf])
        rw [hf] at hS6
        have hbs := below_alloc (Below.refl w6.heap.size w6) (.cells #[.slice A4 sp.ints.length c4, .int .i64 sp.texts, .int .i64 sp.least, .int .i64 sp.most] 66)
        have q0 := box_cell w6 _ rfl #[.slice A4 sp.ints.length c4, .int .i64 sp.texts, .int .i64 sp.least, .int .i64 sp.most] 66 0 (.slice A4 sp.ints.length c4) rfl
        have q1 := box_cell w6 _ rfl #[.slice A4 sp.ints.length c4, .int .i64 sp.texts, .int .i64 sp.least, .int .i64 sp.most] 66 1 (.int .i64 sp.texts) rfl
        have q2 := box_cell w6 _ rfl #[.slice A4 sp.ints.length c4, .int .i64 sp.texts, .int .i64 sp.least, .int .i64 sp.most] 66 2 (.int .i64 sp.least) rfl
        have q3 := box_cell w6 _ rfl #[.slice A4 sp.ints.length c4, .int .i64 sp.texts, .int .i64 sp.least, .int .i64 sp.most] 66 3 (.int .i64 sp.most) rfl
        have HS6 := Aside0.mk (SpecC.below hS6 hbs)
        have HB7 := Aside0.mk (below_step HB6.out hbs)
        replace k0 := pw_cell_below hbs k0
        replace x0 := pw_cell_below hbs x0
        replace x1 := pw_cell_below hbs x1
        replace x2 := pw_cell_below hbs x2
        replace x3 := pw_cell_below hbs x3
        clear hf hS6 hB6 hbs
        go_wp2
        go_region_held3 (fun W => W.cell? ⟨w.heap.size, 0, none⟩ = some (.slice (some adn) s.nodes.length c) ∧ W.cell? (adn.add (i * 4)) = some (.int .i64 (nd s.nodes i).kind) ∧ W.cell? ⟨(adn.add (i * 4)).block, (adn.add (i * 4)).off + 1, none⟩ = some (.slice A1 (nd s.nodes i).ints.length c1) ∧ W.cell? ⟨(adn.add (i * 4)).block, (adn.add (i * 4)).off + 2, none⟩ = some (.slice A2 (nd s.nodes i).texts.length c2) ∧ W.cell? ⟨(adn.add (i * 4)).block, (adn.add (i * 4)).off + 3, none⟩ = some (.slice A3 (nd s.nodes i).kids.length c3) ∧
            W.cell? ⟨w6.heap.size, 0, none⟩ = some (.slice A4 sp.ints.length c4) ∧ W.cell? ⟨w6.heap.size, 1, none⟩ = some (.int .i64 sp.texts) ∧ W.cell? ⟨w6.heap.size, 2, none⟩ = some (.int .i64 sp.least) ∧ W.cell? ⟨w6.heap.size, 3, none⟩ = some (.int .i64 sp.most))
          (first
            | (go_split_ands
               (repeat' apply And.intro)
               all_goals first
                 | with_reducible assumption
                 | with_reducible exact pw_cell_below hB (by assumption)
                 | (simp [*]; done)))
          (first
            | (go_at_call 33; refine (rcheck_any (nd s.nodes i) A1 c1 A2 c2 A3 c3 sp A4 c4 _ (HN.out.below (below_drew HB7.out)) (SpecC.below HS6.out (below_drew (Below.refl _ _))) (HTS.out i hlt) (HS.out i hlt)).mono ?_; rintro e w8 ⟨rfl, hB8⟩; have hB := hB8))
        have HB8 := Aside0.mk (below_step (below_drew HB7.out) hB)
        have HK8 := Aside0.mk (pw_cell_below hB (show (w6.alloc _).drew.cell? _ = _ from k0))
        clear hB x0 x1 x2 x3 q0 q1 q2 q3 k0
        by_cases hz : nodeErr (nd s.nodes i) sp = 0
        · have HA2 := Aside0.mk (ext_lt HA.out (HE2.out.trans hz))
          rw [hz]
          clear hz
          go_wp2
          go_roundw
          case rel => exact ⟨i + 1, by omega, by go_num, HA2, HB8, HK8⟩
          case measure => simp [intOf]; omega
        · have HE := Aside0.mk (typedS_bad (tab := oldTab) hlt HA.out (by rw [HE2.out]; exact hz))
          have dz : (nodeErr (nd s.nodes i) sp != 0) = true := by simpa using hz
          clear hz
          go_wp2
          go_ret2
          exact ⟨ret_pair (by rw [HE.out, HE2.out]), HB8.out⟩
    · obtain rfl : i = s.nodes.length := by omega
      have HE := Aside0.mk (typedS_ok (tab := oldTab) HA.out)
      go_wp2
      go_ret2
      exact ⟨ret_pair HE.out, HW.out⟩
set_option maxRecDepth 100000 in
set_option maxHeartbeats 4000000 in
theorem rtyped_2 (A : Option Addr) (c : Nat) (s : Scene) (w : World) (h : kNode.C w A s.nodes.length s.nodes) (hS : ∀ i : Nat, i < s.nodes.length → Small (nd s.nodes i)) (hTS : ∀ i : Nat, i < s.nodes.length → TextsSmall (nd s.nodes i)) :
    Calls Tryz.prog 13 #[.agg #[.slice A s.nodes.length c, .int .i64 s.root], .int .i64 2] w fun e w' => e = .returned (.tuple #[.int .i64 (typedS newTab s.nodes).1, .int .i64 (typedS newTab s.nodes).2]) ∧ Below w.heap.size w w' := by
  have HR := Aside0.mk h
  have HS := Aside0.mk hS
  have HTS := Aside0.mk hTS
  have b0 := h.2.1
  have HB := Aside0.mk (below_alloc (Below.refl w.heap.size w) (.cells #[.slice A s.nodes.length c, .int .i64 s.root] 24))
  have k0 := box_cell w _ rfl #[.slice A s.nodes.length c, .int .i64 s.root] 24 0 (.slice A s.nodes.length c) rfl
  have HK := Aside0.mk k0
  have hu := Tryz.underlying24
  have hun := Tryz.underlying42
  have hus := Tryz.underlying66
  clear h hS hTS
  go_enter Tryz.func13, Tryz.ntmps13
  go_wp2
  clear k0
  go_loopw [6] (fun v6 W => ∃ i : Nat, i ≤ s.nodes.length ∧ v6 = .int .i64 i ∧ Aside0 (∀ j : Nat, j < i → nodeT newTab (nd s.nodes j) = 0) ∧ Aside0 (Below w.heap.size w W) ∧ Aside0 (W.cell? ⟨w.heap.size, 0, none⟩ = some (.slice A s.nodes.length c))) (fun v6 _ => s.nodes.length - (intOf v6).toNat)
  case atStart => exact ⟨0, by omega, rfl, ⟨fun j h => by omega⟩, HB, HK⟩
  case round =>
    clear HK HB
    obtain ⟨i, hi, rfl, HA, HW, HK⟩ := hrel
    have k0 := HK.out
    by_cases hlt : i < s.nodes.length
    · obtain ⟨adn, A1, c1, A2, c2, A3, c3, rfl, x0, x1, x2, x3, hN⟩ := at_node HR.out i hlt
      replace x0 := pw_cell_below HW.out x0
      replace x1 := pw_cell_below HW.out x1
      replace x2 := pw_cell_below HW.out x2
      replace x3 := pw_cell_below HW.out x3
      have HN := Aside0.mk hN
      clear hN
      go_wp2_with fail
      refine (rspec_2 (nd s.nodes i).kind _).mono ?_
      rintro e w6 ⟨A4, c4, rfl, hS6, -, hB6⟩
      have HB6 := Aside0.mk (below_step HW.out hB6)
      replace k0 := pw_cell_below hB6 k0
      replace x0 := pw_cell_below hB6 x0
      replace x1 := pw_cell_below hB6 x1
      replace x2 := pw_cell_below hB6 x2
      replace x3 := pw_cell_below hB6 x3
      cases hf : findS newTab (nd s.nodes i).kind with
      | none =>
        have HE := Aside0.mk (typedS_bad (tab := newTab) hlt HA.out (by unfold nodeT; rw [hf]; exact (by decide : ¬ (9 : Int) = 0)))
        have HE2 := Aside0.mk (show nodeT newTab (nd s.nodes i) = 9 from by unfold nodeT; rw [hf])
        clear hf hS6 hB6 x0 x1 x2 x3
        go_wp2
        go_ret2
        exact ⟨ret_pair (by rw [HE.out, HE2.out]), below_step HB6.out (below_alloc (Below.refl _ _) _)⟩
      | some sp =>
        have HE2 := Aside0.mk (show nodeT newTab (nd s.nodes i) = nodeErr (nd s.nodes i) sp from by unfold nodeT; rw [hf])
        rw [hf] at hS6
        have hbs := below_alloc (Below.refl w6.heap.size w6) (.cells #[.slice A4 sp.ints.length c4, .int .i64 sp.texts, .int .i64 sp.least, .int .i64 sp.most] 66)
        have q0 := box_cell w6 _ rfl #[.slice A4 sp.ints.length c4, .int .i64 sp.texts, .int .i64 sp.least, .int .i64 sp.most] 66 0 (.slice A4 sp.ints.length c4) rfl
        have q1 := box_cell w6 _ rfl #[.slice A4 sp.ints.length c4, .int .i64 sp.texts, .int .i64 sp.least, .int .i64 sp.most] 66 1 (.int .i64 sp.texts) rfl
        have q2 := box_cell w6 _ rfl #[.slice A4 sp.ints.length c4, .int .i64 sp.texts, .int .i64 sp.least, .int .i64 sp.most] 66 2 (.int .i64 sp.least) rfl
        have q3 := box_cell w6 _ rfl #[.slice A4 sp.ints.length c4, .int .i64 sp.texts, .int .i64 sp.least, .int .i64 sp.most] 66 3 (.int .i64 sp.most) rfl
        have HS6 := Aside0.mk (SpecC.below hS6 hbs)
        have HB7 := Aside0.mk (below_step HB6.out hbs)
        replace k0 := pw_cell_below hbs k0
        replace x0 := pw_cell_below hbs x0
        replace x1 := pw_cell_below hbs x1
        replace x2 := pw_cell_below hbs x2
        replace x3 := pw_cell_below hbs x3
        clear hf hS6 hB6 hbs
        go_wp2
        go_region_held3 (fun W => W.cell? ⟨w.heap.size, 0, none⟩ = some (.slice (some adn) s.nodes.length c) ∧ W.cell? (adn.add (i * 4)) = some (.int .i64 (nd s.nodes i).kind) ∧ W.cell? ⟨(adn.add (i * 4)).block, (adn.add (i * 4)).off + 1, none⟩ = some (.slice A1 (nd s.nodes i).ints.length c1) ∧ W.cell? ⟨(adn.add (i * 4)).block, (adn.add (i * 4)).off + 2, none⟩ = some (.slice A2 (nd s.nodes i).texts.length c2) ∧ W.cell? ⟨(adn.add (i * 4)).block, (adn.add (i * 4)).off + 3, none⟩ = some (.slice A3 (nd s.nodes i).kids.length c3) ∧
            W.cell? ⟨w6.heap.size, 0, none⟩ = some (.slice A4 sp.ints.length c4) ∧ W.cell? ⟨w6.heap.size, 1, none⟩ = some (.int .i64 sp.texts) ∧ W.cell? ⟨w6.heap.size, 2, none⟩ = some (.int .i64 sp.least) ∧ W.cell? ⟨w6.heap.size, 3, none⟩ = some (.int .i64 sp.most))
          (first
            | (go_split_ands
               (repeat' apply And.intro)
               all_goals first
                 | with_reducible assumption
                 | with_reducible exact pw_cell_below hB (by assumption)
                 | (simp [*]; done)))
          (first
            | (go_at_call 33; refine (rcheck_any (nd s.nodes i) A1 c1 A2 c2 A3 c3 sp A4 c4 _ (HN.out.below (below_drew HB7.out)) (SpecC.below HS6.out (below_drew (Below.refl _ _))) (HTS.out i hlt) (HS.out i hlt)).mono ?_; rintro e w8 ⟨rfl, hB8⟩; have hB := hB8))
        have HB8 := Aside0.mk (below_step (below_drew HB7.out) hB)
        have HK8 := Aside0.mk (pw_cell_below hB (show (w6.alloc _).drew.cell? _ = _ from k0))
        clear hB x0 x1 x2 x3 q0 q1 q2 q3 k0
        by_cases hz : nodeErr (nd s.nodes i) sp = 0
        · have HA2 := Aside0.mk (ext_lt HA.out (HE2.out.trans hz))
          rw [hz]
          clear hz
          go_wp2
          go_roundw
          case rel => exact ⟨i + 1, by omega, by go_num, HA2, HB8, HK8⟩
          case measure => simp [intOf]; omega
        · have HE := Aside0.mk (typedS_bad (tab := newTab) hlt HA.out (by rw [HE2.out]; exact hz))
          have dz : (nodeErr (nd s.nodes i) sp != 0) = true := by simpa using hz
          clear hz
          go_wp2
          go_ret2
          exact ⟨ret_pair (by rw [HE.out, HE2.out]), HB8.out⟩
    · obtain rfl : i = s.nodes.length := by omega
      have HE := Aside0.mk (typedS_ok (tab := newTab) HA.out)
      go_wp2
      go_ret2
      exact ⟨ret_pair HE.out, HW.out⟩
end Go.Proofs.YtggldnbhmebcpaaGreatDoor.L
end
section
namespace Go.Proofs.YtggldnbhmebcpaaGreatDoor.L
open Go.RowKit Go.ChangeShapes Go.WideShapes Go.Proofs.YtggldnbhmebcpaaGreatDoorW.PrintWords Go.Proofs.YtggldnbhmebcpaaGreatDoorW.PrintLast Go.Proofs.YtggldnbhmebcpaaGreatDoorW.PrintMore
attribute [local go_sem] max2_int min2_int max_two min_two max_three min_three max_four min_four
noncomputable def rightB (s : Scene) : Bool := (gcheck s).1 == 0
set_option maxRecDepth 100000 in
theorem rright_any (A : Option Addr) (c : Nat) (s : Scene) (w : World) (h : kNode.C w A s.nodes.length s.nodes) (hc : s.nodes.length ≤ c) (hM : rows s.nodes ≤ 1000000) :
    Calls Tryz.prog 34 #[.agg #[.slice A s.nodes.length c, .int .i64 s.root]] w fun e w' => e = .returned (.bool (rightB s)) ∧ Below w.heap.size w w' := by
  have HR := Aside0.mk h
  have HB := Aside0.mk (below_alloc (Below.refl w.heap.size w) (.cells #[.slice A s.nodes.length c, .int .i64 s.root] 24))
  have k0 := box_cell w _ rfl #[.slice A s.nodes.length c, .int .i64 s.root] 24 0 (.slice A s.nodes.length c) rfl
  have k1 := box_cell w _ rfl #[.slice A s.nodes.length c, .int .i64 s.root] 24 1 (.int .i64 s.root) rfl
  have hu := Tryz.underlying24
  have HE := Aside0.mk (show rightB s = ((gcheck s).1 == 0) from rfl)
  clear h
  go_enter Tryz.func34, Tryz.ntmps34
  go_wp2_with fail
  refine (rchk_any A c s _ (Kd.C_below HR.out HB.out) hc hM).mono ?_
  rintro e w1 ⟨rfl, hB1⟩
  have HB1 := Aside0.mk (below_step HB.out hB1)
  clear hB1 k0 k1
  generalize (gcheck s).1 = g at HE ⊢
  generalize (gcheck s).2 = g2
  go_wp2
  go_ret
  exact ⟨ret_bool HE.out.symm, HB1.out⟩
end Go.Proofs.YtggldnbhmebcpaaGreatDoor.L
end
section
namespace Go.Proofs.YtggldnbhmebcpaaGreatDoor.L
open Go.RowKit Go.ChangeShapes Go.WideShapes Go.Proofs.YtggldnbhmebcpaaGreatDoorW.PrintWords Go.Proofs.YtggldnbhmebcpaaGreatDoorW.PrintLast Go.Proofs.YtggldnbhmebcpaaGreatDoorW.PrintMore
attribute [local go_sem] max2_int min2_int max_two min_two max_three min_three max_four min_four
noncomputable def whole2 (s : Scene) : Bool := (typedS newTab s.nodes).1 == 0 && rightB s
set_option maxRecDepth 100000 in
set_option maxHeartbeats 1000000 in
theorem rwhole_2 (A : Option Addr) (c : Nat) (s : Scene) (w : World) (h : kNode.C w A s.nodes.length s.nodes) (hc : s.nodes.length ≤ c) (hS : ∀ i : Nat, i < s.nodes.length → Small (nd s.nodes i)) (hTS : ∀ i : Nat, i < s.nodes.length → TextsSmall (nd s.nodes i)) (hM : rows s.nodes ≤ 1000000) :
    Calls Tryz.prog 38 #[.agg #[.slice A s.nodes.length c, .int .i64 s.root], .int .i64 2] w fun e w' => e = .returned (.bool (whole2 s)) ∧ Below w.heap.size w w' := by
  have HR := Aside0.mk h
  have HB := Aside0.mk (below_alloc (Below.refl w.heap.size w) (.cells #[.slice A s.nodes.length c, .int .i64 s.root] 24))
  have k0 := box_cell w _ rfl #[.slice A s.nodes.length c, .int .i64 s.root] 24 0 (.slice A s.nodes.length c) rfl
  have k1 := box_cell w _ rfl #[.slice A s.nodes.length c, .int .i64 s.root] 24 1 (.int .i64 s.root) rfl
  have hu := Tryz.underlying24
  clear h
  go_enter Tryz.func38, Tryz.ntmps38
  go_wp2_with fail
  refine (rtyped_2 A c s _ (Kd.C_below HR.out HB.out) hS hTS).mono ?_
  rintro e w1 ⟨rfl, hB1⟩
  replace k0 := pw_cell_below hB1 k0
  replace k1 := pw_cell_below hB1 k1
  have HB1 := Aside0.mk (below_step HB.out hB1)
  clear hB1
  by_cases hty : (typedS newTab s.nodes).1 = 0
  · have HE : Aside0 (whole2 s = rightB s) := ⟨by unfold whole2; rw [hty]; rfl⟩
    rw [hty]
    clear hty
    go_wp2_with fail
    refine (rright_any A c s _ (Kd.C_below HR.out HB1.out) hc hM).mono ?_
    rintro e w2 ⟨rfl, hB2⟩
    have HB2 := Aside0.mk (below_step HB1.out hB2)
    clear hB2 k0 k1
    go_wp2
    go_ret
    exact ⟨ret_bool HE.out.symm, HB2.out⟩
  · have HE : Aside0 (whole2 s = false) := ⟨by unfold whole2; rw [beq_eq_false_iff_ne.2 hty]; rfl⟩
    have d1 : ((typedS newTab s.nodes).1 == 0) = false := beq_eq_false_iff_ne.2 hty
    clear hty k0 k1
    go_wp2
    go_ret
    exact ⟨ret_bool HE.out.symm, HB1.out⟩
end Go.Proofs.YtggldnbhmebcpaaGreatDoor.L
end
section
namespace Go.Proofs.YtggldnbhmebcpaaGreatDoor.L
open Go.RowKit Go.ChangeShapes Go.WideShapes Go.Proofs.YtggldnbhmebcpaaGreatDoorW.PrintWords Go.Proofs.YtggldnbhmebcpaaGreatDoorW.PrintLast Go.Proofs.YtggldnbhmebcpaaGreatDoorW.PrintMore
attribute [local go_sem] max2_int min2_int max_two min_two max_three min_three max_four min_four
open Go.Proofs.YtggldnbhmebcpaaGreatDoor.PDeltaMakes
theorem refN_len (ns : List Node) (l : List Int) : (refCanL ns l).length = l.length := by simp [refCanL]
theorem take_succ_map {α β : Type} (f : α → β) (l : List α) (i : Nat) (h : i < l.length) : (l.map f).take (i + 1) = (l.map f).take i ++ [f l[i]] := by
  rw [List.take_succ_eq_append_getElem (by simpa using h)]
  simp
set_option maxRecDepth 100000 in
set_option maxHeartbeats 8000000 in
theorem rcanon_any (A : Option Addr) (c : Nat) (s : Scene) (l : List Int) (k : Nat) (w : World) (h : kNode.C w A s.nodes.length s.nodes) (hc : s.nodes.length ≤ c) (hS : ∀ i : Nat, i < s.nodes.length → Small (nd s.nodes i))
    (ho : dioramaref10_Order.f k (s.nodes.map toS) s.root = some l) (hl : l.length ≤ 1000000) (hp : ∀ x ∈ l, 0 ≤ x ∧ x < (s.nodes.length : Int)) :
    Calls Tryz.prog 35 #[.agg #[.slice A s.nodes.length c, .int .i64 s.root]] w (SceneRPost ⟨refCanL s.nodes l, (l.length : Int) - 1⟩ w) := by
  have HR := Aside0.mk h
  have HSm := Aside0.mk hS
  have HO := Aside0.mk ho
  have HP := Aside0.mk hp
  have HCc := Aside0.mk hc
  have b0 := h.2.1
  have HB := Aside0.mk (below_alloc (below_alloc (Below.refl w.heap.size w) (.cells #[.slice A s.nodes.length c, .int .i64 s.root] 24)) (.cells #[.slice none 0 0, .int .i64 0] 24))
  have k0 := box_cell2 w _ rfl #[.slice A s.nodes.length c, .int .i64 s.root] 24 (.cells #[.slice none 0 0, .int .i64 0] 24) 0 (.slice A s.nodes.length c) rfl
  have k1 := box_cell2 w _ rfl #[.slice A s.nodes.length c, .int .i64 s.root] 24 (.cells #[.slice none 0 0, .int .i64 0] 24) 1 (.int .i64 s.root) rfl
  have HL := Aside0.mk (show ((w.alloc (.cells #[.slice A s.nodes.length c, .int .i64 s.root] 24)).alloc (.cells #[.slice none 0 0, .int .i64 0] 24)).heap[w.heap.size + 1]? = some (.cells #[.slice none 0 0, .int .i64 0] 24 (0, 0)) from by
    have := heap_alloc_new (w.alloc (.cells #[.slice A s.nodes.length c, .int .i64 s.root] 24)) (.cells #[.slice none 0 0, .int .i64 0] 24)
    simpa using this)
  have hu := Tryz.underlying24
  have hun := Tryz.underlying42
  clear h hc hS ho hp
  go_enter Tryz.func35, Tryz.ntmps35
  go_wp2_with fail
  have hml : (s.nodes.map toS).length = s.nodes.length := List.length_map ..
  have hcall := dioramaref10_Order.calls k A c (s.nodes.map toS) s.root l ((w.alloc (.cells #[.slice A s.nodes.length c, .int .i64 s.root] 24)).alloc (.cells #[.slice none 0 0, .int .i64 0] 24)) (by rw [hml]; exact C_to (Kd.C_below HR.out HB.out)) (by rw [hml]; exact HCc.out) HO.out
  rw [hml] at hcall
  refine hcall.mono ?_
  clear hcall hml
  rintro e w1 ⟨v, rfl, hV, hB1⟩
  obtain ⟨A3, c3, rfl⟩ := Kd.V_slice hV
  have HV := Aside0.mk (Kd.V_reads' hV)
  have hlc : l.length ≤ c3 := HV.out.2.1
  have HB1 := Aside0.mk (below_step HB.out hB1)
  have HL1 := Aside0.mk ((hB1.block _ (blk_lt HL.out)).trans HL.out)
  have HK1 := Aside0.mk (pw_cell_below hB1 k0)
  have HI := Aside0.mk (CnRel.start w1 ((l.length : Int) - 1))
  have hw1 : IntKind.i64.wrap ((l.length : Int) - 1) = (l.length : Int) - 1 := wrap_i (by omega) (by omega)
  clear hV hB1 k0 k1 HL HB
  go_wp2
  generalize w1.alloc (.cells #[.slice none 0 0, .int .i64 ((l.length : Int) - 1)] 24) = W5 at HI ⊢
  go_loopw [5] (fun v5 W => ∃ i : Nat, i ≤ l.length ∧ v5 = .int .i64 i ∧ ∃ A4 c4, Aside0 (CnRel w1 ((l.length : Int) - 1) ((refCanL s.nodes l).take i) (.slice A4 i c4) W)) (fun v5 _ => l.length - (intOf v5).toNat)
  case atStart => exact ⟨0, by omega, rfl, none, 0, by rw [List.take_zero]; exact HI⟩
  case round =>
    clear HI
    obtain ⟨i, hi, rfl, A4, c4, HI⟩ := hrel
    by_cases hlt : i < l.length
    · obtain ⟨adl, rfl, z0⟩ := at_nat (Kd.C_below HV.out.2.2 HI.out.below) i hlt
      have hpi := HP.out _ (rd_mem hlt)
      obtain ⟨q, hq⟩ : ∃ q : Nat, rd l (i : Int) = (q : Int) := ⟨(rd l (i : Int)).toNat, by omega⟩
      rw [hq] at z0 hpi
      have hqn : q < s.nodes.length := by omega
      have HRN : Aside0 ((refCanL s.nodes l).take (i + 1) = (refCanL s.nodes l).take i ++ [⟨(nd s.nodes q).kind, (nd s.nodes q).ints, (nd s.nodes q).texts, (nd s.nodes q).kids.map (findI l)⟩]) := ⟨by
        unfold refCanL
        rw [take_succ_map _ _ _ hlt]
        have : l[i] = (q : Int) := by rw [← hq, rd_eq hlt]
        rw [this]; unfold refN; rw [Int.toNat_natCast]⟩
      clear hq hpi
      obtain ⟨adn, A1, c1, A2, c2, A5, c5, rfl, x0, x1, x2, x3, hN⟩ := at_node HR.out q hqn
      have k0 := pw_cell_below HI.out.below HK1.out
      have HW := Aside0.mk (below_step HB1.out HI.out.below)
      replace x0 := pw_cell_below HW.out x0
      replace x1 := pw_cell_below HW.out x1
      replace x2 := pw_cell_below HW.out x2
      replace x3 := pw_cell_below HW.out x3
      have HN := Aside0.mk hN
      clear hN
      have HSq := Aside0.mk (HSm.out q hqn)
      have hbz : (wr.alloc (.cells #[.int .i64 0, .slice none 0 0, .slice none 0 0, .slice none 0 0] 42)).drew.heap[wr.heap.size]? = some (.cells #[.int .i64 0, .slice none 0 0, .slice none 0 0, .slice none 0 0] 42 (0, 0)) := by
        show (wr.alloc _).heap[wr.heap.size]? = _
        simpa using heap_alloc_new wr _
      have HBZ := Aside0.mk hbz
      have hbA := below_drew (below_alloc (Below.refl wr.heap.size wr) (.cells #[.int .i64 0, .slice none 0 0, .slice none 0 0, .slice none 0 0] 42))
      have HBA := Aside0.mk hbA
      have n0 : wr.heap.size ≠ w.heap.size := World.new_ne wr _ k0
      have n1 := World.new_ne wr _ z0
      have n2 := World.new_ne wr _ x0
      clear hbz hbA
      have k0d : wr.drew.cell? ⟨w.heap.size, 0, none⟩ = some (.slice (some adn) s.nodes.length c) := k0
      have k0a : (wr.alloc (.cells #[.int .i64 0, .slice none 0 0, .slice none 0 0, .slice none 0 0] 42)).drew.cell? ⟨w.heap.size, 0, none⟩ = some (.slice (some adn) s.nodes.length c) := pw_cell_below HBA.out k0
      have z0d : wr.drew.cell? (adl.add i) = some (.int .i64 q) := z0
      have z0a : (wr.alloc (.cells #[.int .i64 0, .slice none 0 0, .slice none 0 0, .slice none 0 0] 42)).drew.cell? (adl.add i) = some (.int .i64 q) := pw_cell_below HBA.out z0
      have x0d : wr.drew.cell? (adn.add (q * 4)) = some (.int .i64 (nd s.nodes q).kind) := x0
      have x0a : (wr.alloc (.cells #[.int .i64 0, .slice none 0 0, .slice none 0 0, .slice none 0 0] 42)).drew.cell? (adn.add (q * 4)) = some (.int .i64 (nd s.nodes q).kind) := pw_cell_below HBA.out x0
      have x1d : wr.drew.cell? ⟨(adn.add (q * 4)).block, (adn.add (q * 4)).off + 1, none⟩ = some (.slice A1 (nd s.nodes q).ints.length c1) := x1
      have x1a : (wr.alloc (.cells #[.int .i64 0, .slice none 0 0, .slice none 0 0, .slice none 0 0] 42)).drew.cell? ⟨(adn.add (q * 4)).block, (adn.add (q * 4)).off + 1, none⟩ = some (.slice A1 (nd s.nodes q).ints.length c1) := pw_cell_below HBA.out x1
      have x2d : wr.drew.cell? ⟨(adn.add (q * 4)).block, (adn.add (q * 4)).off + 2, none⟩ = some (.slice A2 (nd s.nodes q).texts.length c2) := x2
      have x2a : (wr.alloc (.cells #[.int .i64 0, .slice none 0 0, .slice none 0 0, .slice none 0 0] 42)).drew.cell? ⟨(adn.add (q * 4)).block, (adn.add (q * 4)).off + 2, none⟩ = some (.slice A2 (nd s.nodes q).texts.length c2) := pw_cell_below HBA.out x2
      have x3d : wr.drew.cell? ⟨(adn.add (q * 4)).block, (adn.add (q * 4)).off + 3, none⟩ = some (.slice A5 (nd s.nodes q).kids.length c5) := x3
      have x3a : (wr.alloc (.cells #[.int .i64 0, .slice none 0 0, .slice none 0 0, .slice none 0 0] 42)).drew.cell? ⟨(adn.add (q * 4)).block, (adn.add (q * 4)).off + 3, none⟩ = some (.slice A5 (nd s.nodes q).kids.length c5) := pw_cell_below HBA.out x3
      go_wp2
      go_region_held3 (fun W => W.cell? ⟨w.heap.size, 0, none⟩ = some (.slice (some adn) s.nodes.length c) ∧ W.cell? (adl.add i) = some (.int .i64 q) ∧ W.cell? (adn.add (q * 4)) = some (.int .i64 (nd s.nodes q).kind) ∧ W.cell? ⟨(adn.add (q * 4)).block, (adn.add (q * 4)).off + 1, none⟩ = some (.slice A1 (nd s.nodes q).ints.length c1) ∧ W.cell? ⟨(adn.add (q * 4)).block, (adn.add (q * 4)).off + 2, none⟩ = some (.slice A2 (nd s.nodes q).texts.length c2) ∧ W.cell? ⟨(adn.add (q * 4)).block, (adn.add (q * 4)).off + 3, none⟩ = some (.slice A5 (nd s.nodes q).kids.length c5))
        (first
          | (go_split_ands
             (repeat' apply And.intro)
             all_goals first
               | with_reducible assumption
               | with_reducible exact pw_cell_below hB (by assumption)
               | with_reducible exact pw_cell_below (below_alloc (Below.refl _ _) _) (pw_cell_below hB k0d)
               | with_reducible exact pw_cell_below (below_alloc (Below.refl _ _) _) (pw_cell_below hB z0d)
               | with_reducible exact pw_cell_below (below_alloc (Below.refl _ _) _) (pw_cell_below hB x0d)
               | with_reducible exact pw_cell_below (below_alloc (Below.refl _ _) _) (pw_cell_below hB x1d)
               | with_reducible exact pw_cell_below (below_alloc (Below.refl _ _) _) (pw_cell_below hB x2d)
               | with_reducible exact pw_cell_below (below_alloc (Below.refl _ _) _) (pw_cell_below hB x3d)
               | with_reducible exact far_set (far_set (far_set (far_set (by assumption) _ _ (by assumption) _) _ _ (by assumption) _) _ _ (by assumption) _) _ _ (by assumption) _
               | (simp [*]; done)))
        (first
          | (go_at_call 31; refine (rcopy_any (nd s.nodes q) A1 c1 A2 c2 A5 c5 wr.drew (HN.out.below (below_drew HW.out)) HSq.out).mono ?_; rintro e w6 ⟨_, rfl, ⟨v1, v2, v3, rfl, hM⟩, hB⟩; obtain ⟨v1', v2', v3', ev, hR1, hR2, hR3⟩ := kNode_openM hM; injection ev with _ ev; injection ev with e1 ev; injection ev with e2 ev; injection ev with e3 _; subst e1 e2 e3; obtain ⟨B1, d1, rfl⟩ := Kd.R_slice hR1; obtain ⟨B2, d2, rfl⟩ := Kd.R_slice hR2; obtain ⟨B3, d3, rfl⟩ := Kd.R_slice hR3)
          | (go_at_call 31; refine (rcopy_any (nd s.nodes q) A1 c1 A2 c2 A5 c5 (wr.alloc (.cells #[.int .i64 0, .slice none 0 0, .slice none 0 0, .slice none 0 0] 42)).drew (HN.out.below (below_step HW.out HBA.out)) HSq.out).mono ?_; rintro e w6 ⟨_, rfl, ⟨v1, v2, v3, rfl, hM⟩, hB⟩; obtain ⟨v1', v2', v3', ev, hR1, hR2, hR3⟩ := kNode_openM hM; injection ev with _ ev; injection ev with e1 ev; injection ev with e2 ev; injection ev with e3 _; subst e1 e2 e3; obtain ⟨B1, d1, rfl⟩ := Kd.R_slice hR1; obtain ⟨B2, d2, rfl⟩ := Kd.R_slice hR2; obtain ⟨B3, d3, rfl⟩ := Kd.R_slice hR3; have hb6 := (hB.block _ (blk_lt HBZ.out)).trans HBZ.out; have f0 := (blk_cell hb6 0).trans rfl; have f0f := blk_frozen hb6 0; have f1 := (blk_cell (blk_set hb6 0 (.int .i64 (nd s.nodes q).kind)) 1).trans rfl; have f1f := blk_frozen (blk_set hb6 0 (.int .i64 (nd s.nodes q).kind)) 1; have f2 := (blk_cell (blk_set (blk_set hb6 0 (.int .i64 (nd s.nodes q).kind)) 1 (.slice B1 (nd s.nodes q).ints.length d1)) 2).trans rfl; have f2f := blk_frozen (blk_set (blk_set hb6 0 (.int .i64 (nd s.nodes q).kind)) 1 (.slice B1 (nd s.nodes q).ints.length d1)) 2; have f3 := (blk_cell (blk_set (blk_set (blk_set hb6 0 (.int .i64 (nd s.nodes q).kind)) 1 (.slice B1 (nd s.nodes q).ints.length d1)) 2 (.slice B2 (nd s.nodes q).texts.length d2)) 3).trans rfl; have f3f := blk_frozen (blk_set (blk_set (blk_set hb6 0 (.int .i64 (nd s.nodes q).kind)) 1 (.slice B1 (nd s.nodes q).ints.length d1)) 2 (.slice B2 (nd s.nodes q).texts.length d2)) 3))
      have HK : Aside0 (KidB (findI l) (nd s.nodes q) (.slice B1 (nd s.nodes q).ints.length d1) (.slice B2 (nd s.nodes q).texts.length d2) (.slice B3 (nd s.nodes q).kids.length d3) 0 w6.heap.size wr (w6.alloc (.cells #[.int .i64 (nd s.nodes q).kind, .slice B1 (nd s.nodes q).ints.length d1, .slice B2 (nd s.nodes q).texts.length d2, .slice B3 (nd s.nodes q).kids.length d3] 42))) := ⟨⟨below_step ((below_drew (Below.refl _ _)).trans hB) (below_alloc (Below.refl _ _) _), hB.size, by simpa using heap_alloc_new w6 _, Kd.R_alloc hR1 _, Kd.R_alloc hR2 _, by rw [mapTake_zero]; exact Kd.R_alloc hR3 _⟩⟩
      clear hM hR1 hR2 hR3 hB k0 z0 x0 x1 x2 x3 k0d z0d x0d x1d x2d x3d k0a z0a x0a x1a x2a x3a n0 n1 n2
      generalize (w6.alloc (.cells #[.int .i64 (nd s.nodes q).kind, .slice B1 (nd s.nodes q).ints.length d1, .slice B2 (nd s.nodes q).texts.length d2, .slice B3 (nd s.nodes q).kids.length d3] 42)) = W7 at HK ⊢
      generalize w6.heap.size = g6 at HK ⊢
      rotate_left
      have HK : Aside0 (KidB (findI l) (nd s.nodes q) (.slice B1 (nd s.nodes q).ints.length d1) (.slice B2 (nd s.nodes q).texts.length d2) (.slice B3 (nd s.nodes q).kids.length d3) 0 wr.heap.size wr ((((w6.setCell ⟨wr.heap.size, 0, none⟩ (.int .i64 (nd s.nodes q).kind)).setCell ⟨wr.heap.size, 1, none⟩ (.slice B1 (nd s.nodes q).ints.length d1)).setCell ⟨wr.heap.size, 2, none⟩ (.slice B2 (nd s.nodes q).texts.length d2)).setCell ⟨wr.heap.size, 3, none⟩ (.slice B3 (nd s.nodes q).kids.length d3))) := ⟨by
        have hlt2 : wr.heap.size < (wr.alloc (.cells #[.int .i64 0, .slice none 0 0, .slice none 0 0, .slice none 0 0] 42)).drew.heap.size := by show _ < (wr.alloc _).heap.size; simp
        exact ⟨below_set4 (below_step HBA.out hB) (Nat.le_refl _), Nat.le_refl _, box4 hb6 _ _ _ _, Kd.R_lower (R_old4 hR1 hlt2 _ _ _ _) (Nat.le_of_lt hlt2), Kd.R_lower (R_old4 hR2 hlt2 _ _ _ _) (Nat.le_of_lt hlt2), by rw [mapTake_zero]; exact Kd.R_lower (R_old4 hR3 hlt2 _ _ _ _) (Nat.le_of_lt hlt2)⟩⟩
      clear hM hR1 hR2 hR3 hB k0 z0 x0 x1 x2 x3 k0d z0d x0d x1d x2d x3d k0a z0a x0a x1a x2a x3a n0 n1 n2 hb6 f0 f0f f1 f1f f2 f2f f3 f3f
      generalize ((((w6.setCell ⟨wr.heap.size, 0, none⟩ (.int .i64 (nd s.nodes q).kind)).setCell ⟨wr.heap.size, 1, none⟩ (.slice B1 (nd s.nodes q).ints.length d1)).setCell ⟨wr.heap.size, 2, none⟩ (.slice B2 (nd s.nodes q).texts.length d2)).setCell ⟨wr.heap.size, 3, none⟩ (.slice B3 (nd s.nodes q).kids.length d3)) = W7 at HK ⊢
      generalize hg6 : wr.heap.size = g6 at HK ⊢
      all_goals
        obtain ⟨W0, hW0⟩ : ∃ W, W = wr := ⟨_, rfl⟩
        have HW0 := Aside0.mk hW0
        rw [← hW0] at HI HK HW
        have hkl : (nd s.nodes q).kids.length ≤ 1000000 := HSq.out.2.2
        clear hW0 HBZ HBA
        go_wp2
        go_loopw [7] (fun v7 W => ∃ j : Nat, j ≤ (nd s.nodes q).kids.length ∧ v7 = .int .i64 j ∧ Aside0 (KidB (findI l) (nd s.nodes q) (.slice B1 (nd s.nodes q).ints.length d1) (.slice B2 (nd s.nodes q).texts.length d2) (.slice B3 (nd s.nodes q).kids.length d3) j g6 W0 W)) (fun v7 _ => (nd s.nodes q).kids.length - (intOf v7).toNat)
        case atStart => exact ⟨0, by omega, rfl, HK⟩
        case round =>
          clear HK
          obtain ⟨j, hj, rfl, HJ⟩ := hrel
          have hq3 : wr.cell? ⟨g6, 3, none⟩ = some (.slice B3 (nd s.nodes q).kids.length d3) := (blk_cell HJ.out.box 3).trans rfl
          by_cases hjl : j < (nd s.nodes q).kids.length
          · obtain ⟨g7, c7', hv, -⟩ := Kd.R_form HJ.out.r3 (by rw [mapTake_len]; omega)
            injection hv with hA hmm hcc
            clear hmm
            subst hA hcc
            obtain ⟨s1, s2, s3, -⟩ := HJ.out.set hjl
            have HLs := Aside0.mk (Kd.C_below HV.out.2.2 (below_step HI.out.below HJ.out.below))
            go_wp2
            go_region_with (first
                | (go_at_call 65; refine (find_C (some adl) c3 l (rd (nd s.nodes q).kids (j : Int)) _ (Kd.C_drew HLs.out) hlc hl).mono ?_; rintro e w8 ⟨rfl, ⟨nn, rfl⟩⟩; obtain ⟨t1, t2, -, t4⟩ := (HJ.out.drewN (1 + nn)).set hjl))
            all_goals
              have HS4 := Aside0.mk t4
              clear t1 t2 t4 s1 s2 hq3
              go_wp2
              go_roundw
              case rel => exact ⟨j + 1, by omega, by go_num, HS4⟩
              case measure => simp [intOf]; omega
          · obtain rfl : j = (nd s.nodes q).kids.length := by omega
            have HI7 := Aside0.mk (HI.out.later HJ.out.below)
            have q0 := (blk_cell HJ.out.box 0).trans rfl
            have q1 := (blk_cell HJ.out.box 1).trans rfl
            have q2 := (blk_cell HJ.out.box 2).trans rfl
            have o0 := (blk_cell HI7.out.out 0).trans rfl
            have hsz1 := HI.out.below.size
            have HMk := Aside0.mk (node_off (n := ⟨(nd s.nodes q).kind, (nd s.nodes q).ints, (nd s.nodes q).texts, (nd s.nodes q).kids.map (findI l)⟩) (Kd.R_lower HJ.out.r1 hsz1) (Kd.R_lower HJ.out.r2 hsz1) (Kd.R_lower (by have h := HJ.out.r3; rw [mapTake_all] at h; exact h) hsz1) HI7.out.row)
            have hlnx : ((refCanL s.nodes l).take i).length ≤ 1000000 := by rw [List.length_take, refN_len]; omega
            have hln : ((refCanL s.nodes l).take (i + 1)).length = i + 1 := by rw [List.length_take, refN_len]; omega
            go_wp2_with (at_builtin; refine Kd.R_append kNode (w0 := w1) w1.heap.size rfl (.tmp 48) (.tmp 50) 22 42 (.agg #[.int .i64 0, .slice none 0 0, .slice none 0 0, .slice none 0 0]) 80 rfl Tryz.underlying22 info_nodez rfl (by decide) (by omega) (.slice A4 i c4) ((refCanL s.nodes l).take i) ⟨(nd s.nodes q).kind, (nd s.nodes q).ints, (nd s.nodes q).texts, (nd s.nodes q).kids.map (findI l)⟩ [.int .i64 (nd s.nodes q).kind, .slice B1 (nd s.nodes q).ints.length d1, .slice B2 (nd s.nodes q).texts.length d2, .slice B3 (nd s.nodes q).kids.length d3] (fun _ => True) (fun k => some k ≠ (Value.slice A4 i c4).ownBlock) rfl (by go_simp) HMk.out (fun k hk => ⟨trivial, hk⟩) (fun _ _ => trivial) HI7.out.row HI7.out.below HI7.out.below.size (by omega) ?_; intro v5 w8 hR8 hB8 hg8 hat8; rw [← HRN.out] at hR8; obtain ⟨A5', c5', rfl⟩ := Kd.R_slice hR8; rw [hln] at hR8 ⊢; obtain ⟨hb8, hN8⟩ := HI7.out.put hR8 hB8 hg8; have HN8 := Aside0.mk hN8; have y0 := (blk_cell hb8 0).trans rfl; have y0f := blk_frozen hb8 0; clear hR8 hB8 hg8 hat8 hN8 q0 q1 q2 o0 hq3)
            go_roundw
            case rel => exact ⟨i + 1, by omega, by go_num, A5', c5', HN8⟩
            case measure => simp [intOf]; omega
    · obtain rfl : i = l.length := by omega
      have hlall : (refCanL s.nodes l).take l.length = refCanL s.nodes l := List.take_of_length_le (Nat.le_of_eq (refN_len _ _))
      have o0 := (blk_cell HI.out.out 0).trans rfl
      have o1 := (blk_cell HI.out.out 1).trans rfl
      have hres := (HI.out.below.block _ (blk_lt HL1.out)).trans HL1.out
      have l0 := (blk_cell hres 0).trans rfl
      have l0f := blk_frozen hres 0
      have l1 := (blk_cell (blk_set hres 0 (.slice A4 l.length c4)) 1).trans rfl
      have l1f := blk_frozen (blk_set hres 0 (.slice A4 l.length c4)) 1
      go_wp2
      have h2 := And.intro ((blk_cell (box2 hres (.slice A4 l.length c4) (.int .i64 ((l.length : Int) - 1))) 0).trans rfl) ((blk_cell (box2 hres (.slice A4 l.length c4) (.int .i64 ((l.length : Int) - 1))) 1).trans rfl)
      have hRR := Kd.R_lower (R_type (R_type HI.out.row hres (by decide) (.slice A4 l.length c4) 0) (blk_set hres 0 _) (by decide) (.int .i64 ((l.length : Int) - 1)) 1) HB1.out.size
      rw [hlall] at hRR
      exact bodyPost_ret (v := .agg #[.slice A4 l.length c4, .int .i64 ((l.length : Int) - 1)]) (by simp [results, Tryz.results35, go_sem, h2]) rfl
        ⟨A4, c4, by rw [refN_len], by rw [refN_len]; exact hRR, below_set2 (below_step HB1.out HI.out.below) (by omega)⟩
end Go.Proofs.YtggldnbhmebcpaaGreatDoor.L
end
section
namespace Go.Proofs.YtggldnbhmebcpaaGreatDoor.L
open Go.RowKit Go.ChangeShapes Go.WideShapes Go.Proofs.YtggldnbhmebcpaaGreatDoorW.PrintWords Go.Proofs.YtggldnbhmebcpaaGreatDoorW.PrintLast Go.Proofs.YtggldnbhmebcpaaGreatDoorW.PrintMore
attribute [local go_sem] max2_int min2_int max_two min_two max_three min_three max_four min_four
theorem nd_mem' (l : List Node) (k : Nat) (hk : k < l.length) : nd l k ∈ l := by
  unfold nd
  rw [List.getD_eq_getElem?_getD, List.getElem?_eq_getElem hk]
  exact List.getElem_mem hk
theorem isC_not {s : Scene} (h : rightB s = false) : isC s = false := by
  refine Bool.eq_false_iff.2 fun hc => ?_
  have h1 := gcheck_right.2 (isC_right hc)
  unfold rightB at h
  rw [h1] at h
  simp at h
set_option maxRecDepth 100000 in
set_option maxHeartbeats 4000000 in
theorem ris_any (A : Option Addr) (c : Nat) (s : Scene) (w : World) (h : kNode.C w A s.nodes.length s.nodes) (hc : s.nodes.length ≤ c) (hM : rows s.nodes ≤ 400000) (hS : ∀ i : Nat, i < s.nodes.length → Small (nd s.nodes i)) :
    Calls Tryz.prog 14 #[.agg #[.slice A s.nodes.length c, .int .i64 s.root]] w fun e w' => e = .returned (.bool (isC s)) ∧ Below w.heap.size w w' := by
  have HR := Aside0.mk h
  have HSm := Aside0.mk hS
  have HM := Aside0.mk hM
  have HCc := Aside0.mk hc
  have HB := Aside0.mk (below_alloc (Below.refl w.heap.size w) (.cells #[.slice A s.nodes.length c, .int .i64 s.root] 24))
  have k0 := box_cell w _ rfl #[.slice A s.nodes.length c, .int .i64 s.root] 24 0 (.slice A s.nodes.length c) rfl
  have k1 := box_cell w _ rfl #[.slice A s.nodes.length c, .int .i64 s.root] 24 1 (.int .i64 s.root) rfl
  have hu := Tryz.underlying24
  clear h hS hM hc
  cases hr : rightB s with
  | false =>
    have HI := Aside0.mk (isC_not hr)
    have HRb := Aside0.mk hr
    clear hr
    go_enter Tryz.func14, Tryz.ntmps14
    go_wp2
    go_region_with (first
        | (go_at_call 34; refine (rright_any A c s _ (Kd.C_drew (Kd.C_below HR.out HB.out)) HCc.out (by have := HM.out; omega)).mono ?_; rw [HRb.out]; rintro e w7 ⟨rfl, hB⟩; have HB7 := Aside0.mk (below_step (below_drew HB.out) hB); clear hB))
    all_goals
      clear k0 k1
      go_wp2
      go_ret
      exact ⟨ret_bool HI.out.symm, HB7.out⟩
  | true =>
    have hR : Right s := gcheck_right.1 (by unfold rightB at hr; simpa using hr)
    have HRt := Aside0.mk hR
    have HRb := Aside0.mk hr
    have HI := Aside0.mk (show sameS ⟨canonL s, (s.nodes.length : Int) - 1⟩ s = isC s from by
      cases hic : isC s with
      | true => exact sameS_yes ((isC_iff hR).1 hic)
      | false => exact sameS_no (fun e => by rw [(isC_iff hR).2 e] at hic; cases hic))
    have HCn := Aside0.mk (show (⟨refCanL s.nodes (ord s), ((ord s).length : Int) - 1⟩ : Scene) = ⟨canonL s, (s.nodes.length : Int) - 1⟩ from by rw [refCan_eq hR.dag ⟨hR.r0, hR.r1⟩, ord_len hR])
    have HOl := Aside0.mk (ord_len hR)
    have HSc := Aside0.mk (show ∀ i : Nat, i < (canonL s).length → Small (nd (canonL s) i) from fun i hi => by
      have hm := nd_mem' (canonL s) i hi
      generalize nd (canonL s) i = x at hm
      obtain ⟨q, hq, rfl⟩ := List.mem_map.1 hm
      have hpl := ord_pl hR q hq
      have h1 := HSm.out q.toNat (by have := hpl.1; have := hpl.2; omega)
      exact ⟨h1.1, h1.2.1, by show (List.map _ _).length ≤ _; rw [List.length_map]; exact h1.2.2⟩)
    have hnl := Aside0.mk (len_rows s.nodes)
    clear hr hR
    go_enter Tryz.func14, Tryz.ntmps14
    go_wp2
    go_region_with (first
        | (go_at_call 34; refine (rright_any A c s _ (Kd.C_drew (Kd.C_below HR.out HB.out)) HCc.out (by have := HM.out; omega)).mono ?_; rw [HRb.out]; rintro e w7 ⟨rfl, hB⟩; have k07 := pw_cell_below hB (show World.cell? (World.drew _) _ = _ from k0); have k17 := pw_cell_below hB (show World.cell? (World.drew _) _ = _ from k1); have HB7 := Aside0.mk (below_step (below_drew HB.out) hB); clear hB)
        | (go_at_call 35; refine (rcanon_any A c s (ord s) _ w7 (Kd.C_below HR.out HB7.out) HCc.out HSm.out (order_f HRt.out.dag ⟨HRt.out.r0, HRt.out.r1⟩ (by have := HM.out; omega)) (by have := HM.out; have := hnl.out; have := HOl.out; omega) (ord_met' HRt.out.dag ⟨HRt.out.r0, HRt.out.r1⟩).shut.pl).mono ?_; rw [HCn.out]; rintro e w8 ⟨B2, d2, rfl, hR2, hB⟩; have k08 := pw_cell_below hB k07; have k18 := pw_cell_below hB k17; have HC8 := Aside0.mk (Kd.R_reads' hR2).2.2; have HB8 := Aside0.mk (below_step HB7.out hB); clear hB hR2)
        | (go_at_call 24; refine (sameS_any B2 d2 ⟨canonL s, (s.nodes.length : Int) - 1⟩ A c s w8 HC8.out (Kd.C_below HR.out HB8.out) HSc.out).mono ?_; rw [HI.out]; rintro e w9 ⟨rfl, hB⟩; have HB9 := Aside0.mk (below_step HB8.out hB); clear hB))
    all_goals
      clear k0 k1 k07 k17 k08 k18
      go_wp2
      go_ret
      exact ⟨rfl, HB9.out⟩
end Go.Proofs.YtggldnbhmebcpaaGreatDoor.L
end
section
namespace Go.Proofs.YtggldnbhmebcpaaGreatDoor.L
open Go.RowKit Go.ChangeShapes Go.WideShapes Go.Proofs.YtggldnbhmebcpaaGreatDoorW.PrintWords Go.Proofs.YtggldnbhmebcpaaGreatDoorW.PrintLast Go.Proofs.YtggldnbhmebcpaaGreatDoorW.PrintMore
attribute [local go_sem] max2_int min2_int max_two min_two max_three min_three max_four min_four
def wholeC (s : Scene) : Prop := (typedS newTab s.nodes).1 = 0 ∧ isC s = true
noncomputable def wholeB (s : Scene) : Bool := whole2 s && isC s
theorem wholeB_c {s : Scene} (h : wholeB s = true) : wholeC s := by
  unfold wholeB whole2 at h
  rw [Bool.and_eq_true, Bool.and_eq_true] at h
  exact ⟨by simpa using h.1.1, h.2⟩
set_option maxRecDepth 100000 in
set_option maxHeartbeats 4000000 in
theorem dwhole_any (A : Option Addr) (c : Nat) (s : Scene) (w : World) (h : kNode.C w A s.nodes.length s.nodes) (hc : s.nodes.length ≤ c) (hF : Fit s.nodes) :
    Calls Tryz.prog 16 #[.agg #[.slice A s.nodes.length c, .int .i64 s.root]] w fun e w' => e = .returned (.bool (wholeB s)) ∧ Below w.heap.size w w' := by
  have HR := Aside0.mk h
  have HF := Aside0.mk hF
  have HB := Aside0.mk (below_alloc (Below.refl w.heap.size w) (.cells #[.slice A s.nodes.length c, .int .i64 s.root] 24))
  have k0 := box_cell w _ rfl #[.slice A s.nodes.length c, .int .i64 s.root] 24 0 (.slice A s.nodes.length c) rfl
  have k1 := box_cell w _ rfl #[.slice A s.nodes.length c, .int .i64 s.root] 24 1 (.int .i64 s.root) rfl
  have hu := Tryz.underlying24
  have HE := Aside0.mk (show wholeB s = (whole2 s && isC s) from rfl)
  clear h hF
  go_enter Tryz.func16, Tryz.ntmps16
  go_wp2_with fail
  generalize w.alloc (.cells #[.slice A s.nodes.length c, .int .i64 s.root] 24) = w0 at HB k0 k1 ⊢
  refine (rwhole_2 A c s _ (Kd.C_below HR.out HB.out) hc HF.out.small (fun i hi => HF.out.txs i hi) (Nat.le_trans HF.out.rows (by omega))).mono ?_
  rintro e w1 ⟨rfl, hB1⟩
  replace k0 := pw_cell_below hB1 k0
  replace k1 := pw_cell_below hB1 k1
  have HB1 := Aside0.mk (below_step HB.out hB1)
  clear hB1 HB
  cases hw : whole2 s with
  | false =>
    rw [hw] at HE
    clear hw
    go_wp2
    go_ret
    exact ⟨by rw [HE.out]; rfl, HB1.out⟩
  | true =>
    rw [hw] at HE
    clear hw
    go_wp2_with fail
    refine (ris_any A c s _ (Kd.C_below HR.out HB1.out) hc (Nat.le_trans HF.out.rows (by omega)) HF.out.small).mono ?_
    rintro e w2 ⟨rfl, hB2⟩
    have HB2 := Aside0.mk (below_step HB1.out hB2)
    clear hB2
    go_wp2
    go_ret
    exact ⟨by rw [HE.out, Bool.true_and]; rfl, HB2.out⟩
theorem dErr_ok {a t : Scene} (ha : wholeC a) (ht : wholeC t) : dErr a t = 0 := by
  unfold dErr
  rw [if_neg (fun h => h ha.1), if_neg (fun h => h ht.1), ha.2, ht.2]; rfl
theorem dmake_ok (T : Lib.PrintTabs) (A : Option Addr) (c : Nat) (a : Scene) (B : Option Addr) (d : Nat) (t : Scene) (w : World) (h : kNode.C w A a.nodes.length a.nodes) (hc : a.nodes.length ≤ c) (h' : kNode.C w B t.nodes.length t.nodes) (hd : t.nodes.length ≤ d)
    (hFa : Fit a.nodes) (hFt : Fit t.nodes) (hT : QTabs T w) (ha : wholeC a) (ht : wholeC t) :
    Calls Tryz.prog 11 #[.agg #[.slice A a.nodes.length c, .int .i64 a.root], .agg #[.slice B t.nodes.length d, .int .i64 t.root]] w fun e w' => ∃ (l : List Opn) (A : Option Addr) (c : Nat), e = .returned (.tuple #[.slice A t.nodes.length c, .int .i64 0]) ∧ l.length = t.nodes.length ∧ kOpn.C w' A t.nodes.length l ∧ t.nodes.length ≤ c ∧
      (∀ p : Nat, p < t.nodes.length → OpM a.nodes t.nodes (matS a.nodes t.nodes) p (op l p)) ∧ Below w.heap.size w w' := by
  refine (dmake_any T A c a B d t w h hc h' hd hFa hFt hT).mono ?_
  rintro e w' (⟨hb, -⟩ | ⟨-, l, Al, cl, rfl, hl, hR, hO, hB⟩)
  · exact absurd (dErr_ok ha ht) hb
  · have h1 := Kd.R_reads' hR
    exact ⟨l, Al, cl, rfl, hl, h1.1 ▸ h1.2.2, h1.2.1, hO, hB⟩
end Go.Proofs.YtggldnbhmebcpaaGreatDoor.L
end
section
namespace Go.Proofs.YtggldnbhmebcpaaGreatDoor.L
open Go.RowKit Go.ChangeShapes Go.WideShapes Go.Proofs.YtggldnbhmebcpaaGreatDoorW.PrintWords Go.Proofs.YtggldnbhmebcpaaGreatDoorW.PrintLast Go.Proofs.YtggldnbhmebcpaaGreatDoorW.PrintMore
attribute [local go_sem] max2_int min2_int max_two min_two max_three min_three max_four min_four
theorem nodeT_alike {n m : Node} (hn : nodeT newTab n = 0) (hm : nodeT newTab m = 0) (hk : n.kind = m.kind) : alike n m = true := by
  have key : ∀ {q : Node} {x : Spec}, nodeErr q x = 0 → q.ints.length = x.ints.length ∧ (q.texts.length : Int) = x.texts := fun {q x} h => by
    unfold nodeErr at h
    split at h
    · cases h
    · rename_i h1
      split at h
      · cases h
      · rename_i h2
        have h3 : numsOk q.ints x.ints = true := by
          cases hh : numsOk q.ints x.ints with
          | true => rfl
          | false => exact absurd hh h1
        exact ⟨(of_decide_eq_true h3).1, Classical.byContradiction fun hh => h2 (.inl hh)⟩
  unfold nodeT at hn hm
  rw [← hk] at hm
  cases hf : findS newTab n.kind with
  | none => rw [hf] at hn; cases hn
  | some x =>
    rw [hf] at hn hm
    have a1 := key hn
    have a2 := key hm
    exact decide_eq_true ⟨hk, by rw [a1.1, a2.1], by have := a1.2; have := a2.2; omega⟩
theorem PT_alike {a t : List Node} {i k : Nat} (h : PT a t i k = true) : alike (nd a k) (nd t i) = true := by
  have h := of_decide_eq_true h
  exact decide_eq_true ⟨h.1.symm, by rw [h.2.1], by rw [h.2.2.1]⟩
theorem mat_cnt {a t : Scene} (ha : wholeC a) (ht : wholeC t) (K : Int) :
    cntP (fun i => decide ((nd t.nodes i).kind = K) && decide (0 ≤ rd (matS a.nodes t.nodes) (i : Int))) t.nodes.length = min (cntP (fun i => decide ((nd t.nodes i).kind = K)) t.nodes.length) (cntP (fun k => decide ((nd a.nodes k).kind = K)) a.nodes.length) :=
  mat_count (P := PT a.nodes t.nodes) (Q := QK a.nodes t.nodes) (kl := fun i => (nd t.nodes i).kind) (kr := fun k => (nd a.nodes k).kind)
    (fun i k _ _ h => (of_decide_eq_true (h.elim PT_alike (fun h => QK_iff.1 h))).1.symm)
    (fun i k hi hk h1 h2 => QK_iff.2 (nodeT_alike (typedS_zero ha.1 k hk) (typedS_zero ht.1 i hi) (h2.trans h1.symm)))
theorem cnt_split (p q : Nat → Bool) : ∀ m : Nat, cntP (fun i => p i && q i) m + cntP (fun i => p i && !q i) m = cntP p m
  | 0 => rfl
  | m + 1 => by
    have ih := cnt_split p q m
    rw [cntP_succ, cntP_succ, cntP_succ]
    cases p m <;> cases q m <;> simp <;> omega
def newK (t : List Node) (M : List Int) (K : Int) (i : Nat) : Bool := decide ((nd t i).kind = K) && !decide (0 ≤ rd M (i : Int))
theorem new_cnt {a t : Scene} (ha : wholeC a) (ht : wholeC t) (K : Int) :
    cntP (newK t.nodes (matS a.nodes t.nodes) K) t.nodes.length + min (cntP (fun i => decide ((nd t.nodes i).kind = K)) t.nodes.length) (cntP (fun k => decide ((nd a.nodes k).kind = K)) a.nodes.length) = cntP (fun i => decide ((nd t.nodes i).kind = K)) t.nodes.length := by
  rw [← mat_cnt ha ht K, Nat.add_comm]
  exact cnt_split (fun i => decide ((nd t.nodes i).kind = K)) (fun i => decide (0 ≤ rd (matS a.nodes t.nodes) (i : Int))) t.nodes.length
end Go.Proofs.YtggldnbhmebcpaaGreatDoor.L
end
section
namespace Go.Proofs.YtggldnbhmebcpaaGreatDoor.L
open Go.RowKit Go.ChangeShapes Go.WideShapes Go.Proofs.YtggldnbhmebcpaaGreatDoorW.PrintWords Go.Proofs.YtggldnbhmebcpaaGreatDoorW.PrintLast Go.Proofs.YtggldnbhmebcpaaGreatDoorW.PrintMore
attribute [local go_sem] max2_int min2_int max_two min_two max_three min_three max_four min_four
set_option maxRecDepth 100000 in
set_option maxHeartbeats 8000000 in
theorem deltaNew_any (T : Lib.PrintTabs) (A : Option Addr) (c : Nat) (a : Scene) (B : Option Addr) (d : Nat) (t : Scene) (w : World) (h : kNode.C w A a.nodes.length a.nodes) (hc : a.nodes.length ≤ c) (h' : kNode.C w B t.nodes.length t.nodes) (hd : t.nodes.length ≤ d)
    (hNa : ∀ i : Nat, i < a.nodes.length → NBd (nd a.nodes i)) (hNt : ∀ i : Nat, i < t.nodes.length → NBd (nd t.nodes i)) (hT : QTabs T w) (kd : Int) :
    Calls Tryz.prog 7 #[.agg #[.slice A a.nodes.length c, .int .i64 a.root], .agg #[.slice B t.nodes.length d, .int .i64 t.root], .int .i64 kd] w fun e w' => e = .returned (.bool true) ∧ Below w.heap.size w w' := by
  have HR := Aside0.mk h
  have HR' := Aside0.mk h'
  have HT := Aside0.mk hT
  have HNa := Aside0.mk hNa
  have HNt := Aside0.mk hNt
  have hA0 := below_alloc (Below.refl w.heap.size w) (.cells #[.slice A a.nodes.length c, .int .i64 a.root] 24)
  have hA1 := below_alloc (Below.refl (w.alloc (.cells #[.slice A a.nodes.length c, .int .i64 a.root] 24)).heap.size (w.alloc (.cells #[.slice A a.nodes.length c, .int .i64 a.root] 24))) (.cells #[.slice B t.nodes.length d, .int .i64 t.root] 24)
  have HB := Aside0.mk (below_step hA0 hA1)
  have k0 := pw_cell_below hA1 (box_cell w _ rfl #[.slice A a.nodes.length c, .int .i64 a.root] 24 0 (.slice A a.nodes.length c) rfl)
  have k1 := pw_cell_below hA1 (box_cell w _ rfl #[.slice A a.nodes.length c, .int .i64 a.root] 24 1 (.int .i64 a.root) rfl)
  have q0 := box_cell (w.alloc (.cells #[.slice A a.nodes.length c, .int .i64 a.root] 24)) (w.heap.size + 1) (by simp) #[.slice B t.nodes.length d, .int .i64 t.root] 24 0 (.slice B t.nodes.length d) rfl
  have q1 := box_cell (w.alloc (.cells #[.slice A a.nodes.length c, .int .i64 a.root] 24)) (w.heap.size + 1) (by simp) #[.slice B t.nodes.length d, .int .i64 t.root] 24 1 (.int .i64 t.root) rfl
  have hu := Tryz.underlying24
  have hun := Tryz.underlying42
  have hmm := @run_makeMap Tryz.prog
  have HZ := Aside0.mk (show ((w.alloc (.cells #[.slice A a.nodes.length c, .int .i64 a.root] 24)).alloc (.cells #[.slice B t.nodes.length d, .int .i64 t.root] 24)).heap.size = w.heap.size + 1 + 1 from by simp)
  clear h h' hT hNa hNt hA0 hA1
  go_enter Tryz.func7, Tryz.ntmps7
  go_wp2_with fail
  generalize (w.alloc (.cells #[.slice A a.nodes.length c, .int .i64 a.root] 24)).alloc (.cells #[.slice B t.nodes.length d, .int .i64 t.root] 24) = w0 at HB HZ k0 k1 q0 q1 ⊢
  refine (dawake_any T _ (HT.out.below HB.out)).mono ?_
  rintro e w1 ⟨rfl, hB1⟩
  replace k0 := pw_cell_below hB1 k0
  replace k1 := pw_cell_below hB1 k1
  replace q0 := pw_cell_below hB1 q0
  replace q1 := pw_cell_below hB1 q1
  have HB1 := Aside0.mk (below_step HB.out hB1)
  have HZ1 := Aside0.mk (show w.heap.size + 1 < w1.heap.size from by have := hB1.size; have := HZ.out; omega)
  clear hB1 HB HZ
  go_wp2_with fail
  refine (great22_any A c a B d t _ (Kd.C_below HR.out HB1.out) (Kd.C_below HR'.out HB1.out)).mono ?_
  rintro e w2 ⟨rfl, hB2⟩
  replace k0 := pw_cell_below hB2 k0
  replace k1 := pw_cell_below hB2 k1
  replace q0 := pw_cell_below hB2 q0
  replace q1 := pw_cell_below hB2 q1
  have HB2 := Aside0.mk (below_step HB1.out hB2)
  have HZ2 := Aside0.mk (show w.heap.size + 1 < w2.heap.size from Nat.lt_of_lt_of_le HZ1.out hB2.size)
  clear hB2 HB1 HZ1
  cases hg : great22 a t with
  | true =>
    clear hg
    go_wp2_with fail
    refine (dawake_any T _ (HT.out.below HB2.out)).mono ?_
    rintro e w9 ⟨rfl, hB9⟩
    have HB9 := Aside0.mk (below_step HB2.out hB9)
    clear hB9 k0 k1 q0 q1
    go_wp2
    go_ret
    exact ⟨rfl, HB9.out⟩
  | false =>
    obtain ⟨g1, g2, g3, g4⟩ := great22_no hg
    have HFa := Aside0.mk (fit_of_great g1 HNa.out)
    have HFt := Aside0.mk (fit_of_great g2 HNt.out)
    have HLn := Aside0.mk (And.intro g3 g4)
    clear hg g1 g2 g3 g4
    go_wp2_with fail
    refine (dwhole_any A c a _ (Kd.C_below HR.out HB2.out) hc HFa.out).mono ?_
    rintro e w3 ⟨rfl, hB3⟩
    replace k0 := pw_cell_below hB3 k0
    replace k1 := pw_cell_below hB3 k1
    replace q0 := pw_cell_below hB3 q0
    replace q1 := pw_cell_below hB3 q1
    have HB3 := Aside0.mk (below_step HB2.out hB3)
    have HZ3 := Aside0.mk (show w.heap.size + 1 < w3.heap.size from Nat.lt_of_lt_of_le HZ2.out hB3.size)
    clear hB3 HB2 HZ2
    cases hia : wholeB a with
    | false =>
      clear hia
      go_wp2_with fail
      refine (dawake_any T _ (HT.out.below HB3.out)).mono ?_
      rintro e w9 ⟨rfl, hB9⟩
      have HB9 := Aside0.mk (below_step HB3.out hB9)
      clear hB9 k0 k1 q0 q1
      go_wp2
      go_ret
      exact ⟨rfl, HB9.out⟩
    | true =>
      go_wp2_with fail
      refine (dwhole_any B d t _ (Kd.C_below HR'.out HB3.out) hd HFt.out).mono ?_
      rintro e w4 ⟨rfl, hB4⟩
      replace k0 := pw_cell_below hB4 k0
      replace k1 := pw_cell_below hB4 k1
      replace q0 := pw_cell_below hB4 q0
      replace q1 := pw_cell_below hB4 q1
      have HB4 := Aside0.mk (below_step HB3.out hB4)
      have HZ4 := Aside0.mk (show w.heap.size + 1 < w4.heap.size from Nat.lt_of_lt_of_le HZ3.out hB4.size)
      clear hB4 HB3 HZ3
      cases hit : wholeB t with
      | false =>
        clear hit hia
        go_wp2_with fail
        refine (dawake_any T _ (HT.out.below HB4.out)).mono ?_
        rintro e w9 ⟨rfl, hB9⟩
        have HB9 := Aside0.mk (below_step HB4.out hB9)
        clear hB9 k0 k1 q0 q1
        go_wp2
        go_ret
        exact ⟨rfl, HB9.out⟩
      | true =>
        have HIs := Aside0.mk (And.intro (wholeB_c hia) (wholeB_c hit))
        clear hia hit
        go_wp2_with fail
        refine (dmake_ok T A c a B d t _ (Kd.C_below HR.out HB4.out) hc (Kd.C_below HR'.out HB4.out) hd HFa.out HFt.out (HT.out.below HB4.out) HIs.out.1 HIs.out.2).mono ?_
        rintro e w5 ⟨l, Am, cm, rfl, hll, hLm, hcm, hOm, hB5⟩
        have HL5 := Aside0.mk hLm
        have HOm := Aside0.mk hOm
        have HLl := Aside0.mk hll
        replace k0 := pw_cell_below hB5 k0
        replace k1 := pw_cell_below hB5 k1
        replace q0 := pw_cell_below hB5 q0
        replace q1 := pw_cell_below hB5 q1
        have HB5 := Aside0.mk (below_step HB4.out hB5)
        have HZ5 := Aside0.mk (show w.heap.size + 1 < w5.heap.size from Nat.lt_of_lt_of_le HZ4.out hB5.size)
        clear hLm hOm hll hB5 HB4 HZ4
        have hnA := HLn.out.1
        have hnT := HLn.out.2
        have HNc := Aside0.mk (new_cnt HIs.out.1 HIs.out.2 kd)
        have HK := Aside0.mk (And.intro k0 q0)
        generalize matS a.nodes t.nodes = M at HOm HNc
        go_wp2
        clear k0 k1 q0 q1
        go_loopw [44, 9] (fun v44 v9 W => ∃ i : Nat, i ≤ t.nodes.length ∧ v44 = .int .i64 i ∧ v9 = .int .i64 (cntP (newK t.nodes M kd) i) ∧ Aside0 (Below w5.heap.size w5 W)) (fun v44 _ _ => t.nodes.length - (intOf v44).toNat)
        case atStart => exact ⟨0, by omega, rfl, rfl, ⟨Below.refl _ _⟩⟩
        case round =>
          obtain ⟨i, hi, rfl, rfl, HO⟩ := hrel
          have hc1 := cntP_lt (newK t.nodes M kd) i
          by_cases hlt : i < t.nodes.length
          · obtain ⟨ad, B1, d1, B2, d2, A1, c1, A2, c2, A3, c3, rfl, p0, p1, p2, p3, p4, p5, p6, p7, hO⟩ := at_op HL5.out i hlt
            replace p0 := pw_cell_below HO.out p0
            replace p1 := pw_cell_below HO.out p1
            replace p2 := pw_cell_below HO.out p2
            replace p3 := pw_cell_below HO.out p3
            replace p4 := pw_cell_below HO.out p4
            replace p5 := pw_cell_below HO.out p5
            replace p6 := pw_cell_below HO.out p6
            replace p7 := pw_cell_below HO.out p7
            have HOi := Aside0.mk (HOm.out i hlt)
            have HC1 := Aside0.mk (cntP_succ (newK t.nodes M kd) i)
            clear hO
            generalize op l i = o at p0 p1 p2 p3 p4 p5 p6 p7 HOi
            generalize cntP (newK t.nodes M kd) i = n1 at hc1 HC1
            have HO1 := Aside0.mk (below_step HO.out (below_alloc (Below.refl wr.heap.size wr) (.cells #[.int .i64 o.kind, .int .i64 o.base, .slice B1 o.sets.length d1, .slice B2 o.script.length d2, .int .i64 o.node.kind, .slice A1 o.node.ints.length c1, .slice A2 o.node.texts.length c2, .slice A3 o.node.kids.length c3] 44)))
            rcases HOi.out with ⟨hneg, ho⟩ | ⟨b, hb, hbe, hOf⟩
            · have e3 : (o.kind == 3) = true := by rw [ho]; rfl
              have hkk : o.node.kind = (nd t.nodes i).kind := by rw [ho]
              have HNw := Aside0.mk (show newK t.nodes M kd i = decide (o.node.kind = kd) from by unfold newK; rw [hkk, decide_eq_false (show ¬ 0 ≤ rd M (i : Int) by omega), Bool.not_false, Bool.and_true])
              clear HOi ho hneg hkk
              by_cases hk : o.node.kind = kd
              · have g1 : (o.node.kind == kd) = true := by simp [hk]
                have E1 := Aside0.mk (show cntP (newK t.nodes M kd) (i + 1) = n1 + 1 from by rw [HC1.out, HNw.out, decide_eq_true hk]; rfl)
                clear HC1 hk
                go_wp2
                go_roundw
                case rel => exact ⟨i + 1, by omega, by go_num, by rw [E1.out]; go_num, HO1⟩
                case measure => simp [intOf]; omega
              · have g1 : (o.node.kind == kd) = false := by simp [hk]
                have E1 := Aside0.mk (show cntP (newK t.nodes M kd) (i + 1) = n1 from by rw [HC1.out, HNw.out, decide_eq_false hk]; rfl)
                clear HC1 hk
                go_wp2
                go_roundw
                case rel => exact ⟨i + 1, by omega, by go_num, by rw [E1.out], HO1⟩
                case measure => simp [intOf]; omega
            · have e3 : (o.kind == 3) = false := by
                rcases hOf with ⟨rfl, -⟩ | ⟨-, l', -, rfl⟩
                · rfl
                · rfl
              have E1 := Aside0.mk (show cntP (newK t.nodes M kd) (i + 1) = n1 from by
                rw [HC1.out]
                unfold newK
                rw [decide_eq_true (show 0 ≤ rd M (i : Int) by omega), Bool.not_true, Bool.and_false]; rfl)
              clear HC1 HOi hOf hbe
              go_wp2
              go_roundw
              case rel => exact ⟨i + 1, by omega, by go_num, by rw [E1.out], HO1⟩
              case measure => simp [intOf]; omega
          · obtain rfl : i = t.nodes.length := by omega
            have q0 := pw_cell_below HO.out HK.out.2
            generalize cntP (newK t.nodes M kd) t.nodes.length = nn at HNc hc1
            go_wp2
            clear q0
            go_loopw [64, 10] (fun v64 v10 W => ∃ j : Nat, j ≤ t.nodes.length ∧ v64 = .int .i64 j ∧ v10 = .int .i64 (cntP (fun k => decide ((nd t.nodes k).kind = kd)) j) ∧ Aside0 (Below w5.heap.size w5 W)) (fun v64 _ _ => t.nodes.length - (intOf v64).toNat)
            case atStart => exact ⟨0, by omega, rfl, rfl, HO⟩
            case round =>
              clear HO
              obtain ⟨j, hj, rfl, rfl, HO⟩ := hrel
              have hc3 := cntP_lt (fun k => decide ((nd t.nodes k).kind = kd)) j
              by_cases hjl : j < t.nodes.length
              · obtain ⟨an, A1, c1, A2, c2, A3, c3, rfl, y0, y1, y2, y3, hM⟩ := at_node HR'.out j hjl
                have HW := Aside0.mk (below_step HB5.out HO.out)
                replace y0 := pw_cell_below HW.out y0
                replace y1 := pw_cell_below HW.out y1
                replace y2 := pw_cell_below HW.out y2
                replace y3 := pw_cell_below HW.out y3
                have HO1 := Aside0.mk (below_step HO.out (below_alloc (Below.refl wr.heap.size wr) (.cells #[.int .i64 (nd t.nodes j).kind, .slice A1 (nd t.nodes j).ints.length c1, .slice A2 (nd t.nodes j).texts.length c2, .slice A3 (nd t.nodes j).kids.length c3] 42)))
                have HC1 := Aside0.mk (cntP_succ (fun k => decide ((nd t.nodes k).kind = kd)) j)
                clear hM
                generalize cntP (fun k => decide ((nd t.nodes k).kind = kd)) j = n3 at hc3 HC1
                have HC1 : Aside0 (cntP (fun k => decide ((nd t.nodes k).kind = kd)) (j + 1) = n3 + if decide ((nd t.nodes j).kind = kd) = true then 1 else 0) := HC1
                generalize nd t.nodes j = m at y0 y1 y2 y3 HO1 HC1
                by_cases hk : m.kind = kd
                · have g1 : (m.kind == kd) = true := by simp [hk]
                  have E1 := Aside0.mk (show cntP (fun k => decide ((nd t.nodes k).kind = kd)) (j + 1) = n3 + 1 from by rw [HC1.out, decide_eq_true hk]; rfl)
                  clear HC1 hk
                  go_wp2
                  go_roundw
                  case rel => exact ⟨j + 1, by omega, by go_num, by rw [E1.out]; go_num, HO1⟩
                  case measure => simp [intOf]; omega
                · have g1 : (m.kind == kd) = false := by simp [hk]
                  have E1 := Aside0.mk (show cntP (fun k => decide ((nd t.nodes k).kind = kd)) (j + 1) = n3 from by rw [HC1.out, decide_eq_false hk]; rfl)
                  clear HC1 hk
                  go_wp2
                  go_roundw
                  case rel => exact ⟨j + 1, by omega, by go_num, by rw [E1.out], HO1⟩
                  case measure => simp [intOf]; omega
              · obtain rfl : j = t.nodes.length := by omega
                have k0 := pw_cell_below HO.out HK.out.1
                generalize cntP (fun k => decide ((nd t.nodes k).kind = kd)) t.nodes.length = nh at HNc hc3
                have hc4 := hc3
                clear hc3
                go_wp2
                clear k0
                go_loopw [78, 11] (fun v78 v11 W => ∃ j : Nat, j ≤ a.nodes.length ∧ v78 = .int .i64 j ∧ v11 = .int .i64 (cntP (fun k => decide ((nd a.nodes k).kind = kd)) j) ∧ Aside0 (Below w5.heap.size w5 W)) (fun v78 _ _ => a.nodes.length - (intOf v78).toNat)
                case atStart => exact ⟨0, by omega, rfl, rfl, HO⟩
                case round =>
                  clear HO
                  obtain ⟨j, hj, rfl, rfl, HO⟩ := hrel
                  have hc3 := cntP_lt (fun k => decide ((nd a.nodes k).kind = kd)) j
                  by_cases hjl : j < a.nodes.length
                  · obtain ⟨an, A1, c1, A2, c2, A3, c3, rfl, y0, y1, y2, y3, hM⟩ := at_node HR.out j hjl
                    have HW := Aside0.mk (below_step HB5.out HO.out)
                    replace y0 := pw_cell_below HW.out y0
                    replace y1 := pw_cell_below HW.out y1
                    replace y2 := pw_cell_below HW.out y2
                    replace y3 := pw_cell_below HW.out y3
                    have HO1 := Aside0.mk (below_step HO.out (below_alloc (Below.refl wr.heap.size wr) (.cells #[.int .i64 (nd a.nodes j).kind, .slice A1 (nd a.nodes j).ints.length c1, .slice A2 (nd a.nodes j).texts.length c2, .slice A3 (nd a.nodes j).kids.length c3] 42)))
                    have HC1 := Aside0.mk (cntP_succ (fun k => decide ((nd a.nodes k).kind = kd)) j)
                    clear hM
                    generalize cntP (fun k => decide ((nd a.nodes k).kind = kd)) j = n3 at hc3 HC1
                    have HC1 : Aside0 (cntP (fun k => decide ((nd a.nodes k).kind = kd)) (j + 1) = n3 + if decide ((nd a.nodes j).kind = kd) = true then 1 else 0) := HC1
                    generalize nd a.nodes j = m at y0 y1 y2 y3 HO1 HC1
                    by_cases hk : m.kind = kd
                    · have g1 : (m.kind == kd) = true := by simp [hk]
                      have E1 := Aside0.mk (show cntP (fun k => decide ((nd a.nodes k).kind = kd)) (j + 1) = n3 + 1 from by rw [HC1.out, decide_eq_true hk]; rfl)
                      clear HC1 hk
                      go_wp2
                      go_roundw
                      case rel => exact ⟨j + 1, by omega, by go_num, by rw [E1.out]; go_num, HO1⟩
                      case measure => simp [intOf]; omega
                    · have g1 : (m.kind == kd) = false := by simp [hk]
                      have E1 := Aside0.mk (show cntP (fun k => decide ((nd a.nodes k).kind = kd)) (j + 1) = n3 from by rw [HC1.out, decide_eq_false hk]; rfl)
                      clear HC1 hk
                      go_wp2
                      go_roundw
                      case rel => exact ⟨j + 1, by omega, by go_num, by rw [E1.out], HO1⟩
                      case measure => simp [intOf]; omega
                  · obtain rfl : j = a.nodes.length := by omega
                    generalize cntP (fun k => decide ((nd a.nodes k).kind = kd)) a.nodes.length = nt at HNc hc3
                    have hnn := HNc.out
                    rcases Nat.le_total nh nt with hle | hle
                    · rw [Nat.min_eq_left hle] at hnn
                      have hz : nn = 0 := by omega
                      subst hz
                      go_wp2
                      all_goals
                        go_ret
                        exact ⟨ret_bool (by simp; try omega), below_step HB5.out HO.out⟩
                    · rw [Nat.min_eq_right hle] at hnn
                      have hz : nh = nn + nt := by omega
                      subst hz
                      go_wp2
                      all_goals
                        go_ret
                        exact ⟨ret_bool (by simp; try omega), below_step HB5.out HO.out⟩
end Go.Proofs.YtggldnbhmebcpaaGreatDoor.L
end
section
namespace Go.Proofs.YtggldnbhmebcpaaGreatDoor.L
open Go.RowKit Go.ChangeShapes Go.WideShapes Go.Proofs.YtggldnbhmebcpaaGreatDoorW.PrintWords Go.Proofs.YtggldnbhmebcpaaGreatDoorW.PrintLast Go.Proofs.YtggldnbhmebcpaaGreatDoorW.PrintMore
attribute [local go_sem] max2_int min2_int max_two min_two max_three min_three max_four min_four
section
variable {P : Program} {α β : Type}
def Opens (P : Program) (k : Kd α) (t : TypeId) (good : α → Prop) : Prop :=
  ∀ (H : Type) (enc : TypeId × Value → H) (w : World) (base : Nat) (spare : Nat → Bool) (held : Bool) (fuel : Nat) (cs : List Value) (x : DataW H × List MemPlace), DataW.trod enc P w base spare held fuel t cs = some x → ∃ v, k.K w v cs ∧ good v
theorem opens_int {t : TypeId} {k : IntKind} (ht : P.underlying t = some (.int k)) : Opens P (Kd.int k) t (fun n => (Lit.int k n).wf = true) := by
  intro H enc w base spare held fuel cs x h
  obtain ⟨n, rfl, _, hw⟩ := DataW.trod_int ht h
  exact ⟨n, rfl, hw⟩
theorem opens_string {t : TypeId} (ht : P.underlying t = some .string) : Opens P Kd.string t (fun s => s.size ≤ maxLen) := by
  intro H enc w base spare held fuel cs x h
  obtain ⟨s, rfl, _, hs⟩ := DataW.trod_string ht h
  exact ⟨s, rfl, hs⟩
theorem list_of {R : Nat → α → Prop} : ∀ n, (∀ i, i < n → ∃ p, R i p) → ∃ xs : List α, xs.length = n ∧ ∀ j p, xs[j]? = some p → R j p := by
  intro n
  induction n with
  | zero => intro _; exact ⟨[], rfl, fun j p h => by simp at h⟩
  | succ n ih =>
    intro h
    obtain ⟨xs, hl, hx⟩ := ih (fun i hi => h i (by omega))
    obtain ⟨p, hp⟩ := h n (by omega)
    refine ⟨xs ++ [p], by simp [hl], fun j q hq => ?_⟩
    rw [List.getElem?_append] at hq
    split at hq
    · exact hx j q hq
    · have hj : j = n := by
        have := (List.getElem?_eq_some_iff.1 hq).1
        simp at this
        omega
      subst hj
      rw [hl, Nat.sub_self] at hq
      simp at hq
      subst hq
      exact hp
theorem opens_slice {d : Kd α} {t e e' : TypeId} {good : α → Prop} (ht : P.underlying t = some (.slice e)) (hc : P.cellsOf e = d.sz) (hd : Opens P d e good) : Opens P (Kd.slice e' d) t (fun xs => xs.length ≤ maxLen ∧ ∀ x ∈ xs, good x) := by
  intro H enc w base spare held fuel cs x h
  rcases Deep.open_slice ht h with ⟨rfl, _⟩ | ⟨a, len, cap, m, n, D, Pl, rfl, _, hl, hm, hmm, _, hx⟩
  · exact ⟨[], ⟨none, 0, rfl, Nat.le_refl _, rfl, by simp, fun h => by simp at h⟩, by simp, by simp⟩
  · have hlm : len ≤ m := by rw [hmm]; split <;> omega
    rw [hc] at hx
    obtain ⟨xs, hxl, hxs⟩ := list_of (R := fun i p => (∃ c, c.length = d.sz ∧ d.K w p c ∧ ∀ j u, c[j]? = some u → w.cell? (a.add (i * d.sz + j)) = some u) ∧ good p) len (fun i hi => by
      obtain ⟨cs', h1, h2⟩ := hx i (by omega)
      obtain ⟨_, hcl, hat⟩ := World.cells?_some h1
      obtain ⟨p, hK, hg⟩ := hd H enc w base spare held n cs' _ h2
      refine ⟨p, ⟨cs', hcl, hK, fun j u hu => ?_⟩, hg⟩
      have hj : j < d.sz := by rw [← hcl]; exact (List.getElem?_eq_some_iff.1 hu).1
      rw [← Deep.add_add, hat j hj, hu])
    subst hxl
    refine ⟨xs, ⟨some a, cap, rfl, hl, rfl, by unfold maxLen at hm; omega, fun _ => ⟨a, rfl, fun j p hp => (hxs j p hp).1⟩⟩, by omega, fun x hx => ?_⟩
    obtain ⟨j, hj⟩ := List.getElem?_of_mem hx
    exact (hxs j x hj).2
def OpensL (P : Program) (k : Kd α) (fs : List Field) (off : Nat) (good : α → Prop) : Prop :=
  ∀ (H : Type) (enc : TypeId × Value → H) (w : World) (base : Nat) (spare : Nat → Bool) (held : Bool) (n : Nat) (cs : List Value), cs.length = k.sz → (∀ f ∈ fs, ∃ x, DataW.trod enc P w base spare held n f.type ((cs.drop (f.offset - off)).take (P.cellsOf f.type)) = some x) → ∃ v, k.K w v cs ∧ good v
theorem opensL_one {k : Kd α} {f : Field} {off : Nat} {good : α → Prop} (ho : f.offset = off) (hc : P.cellsOf f.type = k.sz) (h : Opens P k f.type good) : OpensL P k [f] off good := by
  intro H enc w base spare held n cs hl hf
  obtain ⟨x, hx⟩ := hf f (by simp)
  rw [ho, Nat.sub_self, List.drop_zero, hc, ← hl, List.take_length] at hx
  exact h H enc w base spare held n cs x hx
theorem opensL_cons {a : Kd α} {b : Kd β} {f : Field} {fs : List Field} {off : Nat} {ga : α → Prop} {gb : β → Prop} (ho : f.offset = off) (hc : P.cellsOf f.type = a.sz) (h : Opens P a f.type ga) (hoff : ∀ g ∈ fs, off + a.sz ≤ g.offset) (hs : OpensL P b fs (off + a.sz) gb) :
    OpensL P (Kd.pair a b) (f :: fs) off (fun x => ga x.1 ∧ gb x.2) := by
  intro H enc w base spare held n cs hl hf
  have hl' : cs.length = a.sz + b.sz := hl
  obtain ⟨x, hx⟩ := hf f (by simp)
  rw [ho, Nat.sub_self, List.drop_zero, hc] at hx
  obtain ⟨v, hv, hg⟩ := h H enc w base spare held n _ x hx
  obtain ⟨u, hu, hg'⟩ := hs H enc w base spare held n (cs.drop a.sz) (by rw [List.length_drop]; omega) (fun g hg => by
    obtain ⟨y, hy⟩ := hf g (by simp [hg])
    have := hoff g hg
    refine ⟨y, ?_⟩
    rw [List.drop_drop, show a.sz + (g.offset - (off + a.sz)) = g.offset - off from by omega]
    exact hy)
  exact ⟨(v, u), ⟨_, _, (List.take_append_drop a.sz cs).symm, hv, hu⟩, hg, hg'⟩
theorem opens_struct {k : Kd α} {t : TypeId} {fs : Array Field} {good : α → Prop} (ht : P.underlying t = some (.struct fs)) (hc : P.cellsOf t = k.sz) (h : OpensL P k fs.toList 0 good) : Opens P k t good := by
  intro H enc w base spare held fuel cs x hx
  obtain ⟨xs, n, _, _, hl, hxl, hf⟩ := DataW.trod_struct ht hx
  refine h H enc w base spare held n cs (hl.trans hc) (fun f hfm => ?_)
  obtain ⟨i, hi⟩ := List.getElem?_of_mem hfm
  have hi' : fs[i]? = some f := by simpa using hi
  have hil : i < xs.length := by rw [hxl]; exact (Array.getElem?_eq_some_iff.1 hi').1
  exact ⟨xs[i]'hil, by rw [Nat.sub_zero, hf i f hi', List.getElem?_eq_getElem hil]⟩
theorem opens_iso {d : Kd α} {f : β → α} {t : TypeId} {good : α → Prop} (hf : ∀ v, ∃ x, f x = v) (h : Opens P d t good) : Opens P (Kd.iso d f) t (fun x => good (f x)) := by
  intro H enc w base spare held fuel cs x hx
  obtain ⟨v, hv, hg⟩ := h H enc w base spare held fuel cs x hx
  obtain ⟨y, rfl⟩ := hf v
  exact ⟨y, hv, hg⟩
theorem Opens.arg_struct {k : Kd α} {H : Type} {enc : TypeId × Value → H} {W : World} {b0 base : Nat} {r : Reach} {spare : Nat → Bool} {held : Bool} {t : TypeId} {fs : Array Field} {good : α → Prop} {v : Value} {q : DataW H} {p : List MemPlace} (hs : P.underlying t = some (.struct fs)) (ho : Opens P k t good)
    (hv : Value.okWide P W r b0 t v) (h : DataW.Trod enc P W base spare held t v q p) : ∃ x cs, v = .agg cs ∧ k.K W x cs.toList ∧ good x := by
  obtain ⟨cs, rfl, _⟩ := okWide_struct hs hv
  obtain ⟨fuel, hf⟩ := h
  obtain ⟨x, hK, hg⟩ := ho H enc W base spare held fuel _ _ hf
  exact ⟨x, cs, rfl, by simpa [Value.cells] using hK, hg⟩
end
end Go.Proofs.YtggldnbhmebcpaaGreatDoor.L
end
section
namespace Go.Proofs.YtggldnbhmebcpaaGreatDoor.L
open Go.RowKit Go.ChangeShapes Go.WideShapes Go.Proofs.YtggldnbhmebcpaaGreatDoorW.PrintWords Go.Proofs.YtggldnbhmebcpaaGreatDoorW.PrintLast Go.Proofs.YtggldnbhmebcpaaGreatDoorW.PrintMore
attribute [local go_sem] max2_int min2_int max_two min_two max_three min_three max_four min_four
open Go.ChangeShapes Go.WideShapes Go.ChangeAt Go.RowKit
theorem own : ownKnob Tryz.prog.godebug = none := by kernel_rfl
theorem laidOut : laidOutB Tryz.prog = true := by kernel_rfl
def rowLaid : List (String × DataW Unit) := [("math/bits.deBruijn32tab", Rows.laid_math_bits_deBruijn32tab), ("math/bits.deBruijn64tab", Rows.laid_math_bits_deBruijn64tab), ("internal/strconv.uint64pow10", Rows.laid_internal_strconv_uint64pow10), ("unicode/utf8.acceptRanges", Rows.laid_unicode_utf8_acceptRanges), ("strconv.isGraphic", Rows.laid_strconv_isGraphic), ("strconv.isNotPrint16", Rows.laid_strconv_isNotPrint16), ("strconv.isNotPrint32", Rows.laid_strconv_isNotPrint32), ("strconv.isPrint16", Rows.laid_strconv_isPrint16), ("strconv.isPrint32", Rows.laid_strconv_isPrint32), ("unicode/utf8.first", Rows.laid_unicode_utf8_first)]
theorem firstD : Go.Pinned.utf8First = Lib.firstData := by kernel_rfl
theorem acceptD : (Rows.laid_unicode_utf8_acceptRanges : DataW Unit) = Lib.acceptData := by kernel_rfl
theorem p16D : Go.Pinned.isPrint16 = Lib.sliceData .u16 Lib.goPrintTabs.p16 := by kernel_rfl
theorem n16D : Go.Pinned.isNotPrint16 = Lib.sliceData .u16 Lib.goPrintTabs.n16 := by kernel_rfl
theorem p32D : Go.Pinned.isPrint32 = Lib.sliceData .u32 Lib.goPrintTabs.p32 := by kernel_rfl
theorem n32D : Go.Pinned.isNotPrint32 = Lib.sliceData .u16 Lib.goPrintTabs.n32 := by kernel_rfl
theorem utf_of_laid {W : World} (h : laidMet Tryz.prog rowLaid W) : Tabs W :=
  utf8Tabs_of_reads Tryz.lays260 ⟨by kernel_rfl, by kernel_rfl, by kernel_rfl, by kernel_rfl, by kernel_rfl, by kernel_rfl, by kernel_rfl⟩
    (firstD ▸ (Lib.laidMet.reads h (show ("unicode/utf8.first", Go.Pinned.utf8First) ∈ rowLaid from (.tail _ (.tail _ (.tail _ (.tail _ (.tail _ (.tail _ (.tail _ (.tail _ (.tail _ (.head _))))))))))))) (acceptD ▸ (Lib.laidMet.reads h (show ("unicode/utf8.acceptRanges", Rows.laid_unicode_utf8_acceptRanges) ∈ rowLaid from (.tail _ (.tail _ (.tail _ (.head _)))))))
theorem prt_of_laid {W : World} (h : laidMet Tryz.prog rowLaid W) : Lib.PrintTabsAt 5 6 7 8 Lib.goPrintTabs W :=
  printTabs_of_reads Tryz.lays339 ⟨by kernel_rfl, by kernel_rfl, by kernel_rfl, by kernel_rfl, by kernel_rfl, by kernel_rfl, by kernel_rfl, by kernel_rfl, by kernel_rfl, by kernel_rfl⟩
    (p16D ▸ (Lib.laidMet.reads h (show ("strconv.isPrint16", Go.Pinned.isPrint16) ∈ rowLaid from (.tail _ (.tail _ (.tail _ (.tail _ (.tail _ (.tail _ (.tail _ (.head _))))))))))) (n16D ▸ (Lib.laidMet.reads h (show ("strconv.isNotPrint16", Go.Pinned.isNotPrint16) ∈ rowLaid from (.tail _ (.tail _ (.tail _ (.tail _ (.tail _ (.head _))))))))) (p32D ▸ (Lib.laidMet.reads h (show ("strconv.isPrint32", Go.Pinned.isPrint32) ∈ rowLaid from (.tail _ (.tail _ (.tail _ (.tail _ (.tail _ (.tail _ (.tail _ (.tail _ (.head _)))))))))))) (n32D ▸ (Lib.laidMet.reads h (show ("strconv.isNotPrint32", Go.Pinned.isNotPrint32) ∈ rowLaid from (.tail _ (.tail _ (.tail _ (.tail _ (.tail _ (.tail _ (.head _))))))))))
theorem powD : (Rows.laid_internal_strconv_uint64pow10 : DataW Unit) = Lib.tabData .u64 Lib.pow10Tab := by kernel_rfl
theorem tabIs_reads {P : Program} {W : World} {name : String} {k : IntKind} {zs : List Int} {g : Nat} {t e : TypeId} {n : Nat}
    (hg : P.globalNamed name = some g) (hty : (P.globals[g]?).map (·.type) = some t) (ht : P.underlying t = some (.array n e)) (he : P.underlying e = some (.int k)) (hce : P.cellsOf e = 1) (hct : P.cellsOf t = n)
    (h : Lib.VarReads P W name (Lib.tabData k zs)) : Lib.TabIs P W name k zs := by
  obtain ⟨g', t', cs, fuel, p, hg', ht', hvar, hd⟩ := h
  obtain rfl := Option.some.inj (hg.symm.trans hg')
  obtain rfl := Option.some.inj (hty.symm.trans ht')
  unfold Lib.TabIs
  rw [hvar, ← Lib.cells_of_tab ht he hce hct hd]
theorem pow_of_laid {W : World} (h : laidMet Tryz.prog rowLaid W) : Lib.TabIs Tryz.prog W "internal/strconv.uint64pow10" .u64 Lib.pow10Tab :=
  tabIs_reads (g := 2) (t := (((Tryz.prog.globals[2]?).map (·.type)).getD 0)) (e := 139) (n := 20) (by kernel_rfl) (by kernel_rfl) (by kernel_rfl) (by kernel_rfl) (by kernel_rfl) (by kernel_rfl) (powD ▸ (Lib.laidMet.reads h (show ("internal/strconv.uint64pow10", Rows.laid_internal_strconv_uint64pow10) ∈ rowLaid from .tail _ (.tail _ (.head _)))))
theorem qtabs_of_laid {W : World} (h : laidMetH Tryz.prog rowLaid W) : QTabs Lib.goPrintTabs W := by
  rw [MakeChecks.laidMetH_plain _ _ _ (by kernel_rfl)] at h
  exact ⟨utf_of_laid h, prt_of_laid h, pow_of_laid h⟩
theorem laid_met (os : Os) (args : Array Value) : laidMetH Tryz.prog rowLaid ((World.laidAll Tryz.prog os rowLaid).forCall (fun _ _ => 0) ⟨#[], args, []⟩).memory := by
  rw [MakeChecks.laidMetH_plain _ _ _ (by kernel_rfl)]
  exact laidMet_laidAll _ (by kernel_rfl) (by kernel_rfl)
theorem opensL_imp {P : Program} {α : Type} {k : Kd α} {fs : List Field} {off : Nat} {good good' : α → Prop} (h : OpensL P k fs off good) (hi : ∀ v, good v → good' v) : OpensL P k fs off good' := by
  intro H enc w base spare held n cs hl hf
  obtain ⟨v, hv, hg⟩ := h H enc w base spare held n cs hl hf
  exact ⟨v, hv, hi v hg⟩
theorem opens_nodeB : Opens Tryz.prog kNode 42 NBd := by
  unfold kNode
  refine opens_iso (good := fun x : Int × List Int × List ByteArray × List Int => NBd ⟨x.1, x.2.1, x.2.2.1, x.2.2.2⟩) (fun v => ⟨⟨v.1, v.2.1, v.2.2.1, v.2.2.2⟩, rfl⟩) (opens_struct Tryz.underlying42 (by kernel_rfl) ?_)
  refine opensL_imp (opensL_cons rfl (by kernel_rfl) (opens_int Tryz.underlying3) (by decide)
    (opensL_cons rfl (by kernel_rfl) (opens_slice Tryz.underlying38 (by kernel_rfl) (opens_int Tryz.underlying2)) (by decide)
    (opensL_cons rfl (by kernel_rfl) (opens_slice Tryz.underlying39 (by kernel_rfl) (opens_string Tryz.underlying9)) (by decide)
    (opensL_one rfl (by kernel_rfl) (opens_slice Tryz.underlying40 (by kernel_rfl) (opens_int Tryz.underlying3)))))) ?_
  rintro ⟨k, i, t, q⟩ ⟨h1, h2, _⟩
  exact ⟨wf_i64 h1, fun x hx => wf_i64 (h2.2 x hx)⟩
theorem opens_sceneB : Opens Tryz.prog kScene 24 (fun s => ∀ i : Nat, i < s.nodes.length → NBd (nd s.nodes i)) := by
  unfold kScene
  refine opens_iso (good := fun x : List Node × Int => ∀ i : Nat, i < x.1.length → NBd (nd x.1 i)) (fun v => ⟨⟨v.1, v.2⟩, rfl⟩) (opens_struct Tryz.underlying24 (by kernel_rfl) ?_)
  refine opensL_imp (opensL_cons rfl (by kernel_rfl) (opens_slice Tryz.underlying22 (by kernel_rfl) opens_nodeB) (by decide)
    (opensL_one rfl (by kernel_rfl) (opens_int Tryz.underlying3))) ?_
  rintro ⟨ns, r⟩ ⟨h1, _⟩ i hi
  refine h1.2 _ ?_
  show nd ns i ∈ ns
  unfold nd
  rw [getD_eq _ hi]
  exact List.getElem_mem hi
end Go.Proofs.YtggldnbhmebcpaaGreatDoor.L
end
