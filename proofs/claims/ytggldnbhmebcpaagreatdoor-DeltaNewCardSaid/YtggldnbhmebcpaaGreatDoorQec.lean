/- Part 3 of the texts that the rows of this seat rest on, joined by a program: what its functions come to. Conditions: those that each theorem states. -/
import Derived.Test.YtggldnbhmebcpaaGreatDoorQeb
import Derived.Lib.OthersKept
import Derived.Laws.RangeAny
import Derived.Stop.FmtQuoteTie
import Derived.Laws.CopyOwn
import Derived.Deep.RegionLaw
import Derived.Lib.QuoteLoop
import Derived.Lib.Small
import Derived.Lib.ItoaNum
import Derived.Lib.Bytes
import Derived.Shelf.RegionOpenPlain
import Derived.Lib.Strings
import Derived.Lib.Slices
import Derived.Lib.Walk
import Derived.Lib.Builder
import Derived.Lib.AppendStr
import Derived.Lib.UnsafeStr
import Derived.Laws.Externs
import Derived.Laws.IdiomCopy
import Derived.Lib.AppendIntMem
import Derived.Lib.LaidTab
import Derived.Lib.ItoaLen
set_option linter.unusedVariables false
set_option linter.unusedSimpArgs false
section
namespace Go.Proofs.YtggldnbhmebcpaaGreatDoor.L
open Go.RowKit Go.ChangeShapes Go.WideShapes Go.Proofs.YtggldnbhmebcpaaGreatDoorW.PrintWords Go.Proofs.YtggldnbhmebcpaaGreatDoorW.PrintLast Go.Proofs.YtggldnbhmebcpaaGreatDoorW.PrintMore
attribute [local go_sem] max2_int min2_int max_two min_two max_three min_three max_four min_four
def utfFrom (s : ByteArray) : Nat → Nat → Int
  | 0, _ => -1
  | f + 1, pos => if pos < s.size then (if Utf8.decode s pos = (65533, 1) then (pos : Int) else utfFrom s f (pos + (Utf8.decode s pos).2)) else -1
def utfFirst (s : ByteArray) : Int := utfFrom s s.size 0
def utfOk (s : ByteArray) : Bool := decide (utfFirst s < 0)
theorem decode_bound (s : ByteArray) (pos : Nat) : 1 ≤ (Utf8.decode s pos).2 ∧ (Utf8.decode s pos).2 ≤ 4 ∧ (pos < s.size → pos + (Utf8.decode s pos).2 ≤ s.size) := by
  simp only [Utf8.decode]
  repeat' split
  all_goals simp_all
  all_goals omega
theorem decode_bad (s : ByteArray) (pos : Nat) : (Utf8.decode s pos).1 = 65533 → (Utf8.decode s pos).2 ≤ 1 → Utf8.decode s pos = (65533, 1) := by
  intro h1 h2
  have := (decode_bound s pos).1
  exact Prod.ext h1 (by show (Utf8.decode s pos).2 = 1; omega)
theorem utfFrom_end {s : ByteArray} {pos : Nat} (h : ¬ pos < s.size) : ∀ f, utfFrom s f pos = -1
  | 0 => rfl
  | f + 1 => by unfold utfFrom; rw [if_neg h]
def FirstRel (s : ByteArray) (w : World) (p f : Nat) (W : World) : Prop := W.heap[w.heap.size]? = some (.stringIter s p) ∧ s.size ≤ p + f ∧ utfFrom s f p = utfFirst s ∧ Below w.heap.size w W
theorem FirstRel.next {s : ByteArray} {w W : World} {p f : Nat} (h : FirstRel s w p f W) (hp : p < s.size) (hn : ¬ Utf8.decode s p = (65533, 1)) : FirstRel s w (p + (Utf8.decode s p).2) (f - 1) (W.iterAt w.heap.size s (p + (Utf8.decode s p).2)) := by
  obtain ⟨h1, h2, h3, h4⟩ := h
  obtain ⟨b1, b2, b3⟩ := decode_bound s p
  refine ⟨Lib.iterAt_heap _ _ _ _ _ h1, by omega, ?_, ?_⟩
  · obtain ⟨f, rfl⟩ : ∃ g, f = g + 1 := ⟨f - 1, by omega⟩
    rw [← h3]
    conv => rhs; unfold utfFrom
    rw [if_pos hp, if_neg hn]; rfl
  · exact h4.trans ⟨rfl, rfl, rfl, by simp [World.iterAt], fun k hk => by
      unfold World.iterAt
      simp only [Array.getElem?_setIfInBounds]
      rw [if_neg (by omega)]⟩
theorem FirstRel.iter {s : ByteArray} {w W : World} {p f : Nat} (h : FirstRel s w p f W) (q : Nat) : Below w.heap.size w (W.iterAt w.heap.size s q) :=
  h.2.2.2.trans ⟨rfl, rfl, rfl, by simp [World.iterAt], fun k hk => by
    unfold World.iterAt
    simp only [Array.getElem?_setIfInBounds]
    rw [if_neg (by omega)]⟩
theorem FirstRel.pos {s : ByteArray} {w W : World} {p f : Nat} (h : FirstRel s w p f W) : W.iterPos w.heap.size = p := by unfold World.iterPos; rw [h.1]
theorem FirstRel.bad {s : ByteArray} {w W : World} {p f : Nat} (h : FirstRel s w p f W) (hp : p < s.size) (hd : Utf8.decode s p = (65533, 1)) : utfFirst s = (p : Int) := by
  obtain ⟨f, rfl⟩ : ∃ g, f = g + 1 := ⟨f - 1, by have := h.2.1; omega⟩
  rw [← h.2.2.1]
  unfold utfFrom
  rw [if_pos hp, if_pos hd]
theorem FirstRel.end {s : ByteArray} {w W : World} {p f : Nat} (h : FirstRel s w p f W) (hp : ¬ p < s.size) : utfFirst s = -1 := by rw [← h.2.2.1, utfFrom_end hp]
theorem FirstRel.below {s : ByteArray} {w W W1 : World} {p f : Nat} (h : FirstRel s w p f W) (hb : Below W.heap.size W W1) : FirstRel s w p f W1 :=
  ⟨(hb.block _ (blk_lt h.1)).trans h.1, h.2.1, h.2.2.1, below_step h.2.2.2 hb⟩
set_option maxRecDepth 100000 in
set_option maxHeartbeats 1000000 in
theorem first_any (s : ByteArray) (w : World) (hs : s.size ≤ 1000000) (hT : Tabs w) : Calls Tryz.prog 90 #[.string s] w fun e w' => e = .returned (.int .i64 (utfFirst s)) ∧ Below w.heap.size w w' := by
  have HT := Aside0.mk hT
  have HB := Aside0.mk (Below.refl w.heap.size w)
  have HI := Aside0.mk (show FirstRel s w 0 s.size (w.iter s 0) from ⟨World.iter_heap .., by omega, rfl, below_alloc HB.out _⟩)
  clear hT
  go_enter Tryz.func90, Tryz.ntmps90
  go_wp2
  go_loopw [3] (fun _ W => ∃ p f, Aside0 (FirstRel s w p f W)) (fun _ W => s.size - W.iterPos w.heap.size)
  case atStart => exact ⟨0, _, HI⟩
  case round =>
    obtain ⟨p, f, HR⟩ := hrel
    have hpos : wr.iterPos w.heap.size = p := by unfold World.iterPos; rw [HR.out.1]
    by_cases hp : p < s.size
    · have hnx := Lib.run_next_any_at (P := Tryz.prog) wr w.heap.size s p 0 HR.out.1 hp
      have hb := decode_bound s p
      have HN := Aside0.mk (fun hn => FirstRel.next HR.out hp hn)
      by_cases hr : (Utf8.decode s p).1 = 65533
      · have hr1 : (((Utf8.decode s p).1 : Int) != 65533) = false := by simp [hr]
        have HD : Aside0 (Lib.decodeGo (s.extract p s.size) = Utf8.decode s p) := ⟨by
          unfold Lib.decodeGo
          rw [if_neg (by rw [ByteArray.size_extract]; omega), Extern.FmtText.decode_extract]⟩
        have HBd := Aside0.mk (decode_bad s p hr)
        clear hr
        go_wp2_with fail
        refine (Tryz.utf8_DecodeRuneInString _ _ ?_).mono ?_
        · exact HT.out.below (HR.out.iter _)
        rintro e W1 ⟨rfl, hB⟩
        have HB1 := Aside0.mk hB
        clear hB
        rw [HD.out]
        by_cases hz : (Utf8.decode s p).2 ≤ 1
        · have hz1 : decide (((Utf8.decode s p).2 : Int) ≤ 1) = true := decide_eq_true (by omega)
          go_wp2
          go_ret
          exact ⟨ret_int (HR.out.bad hp (HBd.out hz)).symm, below_then (HR.out.iter _) (HR.out.iter _).size HB1.out⟩
        · have hz1 : decide (((Utf8.decode s p).2 : Int) ≤ 1) = false := decide_eq_false (by omega)
          have HF := Aside0.mk ((HN.out (fun h => hz (by rw [h]; exact Nat.le_refl 1))).below HB1.out)
          go_wp2
          go_roundw
          case rel => exact ⟨_, _, HF⟩
          case measure => rw [HF.out.pos, hpos]; omega
      · have hr1 : (((Utf8.decode s p).1 : Int) != 65533) = true := by simp; omega
        have HF := Aside0.mk (HN.out (fun h => hr (by rw [h])))
        clear hr
        go_wp2
        go_roundw
        case rel => exact ⟨_, _, HF⟩
        case measure => rw [HF.out.pos, hpos]; omega
    · have hnx := Lib.run_next_end_at (P := Tryz.prog) wr w.heap.size s p 0 HR.out.1 hp
      go_wp2
      go_ret
      exact ⟨ret_int (HR.out.end hp).symm, HR.out.2.2.2⟩
end Go.Proofs.YtggldnbhmebcpaaGreatDoor.L
end
section
namespace Go.Proofs.YtggldnbhmebcpaaGreatDoor.L
open Go.RowKit Go.ChangeShapes Go.WideShapes Go.Proofs.YtggldnbhmebcpaaGreatDoorW.PrintWords Go.Proofs.YtggldnbhmebcpaaGreatDoorW.PrintLast Go.Proofs.YtggldnbhmebcpaaGreatDoorW.PrintMore
attribute [local go_sem] max2_int min2_int max_two min_two max_three min_three max_four min_four
structure Spec where
  ints : List Int
  texts : Int
  least : Int
  most : Int
def specz : Spec := ⟨[], 0, 0, 0⟩
def kSpec : Kd Spec := Kd.iso (Kd.pair (Kd.slice 3 (Kd.int .i64)) (Kd.pair (Kd.int .i64) (Kd.pair (Kd.int .i64) (Kd.int .i64)))) (fun x : Spec => (x.ints, x.texts, x.least, x.most))
structure SpecC (w : World) (s : Spec) (A : Option Addr) (c : Nat) : Prop where
  l : s.ints.length ≤ c
  i : (Kd.int .i64).C w A s.ints.length s.ints
theorem SpecC.below {w w' : World} {s : Spec} {A : Option Addr} {c : Nat} (h : SpecC w s A c) (hb : Below w.heap.size w w') : SpecC w' s A c := ⟨h.l, Kd.C_below h.i hb⟩
theorem kSpec_open {w : World} {x : Spec} {cs : List Value} (h : kSpec.K w x cs) : ∃ A c, cs = [.slice A x.ints.length c, .int .i64 x.texts, .int .i64 x.least, .int .i64 x.most] ∧ SpecC w x A c := by
  obtain ⟨_, _, rfl, ⟨A, c, rfl, l, h⟩, ⟨_, _, rfl, rfl, ⟨_, _, rfl, rfl, rfl⟩⟩⟩ := h
  exact ⟨A, c, rfl, l, h⟩
def sp (xs : List Spec) (i : Nat) : Spec := xs.getD i specz
theorem at_spec {w : World} {A : Option Addr} {n : Nat} {xs : List Spec} (h : kSpec.C w A n xs) (i : Nat) (h1 : i < n) :
    ∃ ad A1 c1, A = some ad ∧ w.cell? (ad.add (i * 4)) = some (.slice A1 (sp xs i).ints.length c1) ∧ w.cell? ⟨(ad.add (i * 4)).block, (ad.add (i * 4)).off + 1, none⟩ = some (.int .i64 (sp xs i).texts) ∧ w.cell? ⟨(ad.add (i * 4)).block, (ad.add (i * 4)).off + 2, none⟩ = some (.int .i64 (sp xs i).least) ∧ w.cell? ⟨(ad.add (i * 4)).block, (ad.add (i * 4)).off + 3, none⟩ = some (.int .i64 (sp xs i).most) ∧ SpecC w (sp xs i) A1 c1 := by
  obtain ⟨ad, c, e, _, hK, hc0⟩ := Kd.C_get h specz (i : Int) (by omega) (by omega)
  have hc : ∀ j u, c[j]? = some u → w.cell? (ad.add (i * 4 + j)) = some u := fun j u h => by simpa [show kSpec.sz = 4 from rfl] using hc0 j u h
  have hK' : kSpec.K w (sp xs i) c := by simpa [sp] using hK
  obtain ⟨A1, c1, rfl, hN⟩ := kSpec_open hK'
  refine ⟨ad, A1, c1, e, hc 0 _ rfl, ?_, ?_, ?_, hN⟩
  · rw [← add_field _ _ 1 (by omega)]; exact hc 1 _ rfl
  · rw [← add_field _ _ 2 (by omega)]; exact hc 2 _ rfl
  · rw [← add_field _ _ 3 (by omega)]; exact hc 3 _ rfl
def kSpecG (G : Option Addr → Prop) : Kd Spec where
  sz := 4
  E := []
  K := fun w x cs => ∃ A c, cs = [.slice A x.ints.length c, .int .i64 x.texts, .int .i64 x.least, .int .i64 x.most] ∧ SpecC w x A c ∧ G A
  M := fun _ _ _ _ _ => False
  K_len := by
    rintro w x cs ⟨A, c, rfl, _⟩
    rfl
  K_one := by
    rintro w x cs ⟨A, c, rfl, _⟩ u hu
    simp only [List.mem_cons, List.mem_nil_iff, or_false] at hu
    rcases hu with rfl | rfl | rfl | rfl <;> rfl
  K_below := by
    rintro w w1 x cs hb ⟨A, c, rfl, h, hG⟩
    exact ⟨A, c, rfl, h.below hb, hG⟩
  K_of_M := fun h => h.elim
  M_mono := fun _ h => h
  M_bound := fun h => h.elim
  M_move := fun _ h => h
  M_lower := fun _ h => h
theorem kSpecG_mk {G : Option Addr → Prop} {w : World} {x : Spec} {A : Option Addr} {c n : Nat} (hn : n = x.ints.length) (hc : n ≤ c) (h : (Kd.int .i64).C w A n x.ints) (hG : G A) {t l m : Int} (ht : t = x.texts) (hl : l = x.least) (hm : m = x.most) : (kSpecG G).K w x [.slice A n c, .int .i64 t, .int .i64 l, .int .i64 m] := by
  subst hn ht hl hm
  exact ⟨A, c, rfl, ⟨hc, h⟩, hG⟩
theorem at_specG {G : Option Addr → Prop} {w : World} {A : Option Addr} {n : Nat} {xs : List Spec} (h : (kSpecG G).C w A n xs) (i : Nat) (h1 : i < n) :
    ∃ ad A1 c1, A = some ad ∧ w.cell? (ad.add (i * 4)) = some (.slice A1 (sp xs i).ints.length c1) ∧ w.cell? ⟨(ad.add (i * 4)).block, (ad.add (i * 4)).off + 1, none⟩ = some (.int .i64 (sp xs i).texts) ∧ w.cell? ⟨(ad.add (i * 4)).block, (ad.add (i * 4)).off + 2, none⟩ = some (.int .i64 (sp xs i).least) ∧ w.cell? ⟨(ad.add (i * 4)).block, (ad.add (i * 4)).off + 3, none⟩ = some (.int .i64 (sp xs i).most) ∧ SpecC w (sp xs i) A1 c1 ∧ G A1 := by
  obtain ⟨ad, c, e, _, hK, hc0⟩ := Kd.C_get h specz (i : Int) (by omega) (by omega)
  have hc : ∀ j u, c[j]? = some u → w.cell? (ad.add (i * 4 + j)) = some u := fun j u h => by simpa [show (kSpecG G).sz = 4 from rfl] using hc0 j u h
  have hK' : (kSpecG G).K w (sp xs i) c := by simpa [sp] using hK
  obtain ⟨A1, c1, rfl, hN⟩ := hK'
  refine ⟨ad, A1, c1, e, hc 0 _ rfl, ?_, ?_, ?_, hN⟩
  · rw [← add_field _ _ 1 (by omega)]; exact hc 1 _ rfl
  · rw [← add_field _ _ 2 (by omega)]; exact hc 2 _ rfl
  · rw [← add_field _ _ 3 (by omega)]; exact hc 3 _ rfl
def SpecPost (G : Option Addr → Prop) (r : Option Spec) (w : World) (e : Ending) (w' : World) : Prop :=
  ∃ A c, e = .returned (.tuple #[.agg #[.slice A (r.getD specz).ints.length c, .int .i64 (r.getD specz).texts, .int .i64 (r.getD specz).least, .int .i64 (r.getD specz).most], .bool r.isSome]) ∧ SpecC w' (r.getD specz) A c ∧ G A ∧ Below w.heap.size w w'
def findS (l : List Spec) (k : Int) : Option Spec := if k < 1 ∨ l.length ≤ k then none else some (sp l k.toNat)
set_option maxRecDepth 100000 in
set_option maxHeartbeats 1000000 in
theorem find_any (G : Option Addr → Prop) (hG : G none) (A : Option Addr) (c : Nat) (l : List Spec) (k : Int) (w : World) (h : (kSpecG G).C w A l.length l) (hl : l.length ≤ 100) :
    Calls Tryz.prog 85 #[.slice A l.length c, .int .i64 k] w (SpecPost G (findS l k) w) := by
  have HR := Aside0.mk h
  have HB := Aside0.mk (Below.refl w.heap.size w)
  clear h
  have hu := Tryz.underlying66
  by_cases h1 : k < 1
  · have HE : Aside0 (findS l k = none) := ⟨by unfold findS; rw [if_pos (.inl h1)]⟩
    go_enter Tryz.func85, Tryz.ntmps85
    go_wp2
    rw [HE.out]
    exact bodyPost_ret (v := .tuple #[.agg #[.slice none 0 0, .int .i64 0, .int .i64 0, .int .i64 0], .bool false]) (by simp [results, Tryz.results85, go_sem]) rfl ⟨none, 0, rfl, ⟨Nat.le_refl 0, C_nil _ _⟩, hG, by repeat (first | with_reducible exact HB.out | with_reducible apply below_alloc | with_reducible apply pw_below_drewN | with_reducible apply below_drew1 | (with_reducible refine below_set ?_ (by first | omega | (simp; omega))))⟩
  by_cases h2 : l.length ≤ k
  · have HE : Aside0 (findS l k = none) := ⟨by unfold findS; rw [if_pos (.inr h2)]⟩
    go_enter Tryz.func85, Tryz.ntmps85
    go_wp2
    rw [HE.out]
    exact bodyPost_ret (v := .tuple #[.agg #[.slice none 0 0, .int .i64 0, .int .i64 0, .int .i64 0], .bool false]) (by simp [results, Tryz.results85, go_sem]) rfl ⟨none, 0, rfl, ⟨Nat.le_refl 0, C_nil _ _⟩, hG, by repeat (first | with_reducible exact HB.out | with_reducible apply below_alloc | with_reducible apply pw_below_drewN | with_reducible apply below_drew1 | (with_reducible refine below_set ?_ (by first | omega | (simp; omega))))⟩
  · obtain ⟨j, rfl⟩ : ∃ j : Nat, k = (j : Int) := ⟨k.toNat, by omega⟩
    have HE : Aside0 (findS l (j : Int) = some (sp l j)) := ⟨by unfold findS; rw [if_neg (by omega), Int.toNat_natCast]⟩
    have b1 : j < l.length := by omega
    obtain ⟨ad, A1, c1, rfl, x0, x1, x2, x3, hS, hGA⟩ := at_specG HR.out j (by omega)
    have hb0 := below_alloc (Below.refl w.heap.size w) (.cells #[.slice none 0 0, .int .i64 0, .int .i64 0, .int .i64 0] 66)
    replace x0 := pw_cell_below hb0 x0
    replace x1 := pw_cell_below hb0 x1
    replace x2 := pw_cell_below hb0 x2
    replace x3 := pw_cell_below hb0 x3
    clear hb0
    have HS := Aside0.mk hS
    clear hS
    go_enter Tryz.func85, Tryz.ntmps85
    go_wp2
    rw [HE.out]
    exact bodyPost_ret (v := .tuple #[.agg #[.slice A1 (sp l j).ints.length c1, .int .i64 (sp l j).texts, .int .i64 (sp l j).least, .int .i64 (sp l j).most], .bool true]) (by simp [results, Tryz.results85, go_sem]) rfl ⟨_, _, rfl, HS.out.below (by repeat (first | with_reducible exact HB.out | with_reducible apply below_alloc | with_reducible apply pw_below_drewN | with_reducible apply below_drew1 | (with_reducible refine below_set ?_ (by first | omega | (simp; omega))))), hGA, by repeat (first | with_reducible exact HB.out | with_reducible apply below_alloc | with_reducible apply pw_below_drewN | with_reducible apply below_drew1 | (with_reducible refine below_set ?_ (by first | omega | (simp; omega))))⟩
end Go.Proofs.YtggldnbhmebcpaaGreatDoor.L
end
section
namespace Go.Proofs.YtggldnbhmebcpaaGreatDoor.L
open Go.RowKit Go.ChangeShapes Go.WideShapes Go.Proofs.YtggldnbhmebcpaaGreatDoorW.PrintWords Go.Proofs.YtggldnbhmebcpaaGreatDoorW.PrintLast Go.Proofs.YtggldnbhmebcpaaGreatDoorW.PrintMore
attribute [local go_sem] max2_int min2_int max_two min_two max_three min_three max_four min_four
def textsOk (l : List ByteArray) : Bool := decide (∀ j, j < l.length → utfOk (str l j) = true)
theorem textsOk_bad {l : List ByteArray} {j : Nat} (hj : j < l.length) (h : utfOk (str l j) = false) : textsOk l = false := decide_eq_false (fun h' => by have := h' j hj; rw [h] at this; cases this)
theorem ok70 (s : ByteArray) : decide ((0 : Int) ≤ utfFirst s) = !utfOk s := by
  unfold utfOk
  by_cases h : utfFirst s < 0
  · rw [decide_eq_false (by omega), decide_eq_true h]; rfl
  · rw [decide_eq_true (by omega), decide_eq_false h]; rfl
set_option maxRecDepth 100000 in
set_option maxHeartbeats 1000000 in
theorem bad_any (s : ByteArray) (w : World) (hs : s.size ≤ 1000000) (hT : Tabs w) : Calls Tryz.prog 89 #[.string s] w fun e w' => e = .returned (.bool (!utfOk s)) ∧ Below w.heap.size w w' := by
  have HT := Aside0.mk hT
  have HE := Aside0.mk (ok70 s)
  clear hT
  go_enter Tryz.func89, Tryz.ntmps89
  go_wp2_with fail
  refine (first_any s _ hs HT.out).mono ?_
  rintro e w' ⟨rfl, hB⟩
  have HB := Aside0.mk hB
  clear hB
  go_wp2
  go_ret
  exact ⟨ret_bool HE.out, HB.out⟩
def IdxPost (l : List ByteArray) (w : World) (e : Ending) (w' : World) : Prop := ∃ i : Int, e = .returned (.int .i64 i) ∧ decide (0 ≤ i) = !textsOk l ∧ Below w.heap.size w w'
set_option maxRecDepth 100000 in
set_option maxHeartbeats 1000000 in
theorem badIdx_any (A : Option Addr) (c : Nat) (l : List ByteArray) (w : World) (h : Kd.string.C w A l.length l) (hs : ∀ j, j < l.length → (str l j).size ≤ 1000000) (hT : Tabs w) :
    Calls Tryz.prog 110 #[.slice A l.length c, .func (.func 89) #[] #[]] w (IdxPost l w) := by
  have HR := Aside0.mk h
  have HT := Aside0.mk hT
  have HS := Aside0.mk hs
  have HB := Aside0.mk (Below.refl w.heap.size w)
  have b0 := h.2.1
  clear h hT hs
  go_enter Tryz.func110, Tryz.ntmps110
  go_wp2
  go_loopw [5, 8] (fun _ v8 W => ∃ k : Nat, k ≤ l.length ∧ v8 = .int .i64 k ∧ Aside0 (∀ j, j < k → utfOk (str l j) = true) ∧ Aside0 (Below w.heap.size w W)) (fun _ v8 _ => l.length - (intOf v8).toNat)
  case atStart => exact ⟨0, by omega, rfl, ⟨fun j hj => by omega⟩, HB⟩
  case round =>
    obtain ⟨k, hk, rfl, HP, HB1⟩ := hrel
    by_cases hlt : k < l.length
    · obtain ⟨ad0, rfl, hx0⟩ := at_str (Kd.C_below HR.out HB1.out) k (by omega)
      go_wp2_with fail
      refine (bad_any (str l k) _ (HS.out k hlt) (HT.out.below HB1.out)).mono ?_
      rintro e w' ⟨rfl, hB⟩
      have HB2 := Aside0.mk (below_step HB1.out hB)
      clear hB
      by_cases hi : utfOk (str l k) = true
      · have HI := Aside0.mk hi
        clear hi
        rw [HI.out]
        go_wp2
        go_roundw
        case rel => exact ⟨k + 1, by omega, by go_num, ⟨ext_lt HP.out HI.out⟩, HB2⟩
        case measure => simp [intOf]; omega
      · have HI := Aside0.mk (Bool.eq_false_iff.2 hi)
        clear hi
        rw [HI.out]
        go_wp2
        go_ret
        exact ⟨k, rfl, by rw [textsOk_bad hlt HI.out]; exact decide_eq_true (by omega), HB2.out⟩
    · have HE : Aside0 (textsOk l = true) := ⟨decide_eq_true (fun j hj => HP.out j (by omega))⟩
      go_wp2
      go_ret
      exact ⟨-1, rfl, by rw [HE.out]; rfl, HB1.out⟩
set_option maxRecDepth 100000 in
set_option maxHeartbeats 1000000 in
theorem badTexts_any (A : Option Addr) (c : Nat) (l : List ByteArray) (w : World) (h : Kd.string.C w A l.length l) (hs : ∀ j, j < l.length → (str l j).size ≤ 1000000) (hT : Tabs w) :
    Calls Tryz.prog 88 #[.slice A l.length c, .func (.func 89) #[] #[]] w fun e w' => e = .returned (.bool (!textsOk l)) ∧ Below w.heap.size w w' := by
  have HR := Aside0.mk h
  have HT := Aside0.mk hT
  have HS := Aside0.mk hs
  clear h hT hs
  go_enter Tryz.func88, Tryz.ntmps88
  go_wp2_with fail
  refine (badIdx_any A c l _ HR.out HS.out HT.out).mono ?_
  rintro e w' ⟨i, rfl, hi, hB⟩
  have HI := Aside0.mk hi
  have HB := Aside0.mk hB
  clear hi hB
  go_wp2
  go_ret
  exact ⟨ret_bool HI.out, HB.out⟩
end Go.Proofs.YtggldnbhmebcpaaGreatDoor.L
end
section
namespace Go.Proofs.YtggldnbhmebcpaaGreatDoor.L
open Go.RowKit Go.ChangeShapes Go.WideShapes Go.Proofs.YtggldnbhmebcpaaGreatDoorW.PrintWords Go.Proofs.YtggldnbhmebcpaaGreatDoorW.PrintLast Go.Proofs.YtggldnbhmebcpaaGreatDoorW.PrintMore
attribute [local go_sem] max2_int min2_int max_two min_two max_three min_three max_four min_four
def nodeErr (n : Node) (s : Spec) : Int :=
  if numsOk n.ints s.ints = false then 10 else if ¬ (n.texts.length : Int) = s.texts ∨ textsOk n.texts = false then 11
  else if (n.kids.length : Int) < s.least ∨ 0 ≤ s.most ∧ s.most < n.kids.length then 12 else 0
def TextsSmall (n : Node) : Prop := ∀ j, j < n.texts.length → (str n.texts j).size ≤ 1000000
set_option maxRecDepth 100000 in
set_option maxHeartbeats 2000000 in
theorem check_any (n : Node) (A1 : Option Addr) (c1 : Nat) (A2 : Option Addr) (c2 : Nat) (A3 : Option Addr) (c3 : Nat) (s : Spec) (A4 : Option Addr) (c4 : Nat) (w : World) (h : NodeC w n A1 c1 A2 c2 A3 c3) (h4 : SpecC w s A4 c4) (hs : TextsSmall n) (hT : Tabs w) :
    Calls Tryz.prog 47 #[.agg #[.int .i64 n.kind, .slice A1 n.ints.length c1, .slice A2 n.texts.length c2, .slice A3 n.kids.length c3], .agg #[.slice A4 s.ints.length c4, .int .i64 s.texts, .int .i64 s.least, .int .i64 s.most]] w
      fun e w' => e = .returned (.int .i64 (nodeErr n s)) ∧ Below w.heap.size w w' := by
  have HN := Aside0.mk h
  have H4 := Aside0.mk h4
  have HS := Aside0.mk hs
  have HT := Aside0.mk hT
  have HB := Aside0.mk (below_alloc (below_alloc (Below.refl w.heap.size w) (.cells #[.int .i64 n.kind, .slice A1 n.ints.length c1, .slice A2 n.texts.length c2, .slice A3 n.kids.length c3] 42)) (.cells #[.slice A4 s.ints.length c4, .int .i64 s.texts, .int .i64 s.least, .int .i64 s.most] 66))
  have b3 := h.k.2.1
  have b2 := h.t.2.1
  clear h h4 hs hT
  have HE := Aside0.mk (show nodeErr n s = if numsOk n.ints s.ints = false then 10 else if ¬ (n.texts.length : Int) = s.texts ∨ textsOk n.texts = false then 11
    else if (n.kids.length : Int) < s.least ∨ 0 ≤ s.most ∧ s.most < n.kids.length then 12 else 0 from rfl)
  have HC := Aside0.mk (And.intro (box_cell2 w _ rfl #[.int .i64 n.kind, .slice A1 n.ints.length c1, .slice A2 n.texts.length c2, .slice A3 n.kids.length c3] 42 (.cells #[.slice A4 s.ints.length c4, .int .i64 s.texts, .int .i64 s.least, .int .i64 s.most] 66) 3 _ rfl)
    (And.intro (box_cell (w.alloc (.cells #[.int .i64 n.kind, .slice A1 n.ints.length c1, .slice A2 n.texts.length c2, .slice A3 n.kids.length c3] 42)) (w.heap.size + 1) (by simp) #[.slice A4 s.ints.length c4, .int .i64 s.texts, .int .i64 s.least, .int .i64 s.most] 66 2 _ rfl)
      (box_cell (w.alloc (.cells #[.int .i64 n.kind, .slice A1 n.ints.length c1, .slice A2 n.texts.length c2, .slice A3 n.kids.length c3] 42)) (w.heap.size + 1) (by simp) #[.slice A4 s.ints.length c4, .int .i64 s.texts, .int .i64 s.least, .int .i64 s.most] 66 3 _ rfl)))
  go_enter Tryz.func47, Tryz.ntmps47
  go_wp2_with fail
  refine (cnums_any A1 c1 n.ints A4 c4 s.ints _ (Kd.C_below HN.out.i HB.out) (Kd.C_below H4.out.i HB.out)).mono ?_
  rintro e w1 ⟨rfl, ⟨m, rfl⟩⟩
  have HB1 := Aside0.mk (pw_below_drewN HB.out m)
  by_cases q1 : numsOk n.ints s.ints = true
  · have Q1 := Aside0.mk q1
    rw [Q1.out]
    clear q1
    by_cases q2 : (n.texts.length : Int) = s.texts
    · have Q2 := Aside0.mk q2
      have q2b : ((n.texts.length : Int) != s.texts) = false := by simp [q2]
      clear q2
      go_wp2_with fail
      refine (badTexts_any A2 c2 n.texts _ (Kd.C_below HN.out.t HB1.out) HS.out (HT.out.below HB1.out)).mono ?_
      rintro e w2 ⟨rfl, hB2⟩
      have HB2 := Aside0.mk (below_step HB1.out hB2)
      have k3 := pw_cell_below hB2 (show (((w.alloc _).alloc _).drewN m).cell? _ = _ from HC.out.1)
      have s2 := pw_cell_below hB2 (show (((w.alloc _).alloc _).drewN m).cell? _ = _ from HC.out.2.1)
      have s3 := pw_cell_below hB2 (show (((w.alloc _).alloc _).drewN m).cell? _ = _ from HC.out.2.2)
      clear hB2
      by_cases q3 : textsOk n.texts = true
      · have Q3 := Aside0.mk q3
        rw [Q3.out]
        clear q3
        by_cases q4 : (n.kids.length : Int) < s.least
        · have Q4 := Aside0.mk q4
          have q4b : decide ((n.kids.length : Int) < s.least) = true := decide_eq_true q4
          clear q4
          go_wp2
          go_ret
          exact ⟨ret_int (by rw [HE.out, if_neg (by rw [Q1.out]; simp), if_neg (by rw [Q3.out]; simp [Q2.out]), if_pos (.inl Q4.out)]), HB2.out⟩
        · have Q4 := Aside0.mk q4
          have q4b : decide ((n.kids.length : Int) < s.least) = false := decide_eq_false q4
          clear q4
          by_cases q5 : 0 ≤ s.most
          · by_cases q6 : s.most < n.kids.length
            · have Q6 := Aside0.mk (show 0 ≤ s.most ∧ s.most < n.kids.length from ⟨q5, q6⟩)
              have q5b : decide (0 ≤ s.most) = true := decide_eq_true q5
              have q6b : decide (s.most < (n.kids.length : Int)) = true := decide_eq_true q6
              clear q5 q6
              go_wp2
              go_ret
              exact ⟨ret_int (by rw [HE.out, if_neg (by rw [Q1.out]; simp), if_neg (by rw [Q3.out]; simp [Q2.out]), if_pos (.inr Q6.out)]), HB2.out⟩
            · have Q6 := Aside0.mk (show ¬ (0 ≤ s.most ∧ s.most < n.kids.length) from fun h => q6 h.2)
              have q5b : decide (0 ≤ s.most) = true := decide_eq_true q5
              have q6b : decide (s.most < (n.kids.length : Int)) = false := decide_eq_false q6
              clear q5 q6
              go_wp2
              go_ret
              exact ⟨ret_int (by rw [HE.out, if_neg (by rw [Q1.out]; simp), if_neg (by rw [Q3.out]; simp [Q2.out]), if_neg (fun h => h.elim (fun h0 => by have := Q4.out; omega) Q6.out)]), HB2.out⟩
          · have Q6 := Aside0.mk (show ¬ (0 ≤ s.most ∧ s.most < n.kids.length) from fun h => q5 h.1)
            have q5b : decide (0 ≤ s.most) = false := decide_eq_false q5
            clear q5
            go_wp2
            go_ret
            exact ⟨ret_int (by rw [HE.out, if_neg (by rw [Q1.out]; simp), if_neg (by rw [Q3.out]; simp [Q2.out]), if_neg (fun h => h.elim (fun h0 => by have := Q4.out; omega) Q6.out)]), HB2.out⟩
      · have Q3 := Aside0.mk (Bool.eq_false_iff.2 q3)
        clear q3
        rw [Q3.out]
        go_wp2
        go_ret
        exact ⟨ret_int (by rw [HE.out, if_neg (by rw [Q1.out]; simp), if_pos (.inr Q3.out)]), HB2.out⟩
    · have Q2 := Aside0.mk q2
      have q2b : ((n.texts.length : Int) != s.texts) = true := by simp [q2]
      clear q2
      go_wp2
      go_ret
      exact ⟨ret_int (by rw [HE.out, if_neg (by rw [Q1.out]; simp), if_pos (.inl Q2.out)]), HB1.out⟩
  · have Q1 := Aside0.mk (Bool.eq_false_iff.2 q1)
    clear q1
    rw [Q1.out]
    go_wp2
    go_ret
    exact ⟨ret_int (by rw [HE.out, if_pos Q1.out]), HB1.out⟩
end Go.Proofs.YtggldnbhmebcpaaGreatDoor.L
end
section
namespace Go.Proofs.YtggldnbhmebcpaaGreatDoor.L
open Go.RowKit Go.ChangeShapes Go.WideShapes Go.Proofs.YtggldnbhmebcpaaGreatDoorW.PrintWords Go.Proofs.YtggldnbhmebcpaaGreatDoorW.PrintLast Go.Proofs.YtggldnbhmebcpaaGreatDoorW.PrintMore
attribute [local go_sem] max2_int min2_int max_two min_two max_three min_three max_four min_four
theorem own_block {W : World} {base e g n : Nat} {xs : List Value} (h : W.ownsRow base e 1 (.slice (some ⟨g, 0, none⟩) n n) n xs) : W.heap[g]? = some (.cells xs.toArray e (0, 0)) ∧ base ≤ g := by
  rcases h.2 with ⟨hv, _⟩ | ⟨g', cap, cur, hv, hb, hh, hnc, hcm, hcs, htake⟩
  · cases hv
  · injection hv with ha _ hc
    injection ha with ha
    injection ha with hg'
    subst hg'; subst hc
    refine ⟨?_, hb⟩
    have : xs.toArray = cur := by
      apply Array.toList_inj.1
      rw [← htake, List.take_of_length_le (by rw [Array.length_toList]; omega)]
    rw [this]; exact hh
theorem R_of_block {W : World} {base e g : Nat} {xs : List Int} (h : W.heap[g]? = some (.cells (xs.map (Value.int .i64)).toArray e (0, 0))) (hb : base ≤ g) (hm : xs.length ≤ 9223372036854775807) :
    (Kd.int .i64).R e W base (fun _ => True) (.slice (some ⟨g, 0, none⟩) xs.length xs.length) xs := by
  refine Kd.R_of_own (enc := Value.int .i64) (h1 := fun _ => rfl) ⟨by simp [encs], .inr ⟨g, xs.length, _, rfl, hb, h, Nat.le_refl _, by unfold maxLen; omega, by simp, by rw [List.take_of_length_le (by simp)]; rfl⟩⟩ (fun _ _ => trivial)
theorem made_zero (m : Nat) : (madeCells (Value.int .i64 0).cells (m * 1)).toList = List.replicate m (.int .i64 0) := by
  rw [List.eq_replicate_iff]
  refine ⟨by simp [size_madeCells], fun b hb => ?_⟩
  unfold madeCells at hb
  simp only [Array.toList_map, List.mem_map] at hb
  obtain ⟨j, _, rfl⟩ := hb
  show (#[Value.int .i64 0])[j % 1]! = _
  rw [Nat.mod_one]
  rfl
theorem src_one {W : World} {ad : Addr} {x : Value} (h : W.cell? ad = some x) : ∀ j u, [x][j]? = some u → W.cell? (ad.add j) = some u := by
  intro j u hu
  match j with
  | 0 =>
    have : u = x := by simpa using hu.symm
    subst this
    have e : ad.add 0 = ad := by unfold Addr.add; split <;> simp_all
    rw [e]; exact h
  | j + 1 => simp at hu
theorem copy_run {P : Program} {w : World} (dT sT ty : TypeId) (elem : TypeId) (hu : P.underlying dT = some (.slice elem)) (hsz : (P.info? elem).map (·.size) = some 1)
    (dLen dCap : Nat) (ad : Addr) (sLen sCap : Nat) (g off : Nat) (cur : List Value) (t : TypeId) (hg : w.heap[g]? = some (.cells cur.toArray t (0, 0))) (cs : List Value) (hn : cs.length = Nat.min sLen dLen)
    (hsrc : ∀ j v, cs[j]? = some v → w.cell? (ad.add j) = some v) (hfit : off + cs.length ≤ cur.length) (h1 : ∀ v ∈ cs, v.oneCell' = true) (B : Nat) (w0 : World) (hb : Below B w0 w) (hBg : B ≤ g) :
    ∃ w', (Builtin.copy_ #[dT, sT] ty #[.slice (some ⟨g, off, none⟩) dLen dCap, .slice (some ad) sLen sCap]).run P w = .ok (goInt cs.length) w' ∧ w'.heap[g]? = some (.cells (splice cur off cs).toArray t (0, 0)) ∧ Below B w0 w' :=
  ⟨_, run_copy_row (P := P) w dT sT ty elem g off dLen dCap ad sLen sCap cur.toArray t cs hu hsz hg hn hsrc (by simpa using hfit) h1, by simpa [splice] using setRow_heap w g _ _ t _ hg, below_setRow hb hBg _⟩
theorem src_block {W : World} {g : Nat} {t : TypeId} {cur : List Value} (h : W.heap[g]? = some (.cells cur.toArray t (0, 0))) {cs : List Value} (hc : ∀ (j : Nat) (u : Value), cs[j]? = some u → cur[j]? = some u) : ∀ (j : Nat) (u : Value), cs[j]? = some u → W.cell? ((⟨g, 0, none⟩ : Addr).add j) = some u := by
  intro j u hu
  rw [Go.Proofs.YtggldnbhmebcpaaGreatDoorW.PrintWords.add_plain, blk_cell h j]
  simpa using hc j u hu
def repl (n m : Nat) (v : Int) : List Int := List.replicate n v ++ List.replicate (m - n) 0
theorem repl_full (m : Nat) (v : Int) : repl m m v = List.replicate m v := by simp [repl]
theorem repl_length {n m : Nat} (h : n ≤ m) (v : Int) : (repl n m v).length = m := by simp [repl]; omega
theorem repl_src {n m : Nat} (h : n ≤ m) (v : Int) : ∀ (j : Nat) (u : Value), ((List.replicate (min n (m - n)) v).map (Value.int .i64))[j]? = some u → ((repl n m v).map (Value.int .i64))[j]? = some u := by
  intro j u hu
  rw [List.map_replicate, List.getElem?_replicate] at hu
  split at hu
  · rw [repl, List.map_append, List.getElem?_append_left (by simp; omega), List.map_replicate, List.getElem?_replicate, if_pos (by omega)]
    exact hu
  · cases hu
theorem repl_splice {n m : Nat} (h : n ≤ m) (v : Int) : splice ((repl n m v).map (Value.int .i64)) n ((List.replicate (min n (m - n)) v).map (Value.int .i64)) = (repl (n + min n (m - n)) m v).map (Value.int .i64) := by
  unfold splice repl
  simp only [List.map_append, List.map_replicate, List.length_replicate]
  rw [List.take_append_of_le_length (by simp), List.take_of_length_le (by simp), List.drop_append, List.drop_eq_nil_of_le (by simp)]
  simp only [List.length_replicate, List.drop_replicate, List.nil_append, ← List.append_assoc, List.replicate_append_replicate]
  congr 2
  omega
theorem repl_first {m : Nat} (h : 1 ≤ m) (v : Int) : splice ((repl 0 m v).map (Value.int .i64)) 0 [.int .i64 v] = (repl 1 m v).map (Value.int .i64) := by
  obtain ⟨m, rfl⟩ : ∃ j, m = j + 1 := ⟨m - 1, by omega⟩
  simp [splice, repl, List.replicate_succ]
def repeat_intRel (g m n : Nat) (v : Int) (w W : World) : Prop := W.heap[g]? = some (.cells ((repl n m v).map (Value.int .i64)).toArray 3 (0, 0)) ∧ Below w.heap.size w W
set_option maxRecDepth 100000 in
set_option maxHeartbeats 1000000 in
theorem repeat_int (ad : Addr) (c : Nat) (v : Int) (m : Nat) (w : World) (hx : w.cell? ad = some (.int .i64 v)) (h1 : 1 ≤ m) (h2 : m ≤ 1000000) :
    Calls Tryz.prog 28 #[.slice (some ad) 1 c, .int .i64 m] w (RowPost (Kd.int .i64) 3 (List.replicate m v) w) := by
  have HB := Aside0.mk (Below.refl w.heap.size w)
  have HX := Aside0.mk hx
  clear hx
  obtain ⟨i0, hi, hz0, hz1, hz2⟩ := info_parts info_int
  have hm0 : ¬ (m : Int) < 0 := by omega
  go_enter Tryz.func28, Tryz.ntmps28
  go_wp2_with fail
  refine (Tryz.bits_Mul 1 m (by omega) (by omega) _).mono ?_
  rintro e w' ⟨rfl, hw⟩
  obtain rfl : w = w' := hw.symm
  have e1 : 1 * m / 18446744073709551616 = 0 := by omega
  have e2 : 1 * m % 18446744073709551616 = m := by omega
  rw [e1, e2]
  clear e1 e2
  go_wp2_with (refine wpList_make_full _ rfl (.tmp 29) (.tmp 29) 40 rfl w.heap.size 3 i0 (.int .i64 0) 1 Tryz.underlying40 hi hz0 hz1 .i64 .i64 (m : Int) (m : Int) m rfl rfl rfl rfl (by rw [hz2]; omega) (by unfold maxLen; omega) (Nat.le_refl _) ?_; intro w1 hown hg1; have HO := Aside0.mk (show w1.heap[w.heap.size]? = some (.cells ((repl 0 m v).map (Value.int .i64)).toArray 3 (0, 0)) from by rw [(own_block hown).1, made_zero]; simp [repl]); have HB1 := Aside0.mk (below_step HB.out ⟨hg1.os, hg1.tape, hg1.output, hg1.size, fun i hi => hg1.block i hi (by simp)⟩); clear hown hg1; obtain ⟨w2, hcp, hg2, hb2⟩ := copy_run (P := Tryz.prog) 40 40 3 3 Tryz.underlying40 (by rw [hi]; exact congrArg some hz1) m m ad 1 c w.heap.size 0 _ 3 HO.out [.int .i64 v] (Nat.min_eq_left h1).symm (src_one (pw_cell_below HB1.out HX.out)) (by rw [List.length_map, repl_length (Nat.zero_le _)]; exact h1) (by simp [Value.oneCell']) w.heap.size w HB1.out (Nat.le_refl _); have HG := Aside0.mk (show repeat_intRel w.heap.size m 1 v w w2 from ⟨by rw [← repl_first h1]; exact hg2, hb2⟩); clear hg2 hb2)
  go_loopw [8] (fun v8 W => ∃ n : Nat, 1 ≤ n ∧ n ≤ m ∧ v8 = .int .i64 n ∧ Aside0 (repeat_intRel w.heap.size m n v w W)) (fun v8 _ => m - (intOf v8).toNat)
  case atStart => exact ⟨1, by omega, h1, rfl, HG⟩
  case round =>
    obtain ⟨n, hn1, hn2, rfl, HR⟩ := hrel
    by_cases hlt : n < m
    · have HW := Aside0.mk (show IntKind.i64.wrap ((n : Int) + ((min n (m - n) : Nat) : Int)) = ((n + min n (m - n) : Nat) : Int) from by rw [wrap_i (by omega) (by omega)]; push_cast; rfl)
      have hmn : ¬ m = n := by omega
      obtain ⟨w3, hcp3, hg3, hb3⟩ := copy_run (P := Tryz.prog) (w := wr.drew) 40 40 3 3 Tryz.underlying40 (by rw [hi]; exact congrArg some hz1) (m - n) (m - n) ⟨w.heap.size, 0, none⟩ n m w.heap.size n _ 3 HR.out.1 ((List.replicate (min n (m - n)) v).map (Value.int .i64)) (by simp) (src_block HR.out.1 (repl_src hn2 v)) (by simp only [List.length_map, List.length_replicate]; rw [repl_length hn2]; omega) (fun x hx => by simp only [List.mem_map] at hx; obtain ⟨y, _, rfl⟩ := hx; rfl) w.heap.size w (below_drew1 HR.out.2) (Nat.le_refl _)
      have HG3 := Aside0.mk (show repeat_intRel w.heap.size m (n + min n (m - n)) v w w3 from ⟨by rw [← repl_splice hn2]; exact hg3, hb3⟩)
      rw [List.length_map, List.length_replicate] at hcp3
      clear hg3 hb3
      have hw3 := HW.out
      go_wp2
      go_region
      go_wp2
      go_roundw
      case rel => exact ⟨n + min n (m - n), by omega, by omega, rfl, HG3⟩
      case measure => simp [intOf]; omega
    · obtain rfl : n = m := by omega
      go_wp2
      go_ret
      exact RowPost.mk (v := .slice (some ⟨w.heap.size, 0, none⟩) n n) (by
        have h := HR.out.1
        rw [repl_full] at h
        have := R_of_block h (Nat.le_refl _) (by simp; omega)
        simpa using this) HR.out.2
end Go.Proofs.YtggldnbhmebcpaaGreatDoor.L
end
section
namespace Go.Proofs.YtggldnbhmebcpaaGreatDoor.L
open Go.RowKit Go.ChangeShapes Go.WideShapes Go.Proofs.YtggldnbhmebcpaaGreatDoorW.PrintWords Go.Proofs.YtggldnbhmebcpaaGreatDoorW.PrintLast Go.Proofs.YtggldnbhmebcpaaGreatDoorW.PrintMore
attribute [local go_sem] max2_int min2_int max_two min_two max_three min_three max_four min_four
set_option maxHeartbeats 1000000 in
theorem sints_any (n : Nat) (c : Int) (w : World) (h1 : 1 ≤ n) (h2 : n ≤ 1000000) : Calls Tryz.prog 86 #[.int .i64 n, .int .i64 c] w fun e w' => ∃ A d, e = .returned (.slice A n d) ∧ n ≤ d ∧ (Kd.int .i64).R 3 w' w.heap.size (fun _ => True) (.slice A n d) (List.replicate n c) ∧ Below w.heap.size w w' := by
  have HB := Aside0.mk (Below.refl w.heap.size w)
  go_enter Tryz.func86, Tryz.ntmps86
  go_wp2_with fail
  refine (repeat_int ⟨w.heap.size, 0, none⟩ 1 c n _ (by simp) h1 h2).mono ?_
  rintro e w1 ⟨A, d, rfl, hR, hB⟩
  rw [List.length_replicate] at hR ⊢
  have HR := Aside0.mk (Kd.R_lower (base' := w.heap.size) hR (by simp))
  have HD := Aside0.mk (Kd.R_reads' hR).2.1
  have HB1 := Aside0.mk (below_step (below_alloc HB.out (.cells #[.int .i64 c] 3)) hB)
  clear hR hB
  go_wp2
  go_ret
  exact ⟨_, _, rfl, HD.out, HR.out, HB1.out⟩
def oldTab : List Spec := [specz, ⟨[], 0, 0, -1⟩, ⟨[2, 2, 2, 2], 0, 1, 1⟩, ⟨[3], 1, 0, 0⟩, ⟨[3], 1, 0, 0⟩, ⟨[], 1, 0, 0⟩, ⟨[4], 0, 0, 0⟩]
def newTab : List Spec := [specz, ⟨[], 1, 0, -1⟩, ⟨[2, 2, 2], 0, 1, 1⟩, ⟨[3, 3, 3], 1, 0, 0⟩, ⟨[3], 1, 0, 0⟩, ⟨[3], 2, 0, 0⟩, ⟨[1], 0, 0, -1⟩, ⟨[4, 4, 4, 5], 0, 0, 0⟩, ⟨[2, 2, 2], 0, 1, 1⟩]
theorem Lits.cons {α : Type} {d : Kd α} {W : World} {p : α} {ps : List α} {c r : List Value} (hk : d.K W p c) (h : Lits d W ps r) : Lits d W (p :: ps) (c ++ r) := ⟨c, r, rfl, hk, h⟩
theorem Lits.nil {α : Type} {d : Kd α} {W : World} : Lits d W [] [] := rfl
def Past (b : Nat) (A : Option Addr) : Prop := ∀ ad, A = some ad → b < ad.block
theorem Past.none (b : Nat) : Past b none := fun _ h => by cases h
theorem Past.of_R {α : Type} {d : Kd α} {e B b n c : Nat} {w : World} {ok : Nat → Prop} {A : Option Addr} {xs : List α} (h : d.R e w B ok (.slice A n c) xs) (hb : b < B) : Past b A := fun ad he => by
  subst he
  have := Kd.R_base h ad.block rfl
  omega
theorem C_int_far {W : World} {A : Option Addr} {n b i : Nat} {k : IntKind} {xs : List Int} (h : (Kd.int k).C W A n xs) (hp : Past b A) (u : Value) : (Kd.int k).C (W.setCell ⟨b, i, none⟩ u) A n xs := by
  refine ⟨h.1, h.2.1, fun hn => ?_⟩
  obtain ⟨ad, rfl, hc⟩ := h.2.2 hn
  refine ⟨ad, rfl, fun j p hj => ?_⟩
  obtain ⟨c, h1, h2, h3⟩ := hc j p hj
  exact ⟨c, h1, h2, fun q u' hu => far_set (h3 q u' hu) b i (by rw [add_block]; have := hp ad rfl; omega) u⟩
theorem SpecC.far4 {W : World} {s : Spec} {A : Option Addr} {c b : Nat} (h : SpecC W s A c) (hp : Past b A) (u0 u1 u2 u3 : Value) : SpecC ((((W.setCell ⟨b, 0, none⟩ u0).setCell ⟨b, 1, none⟩ u1).setCell ⟨b, 2, none⟩ u2).setCell ⟨b, 3, none⟩ u3) s A c :=
  ⟨h.l, C_int_far (C_int_far (C_int_far (C_int_far h.i hp _) hp _) hp _) hp _⟩
set_option maxRecDepth 100000 in
set_option maxHeartbeats 4000000 in
theorem new_any (k : Int) (w : World) : Calls Tryz.prog 46 #[.int .i64 k] w (SpecPost (Past w.heap.size) (findS newTab k) w) := by
  have HB0 := Aside0.mk (below_alloc (Below.refl w.heap.size w) (.cells #[.slice none 0 0, .int .i64 0, .int .i64 0, .int .i64 0] 66))
  have HZ0 := Aside0.mk (show w.heap.size < (w.alloc (.cells #[.slice none 0 0, .int .i64 0, .int .i64 0, .int .i64 0] 66)).heap.size from by simp)
  have HL0 := Aside0.mk (show Lives 4 w.heap.size (w.alloc (.cells #[.slice none 0 0, .int .i64 0, .int .i64 0, .int .i64 0] 66)) from Lives.new w #[.slice none 0 0, .int .i64 0, .int .i64 0, .int .i64 0] 66)
  have hu := Tryz.underlying66
  go_enter Tryz.func46, Tryz.ntmps46
  go_wp2_with fail
  refine (sints_any 3 2 _ (by omega) (by omega)).mono ?_
  rintro e w1 ⟨A1, d1, rfl, hd1, hR1, hB1⟩
  have HG1 := Aside0.mk (Past.of_R hR1 HZ0.out)
  have HR1 := Aside0.mk (Kd.R_reads' hR1).2.2
  have HD1 := Aside0.mk hd1
  have HB1 := Aside0.mk (below_step HB0.out hB1)
  have HZ1 := Aside0.mk (Nat.lt_of_lt_of_le HZ0.out hB1.size)
  have HL1 := Aside0.mk (Lives.below HL0.out hB1)
  clear hR1 hB1 hd1 HB0 HL0 HZ0
  go_wp2_with fail
  refine (sints_any 3 3 _ (by omega) (by omega)).mono ?_
  rintro e w2 ⟨A2, d2, rfl, hd2, hR2, hB2⟩
  have HG2 := Aside0.mk (Past.of_R hR2 HZ1.out)
  have HR2 := Aside0.mk (Kd.R_reads' hR2).2.2
  have HD2 := Aside0.mk hd2
  replace HR1 := Aside0.mk (Kd.C_below HR1.out hB2)
  have HB2 := Aside0.mk (below_step HB1.out hB2)
  have HZ2 := Aside0.mk (Nat.lt_of_lt_of_le HZ1.out hB2.size)
  have HL2 := Aside0.mk (Lives.below HL1.out hB2)
  clear hR2 hB2 hd2 HB1 HL1 HZ1
  go_wp2_with fail
  refine (sints_any 1 3 _ (by omega) (by omega)).mono ?_
  rintro e w3 ⟨A3, d3, rfl, hd3, hR3, hB3⟩
  have HG3 := Aside0.mk (Past.of_R hR3 HZ2.out)
  have HR3 := Aside0.mk (Kd.R_reads' hR3).2.2
  have HD3 := Aside0.mk hd3
  replace HR1 := Aside0.mk (Kd.C_below HR1.out hB3)
  replace HR2 := Aside0.mk (Kd.C_below HR2.out hB3)
  have HB3 := Aside0.mk (below_step HB2.out hB3)
  have HZ3 := Aside0.mk (Nat.lt_of_lt_of_le HZ2.out hB3.size)
  have HL3 := Aside0.mk (Lives.below HL2.out hB3)
  clear hR3 hB3 hd3 HB2 HL2 HZ2
  go_wp2_with fail
  refine (sints_any 1 3 _ (by omega) (by omega)).mono ?_
  rintro e w4 ⟨A4, d4, rfl, hd4, hR4, hB4⟩
  have HG4 := Aside0.mk (Past.of_R hR4 HZ3.out)
  have HR4 := Aside0.mk (Kd.R_reads' hR4).2.2
  have HD4 := Aside0.mk hd4
  replace HR1 := Aside0.mk (Kd.C_below HR1.out hB4)
  replace HR2 := Aside0.mk (Kd.C_below HR2.out hB4)
  replace HR3 := Aside0.mk (Kd.C_below HR3.out hB4)
  have HB4 := Aside0.mk (below_step HB3.out hB4)
  have HZ4 := Aside0.mk (Nat.lt_of_lt_of_le HZ3.out hB4.size)
  have HL4 := Aside0.mk (Lives.below HL3.out hB4)
  clear hR4 hB4 hd4 HB3 HL3 HZ3
  go_wp2_with fail
  refine (sints_any 1 1 _ (by omega) (by omega)).mono ?_
  rintro e w5 ⟨A5, d5, rfl, hd5, hR5, hB5⟩
  have HG5 := Aside0.mk (Past.of_R hR5 HZ4.out)
  have HR5 := Aside0.mk (Kd.R_reads' hR5).2.2
  have HD5 := Aside0.mk hd5
  replace HR1 := Aside0.mk (Kd.C_below HR1.out hB5)
  replace HR2 := Aside0.mk (Kd.C_below HR2.out hB5)
  replace HR3 := Aside0.mk (Kd.C_below HR3.out hB5)
  replace HR4 := Aside0.mk (Kd.C_below HR4.out hB5)
  have HB5 := Aside0.mk (below_step HB4.out hB5)
  have HZ5 := Aside0.mk (Nat.lt_of_lt_of_le HZ4.out hB5.size)
  have HL5 := Aside0.mk (Lives.below HL4.out hB5)
  clear hR5 hB5 hd5 HB4 HL4 HZ4
  go_wp2_with fail
  refine (sints_any 3 4 _ (by omega) (by omega)).mono ?_
  rintro e w6 ⟨A6, d6, rfl, hd6, hR6, hB6⟩
  have HO := Aside0.mk hR6
  have HBo := Aside0.mk hB6
  clear hR6 hB6 hd6
  go_wp2_with (at_builtin; refine Kd.R_append_rows (Kd.int .i64) (Rr := fun x cs => cs = [.int .i64 x]) (w0 := w5) w5.heap.size rfl (.tmp 15) (.tmp 16) 40 3 (.int .i64 0) 8 rfl Tryz.underlying40 info_int rfl (by decide) (by omega) (.slice A6 3 d6) (List.replicate 3 4) [5] _ _ _ (fun _ => True) (fun _ => False) rfl rfl (Kd.R_alloc HO.out (.cells #[.int .i64 5] 3)) (C_ints w6 3 _ rfl [5] (by decide) rfl) (fun _ _ h => h) (fun _ h => h.elim) (fun _ _ => trivial) (below_alloc HBo.out _) (below_alloc HBo.out _).size (by simp) ?_; intro v5 wx hR5 hB5 _ _; obtain ⟨Ax, dx, rfl⟩ := Kd.R_slice hR5; have HRx := Aside0.mk (show (Kd.int .i64).R 3 wx w5.heap.size (fun _ => True) (.slice Ax 4 dx) [4, 4, 4, 5] from hR5); have HBx := Aside0.mk hB5; clear hR5 hB5)
  have hR6 := HRx.out
  have hB6 := HBx.out
  have hd6 := (Kd.R_reads' HRx.out).2.1
  have HG6 := Aside0.mk (Past.of_R hR6 HZ5.out)
  have HR6 := Aside0.mk (Kd.R_reads' hR6).2.2
  have HD6 := Aside0.mk hd6
  replace HR1 := Aside0.mk (Kd.C_below HR1.out hB6)
  replace HR2 := Aside0.mk (Kd.C_below HR2.out hB6)
  replace HR3 := Aside0.mk (Kd.C_below HR3.out hB6)
  replace HR4 := Aside0.mk (Kd.C_below HR4.out hB6)
  replace HR5 := Aside0.mk (Kd.C_below HR5.out hB6)
  have HB6 := Aside0.mk (below_step HB5.out hB6)
  have HZ6 := Aside0.mk (Nat.lt_of_lt_of_le HZ5.out hB6.size)
  have HL6 := Aside0.mk (Lives.below HL5.out hB6)
  clear hR6 hB6 hd6 HB5 HL5 HZ5
  go_wp2_with fail
  refine (sints_any 3 2 _ (by omega) (by omega)).mono ?_
  rintro e w7 ⟨A7, d7, rfl, hd7, hR7, hB7⟩
  have HG7 := Aside0.mk (Past.of_R hR7 HZ6.out)
  have HR7 := Aside0.mk (Kd.R_reads' hR7).2.2
  have HD7 := Aside0.mk hd7
  replace HR1 := Aside0.mk (Kd.C_below HR1.out hB7)
  replace HR2 := Aside0.mk (Kd.C_below HR2.out hB7)
  replace HR3 := Aside0.mk (Kd.C_below HR3.out hB7)
  replace HR4 := Aside0.mk (Kd.C_below HR4.out hB7)
  replace HR5 := Aside0.mk (Kd.C_below HR5.out hB7)
  replace HR6 := Aside0.mk (Kd.C_below HR6.out hB7)
  have HB7 := Aside0.mk (below_step HB6.out hB7)
  have HZ7 := Aside0.mk (Nat.lt_of_lt_of_le HZ6.out hB7.size)
  have HL7 := Aside0.mk (Lives.below HL6.out hB7)
  clear hR7 hB7 hd7 HB6 HL6 HZ6
  go_wp2_with fail
  refine (find_any (Past w.heap.size) (Past.none _) (some ⟨w7.heap.size, 0, none⟩) 9 newTab k _ (C_lits (kSpecG (Past w.heap.size)) w7 _ _ rfl newTab _ (Lits.cons (kSpecG_mk (A := none) (c := 0) (n := 0) rfl (Nat.le_refl 0) (C_nil _ _) (Past.none _) rfl rfl rfl) (Lits.cons (kSpecG_mk (A := none) (c := 0) (n := 0) rfl (Nat.le_refl 0) (C_nil _ _) (Past.none _) rfl rfl rfl) (Lits.cons (kSpecG_mk (n := 3) rfl HD1.out HR1.out HG1.out rfl rfl rfl) (Lits.cons (kSpecG_mk (n := 3) rfl HD2.out HR2.out HG2.out rfl rfl rfl) (Lits.cons (kSpecG_mk (n := 1) rfl HD3.out HR3.out HG3.out rfl rfl rfl) (Lits.cons (kSpecG_mk (n := 1) rfl HD4.out HR4.out HG4.out rfl rfl rfl) (Lits.cons (kSpecG_mk (n := 1) rfl HD5.out HR5.out HG5.out rfl rfl rfl) (Lits.cons (kSpecG_mk (n := 4) rfl HD6.out HR6.out HG6.out rfl rfl rfl) (Lits.cons (kSpecG_mk (n := 3) rfl HD7.out HR7.out HG7.out rfl rfl rfl) Lits.nil))))))))) (by decide) rfl) (by decide)).mono ?_
  rintro e wf ⟨A, c, rfl, hS, hG, hB⟩
  have HS := Aside0.mk hS
  have HG := Aside0.mk hG
  have HB := Aside0.mk (below_step (below_alloc HB7.out _) hB)
  have HL := Aside0.mk (Lives.below (Lives.below HL7.out (below_alloc (Below.refl _ _) _)) hB)
  clear hS hG hB
  have hl0 := HL.out.at 0 (by omega)
  have hl1 := HL.out.at 1 (by omega)
  have hl2 := HL.out.at 2 (by omega)
  have hl3 := HL.out.at 3 (by omega)
  go_wp2
  clear hl0 hl1 hl2 hl3
  have h4 := HL.out.set4 (.slice A ((findS newTab k).getD specz).ints.length c) (.int .i64 ((findS newTab k).getD specz).texts) (.int .i64 ((findS newTab k).getD specz).least) (.int .i64 ((findS newTab k).getD specz).most)
  exact bodyPost_ret (v := .tuple #[.agg #[.slice A ((findS newTab k).getD specz).ints.length c, .int .i64 ((findS newTab k).getD specz).texts, .int .i64 ((findS newTab k).getD specz).least, .int .i64 ((findS newTab k).getD specz).most], .bool (findS newTab k).isSome]) (by simp [results, Tryz.results46, go_sem, h4]) rfl ⟨A, c, rfl, HS.out.far4 HG.out _ _ _ _, HG.out, below_set4 HB.out (Nat.le_refl _)⟩
end Go.Proofs.YtggldnbhmebcpaaGreatDoor.L
end
section
namespace Go.Proofs.YtggldnbhmebcpaaGreatDoor.L
open Go.RowKit Go.ChangeShapes Go.WideShapes Go.Proofs.YtggldnbhmebcpaaGreatDoorW.PrintWords Go.Proofs.YtggldnbhmebcpaaGreatDoorW.PrintLast Go.Proofs.YtggldnbhmebcpaaGreatDoorW.PrintMore
attribute [local go_sem] max2_int min2_int max_two min_two max_three min_three max_four min_four
def nodeT (tab : List Spec) (n : Node) : Int := match findS tab n.kind with
  | none => 9
  | some x => nodeErr n x
def typedFrom (tab : List Spec) : List Node → Int → Int × Int
  | [], _ => (0, 0)
  | n :: r, i => if nodeT tab n = 0 then typedFrom tab r (i + 1) else (nodeT tab n, i)
def typedS (tab : List Spec) (ns : List Node) : Int × Int := typedFrom tab ns 0
theorem typedFrom_bad (tab : List Spec) : ∀ (ns : List Node) (k : Int) (i : Nat), i < ns.length → (∀ j : Nat, j < i → nodeT tab (nd ns j) = 0) → ¬ nodeT tab (nd ns i) = 0 → typedFrom tab ns k = (nodeT tab (nd ns i), k + i)
  | [], _, _, h, _, _ => by simp at h
  | n :: r, k, 0, _, _, hb => by
    unfold typedFrom
    have hb' : ¬ nodeT tab n = 0 := hb
    rw [if_neg hb']
    simp [nd]
  | n :: r, k, i + 1, h, ha, hb => by
    have h0 : nodeT tab n = 0 := ha 0 (by omega)
    unfold typedFrom
    rw [if_pos h0, typedFrom_bad tab r (k + 1) i (by simpa using h) (fun j hj => ha (j + 1) (by omega)) hb]
    have : k + 1 + (i : Int) = k + ((i + 1 : Nat) : Int) := by omega
    rw [this]
    rfl
theorem typedFrom_ok (tab : List Spec) : ∀ (ns : List Node) (k : Int), (∀ j : Nat, j < ns.length → nodeT tab (nd ns j) = 0) → typedFrom tab ns k = (0, 0)
  | [], _, _ => rfl
  | n :: r, k, ha => by
    have h0 : nodeT tab n = 0 := ha 0 (by simp)
    unfold typedFrom
    rw [if_pos h0]
    exact typedFrom_ok tab r (k + 1) (fun j hj => ha (j + 1) (by simpa using hj))
theorem typedS_bad {tab : List Spec} {ns : List Node} {i : Nat} (hi : i < ns.length) (ha : ∀ j : Nat, j < i → nodeT tab (nd ns j) = 0) (hb : ¬ nodeT tab (nd ns i) = 0) : typedS tab ns = (nodeT tab (nd ns i), (i : Int)) := by
  unfold typedS
  rw [typedFrom_bad tab ns 0 i hi ha hb]; simp
theorem typedS_ok {tab : List Spec} {ns : List Node} (ha : ∀ j : Nat, j < ns.length → nodeT tab (nd ns j) = 0) : typedS tab ns = (0, 0) := typedFrom_ok tab ns 0 ha
theorem typedS_zero {tab : List Spec} {ns : List Node} (h : (typedS tab ns).1 = 0) : ∀ j : Nat, j < ns.length → nodeT tab (nd ns j) = 0 := by
  have key : ∀ (ns : List Node) (k : Int), (typedFrom tab ns k).1 = 0 → ∀ j : Nat, j < ns.length → nodeT tab (nd ns j) = 0 := fun ns => by
    induction ns with
    | nil => intro k _ j hj; simp at hj
    | cons n r ih =>
      intro k hk j hj
      unfold typedFrom at hk
      by_cases h0 : nodeT tab n = 0
      · rw [if_pos h0] at hk
        cases j with
        | zero => exact h0
        | succ j => exact ih (k + 1) hk j (by simpa using hj)
      · rw [if_neg h0] at hk
        exact absurd hk h0
  exact key ns 0 h
def TypedPost (r : Int × Int) (w : World) (e : Ending) (w' : World) : Prop := e = .returned (.tuple #[.int .i64 r.1, .int .i64 r.2]) ∧ Below w.heap.size w w'
theorem ret_pair {a b : Int} {r : Int × Int} (h : r = (a, b)) : Ending.returned (.tuple #[.int .i64 a, .int .i64 b]) = .returned (.tuple #[.int .i64 r.1, .int .i64 r.2]) := by rw [h]
set_option maxRecDepth 100000 in
set_option maxHeartbeats 4000000 in
theorem typed_any (A : Option Addr) (c : Nat) (s : Scene) (w : World) (h : kNode.C w A s.nodes.length s.nodes) (hT : Tabs w) (hS : ∀ i : Nat, i < s.nodes.length → TextsSmall (nd s.nodes i)) :
    Calls Tryz.prog 25 #[.agg #[.slice A s.nodes.length c, .int .i64 s.root]] w (TypedPost (typedS newTab s.nodes) w) := by
  have HR := Aside0.mk h
  have HT := Aside0.mk hT
  have HS := Aside0.mk hS
  have b0 := h.2.1
  have HB := Aside0.mk (below_alloc (Below.refl w.heap.size w) (.cells #[.slice A s.nodes.length c, .int .i64 s.root] 24))
  have hu := Tryz.underlying24
  have hun := Tryz.underlying42
  have hus := Tryz.underlying66
  clear h hT hS
  go_enter Tryz.func25, Tryz.ntmps25
  go_wp2
  go_loopw [12] (fun v12 W => ∃ i : Nat, i ≤ s.nodes.length ∧ v12 = .int .i64 i ∧ Aside0 (∀ j : Nat, j < i → nodeT newTab (nd s.nodes j) = 0) ∧ Aside0 (Below w.heap.size w W)) (fun v12 _ => s.nodes.length - (intOf v12).toNat)
  case atStart => exact ⟨0, by omega, rfl, ⟨fun j h => by omega⟩, HB⟩
  case round =>
    obtain ⟨i, hi, rfl, HA, HW⟩ := hrel
    by_cases hlt : i < s.nodes.length
    · obtain ⟨adn, A1, c1, A2, c2, A3, c3, rfl, x0, x1, x2, x3, hN⟩ := at_node HR.out i hlt
      replace x0 := pw_cell_below HW.out x0
      replace x1 := pw_cell_below HW.out x1
      replace x2 := pw_cell_below HW.out x2
      replace x3 := pw_cell_below HW.out x3
      have HN := Aside0.mk hN
      have hba := below_alloc (Below.refl wr.heap.size wr) (.cells #[.int .i64 (nd s.nodes i).kind, .slice A1 (nd s.nodes i).ints.length c1, .slice A2 (nd s.nodes i).texts.length c2, .slice A3 (nd s.nodes i).kids.length c3] 42)
      have hbx : (wr.alloc (.cells #[.int .i64 (nd s.nodes i).kind, .slice A1 (nd s.nodes i).ints.length c1, .slice A2 (nd s.nodes i).texts.length c2, .slice A3 (nd s.nodes i).kids.length c3] 42)).heap[wr.heap.size]? = some (.cells #[.int .i64 (nd s.nodes i).kind, .slice A1 (nd s.nodes i).ints.length c1, .slice A2 (nd s.nodes i).texts.length c2, .slice A3 (nd s.nodes i).kids.length c3] 42 (0, 0)) := by simpa using heap_alloc_new wr _
      have HBX := Aside0.mk hbx
      have HBA := Aside0.mk hba
      have y0 := (blk_cell hbx 0).trans rfl
      clear hN hba hbx
      go_wp2_with fail
      refine (new_any (nd s.nodes i).kind _).mono ?_
      rintro e w6 ⟨A4, c4, rfl, hS6, -, hB6⟩
      have HB6 := Aside0.mk (below_step HW.out (below_step HBA.out hB6))
      cases hf : findS newTab (nd s.nodes i).kind with
      | none =>
        have HE := Aside0.mk (typedS_bad (tab := newTab) hlt HA.out (by unfold nodeT; rw [hf]; exact (by decide : ¬ (9 : Int) = 0)))
        have HE2 := Aside0.mk (show nodeT newTab (nd s.nodes i) = 9 from by unfold nodeT; rw [hf])
        clear hf hS6 hB6
        go_wp2
        go_ret2
        exact ⟨ret_pair (by rw [HE.out, HE2.out]), below_step HB6.out (below_alloc (Below.refl _ _) _)⟩
      | some sp =>
        have HE2 := Aside0.mk (show nodeT newTab (nd s.nodes i) = nodeErr (nd s.nodes i) sp from by unfold nodeT; rw [hf])
        rw [hf] at hS6
        have hb6 := (hB6.block _ (by simp)).trans HBX.out
        have hbs := below_alloc (Below.refl w6.heap.size w6) (.cells #[.slice A4 sp.ints.length c4, .int .i64 sp.texts, .int .i64 sp.least, .int .i64 sp.most] 66)
        have hbx : (w6.alloc (.cells #[.slice A4 sp.ints.length c4, .int .i64 sp.texts, .int .i64 sp.least, .int .i64 sp.most] 66)).heap[w6.heap.size]? = some (.cells #[.slice A4 sp.ints.length c4, .int .i64 sp.texts, .int .i64 sp.least, .int .i64 sp.most] 66 (0, 0)) := by simpa using heap_alloc_new w6 _
        have z0 := (blk_cell ((hbs.block _ (blk_lt hb6)).trans hb6) 0).trans rfl
        have z1 := (blk_cell ((hbs.block _ (blk_lt hb6)).trans hb6) 1).trans rfl
        have z2 := (blk_cell ((hbs.block _ (blk_lt hb6)).trans hb6) 2).trans rfl
        have z3 := (blk_cell ((hbs.block _ (blk_lt hb6)).trans hb6) 3).trans rfl
        have q0 := (blk_cell hbx 0).trans rfl
        have q1 := (blk_cell hbx 1).trans rfl
        have q2 := (blk_cell hbx 2).trans rfl
        have q3 := (blk_cell hbx 3).trans rfl
        have HS6 := Aside0.mk (SpecC.below hS6 hbs)
        have HB7 := Aside0.mk (below_step HB6.out hbs)
        clear hf hS6 hB6 hb6 hbs hbx
        go_wp2_with fail
        refine (check_any (nd s.nodes i) A1 c1 A2 c2 A3 c3 sp A4 c4 _ (HN.out.below HB7.out) HS6.out (HS.out i hlt) (HT.out.below HB7.out)).mono ?_
        rintro e w8 ⟨rfl, hB8⟩
        have HB8 := Aside0.mk (below_step HB7.out hB8)
        clear hB8 z0 z1 z2 z3 q0 q1 q2 q3 x0 x1 x2 x3 y0
        by_cases hz : nodeErr (nd s.nodes i) sp = 0
        · have HA2 := Aside0.mk (ext_lt HA.out (HE2.out.trans hz))
          rw [hz]
          clear hz
          go_wp2
          go_roundw
          case rel => exact ⟨i + 1, by omega, by go_num, HA2, HB8⟩
          case measure => simp [intOf]; omega
        · have HE := Aside0.mk (typedS_bad (tab := newTab) hlt HA.out (by rw [HE2.out]; exact hz))
          have dz : (nodeErr (nd s.nodes i) sp != 0) = true := by simpa using hz
          clear hz
          go_wp2
          go_ret2
          exact ⟨ret_pair (by rw [HE.out, HE2.out]), HB8.out⟩
    · obtain rfl : i = s.nodes.length := by omega
      have HE := Aside0.mk (typedS_ok HA.out)
      go_wp2
      go_ret2
      exact ⟨ret_pair HE.out, HW.out⟩
end Go.Proofs.YtggldnbhmebcpaaGreatDoor.L
end
section
namespace Go.Proofs.YtggldnbhmebcpaaGreatDoor.L
open Go.RowKit Go.ChangeShapes Go.WideShapes Go.Proofs.YtggldnbhmebcpaaGreatDoorW.PrintWords Go.Proofs.YtggldnbhmebcpaaGreatDoorW.PrintLast Go.Proofs.YtggldnbhmebcpaaGreatDoorW.PrintMore
attribute [local go_sem] max2_int min2_int max_two min_two max_three min_three max_four min_four
noncomputable def imgF (base : List Int) : Lit → Option Value := fun q => match q with
  | .int .i64 k => if 0 ≤ k ∧ k ∈ base then some (.int .i64 (base.idxOf k : Int)) else none
  | _ => none
end Go.Proofs.YtggldnbhmebcpaaGreatDoor.L
end
section
namespace Go.Proofs.YtggldnbhmebcpaaGreatDoor.L
open Go.RowKit Go.ChangeShapes Go.WideShapes Go.Proofs.YtggldnbhmebcpaaGreatDoorW.PrintWords Go.Proofs.YtggldnbhmebcpaaGreatDoorW.PrintLast Go.Proofs.YtggldnbhmebcpaaGreatDoorW.PrintMore
attribute [local go_sem] max2_int min2_int max_two min_two max_three min_three max_four min_four
structure BRel (a : Scene) (A : Option Addr) (c b mb cnt : Nat) (f : Lit → Option Value) (v : Value) (out : List Node) (w W : World) : Prop where
  below : Below w.heap.size w W
  blk : W.heap[b]? = some (.cells #[.slice A a.nodes.length c, .int .i64 a.root, .map (some mb), v] 77 (0, 0))
  map : MapF Tryz.prog 3 W mb cnt f
  rows : kNode.R 42 W w.heap.size (fun _ => True) v out
  bge : w.heap.size ≤ b
  mge : w.heap.size ≤ mb
section
variable {a : Scene} {A : Option Addr} {c b mb cnt : Nat} {f : Lit → Option Value} {v : Value} {out : List Node} {w W W1 : World}
end
end Go.Proofs.YtggldnbhmebcpaaGreatDoor.L
end
section
namespace Go.Proofs.YtggldnbhmebcpaaGreatDoor.L
open Go.RowKit Go.ChangeShapes Go.WideShapes Go.Proofs.YtggldnbhmebcpaaGreatDoorW.PrintWords Go.Proofs.YtggldnbhmebcpaaGreatDoorW.PrintLast Go.Proofs.YtggldnbhmebcpaaGreatDoorW.PrintMore
attribute [local go_sem] max2_int min2_int max_two min_two max_three min_three max_four min_four
def TakePost (a : Scene) (A : Option Addr) (c b mb cnt : Nat) (base : List Int) (v : Value) (out : List Node) (w : World) (i : Nat) (W : World) (e : Ending) (W' : World) : Prop :=
  ∃ v1 v2 v3, e = .returned (.tuple #[.agg #[.int .i64 (imgN base (nd a.nodes i)).kind, v1, v2, v3], .bool true]) ∧ kNode.M W' W.heap.size (fun _ => True) (imgN base (nd a.nodes i)) [.int .i64 (imgN base (nd a.nodes i)).kind, v1, v2, v3] ∧
    BRel a A c b mb (cnt + 1) (imgF (base ++ [(i : Int)])) v out w W' ∧ W.grownBy W' (some mb)
section
variable {a : Scene} {A : Option Addr} {c b mb cnt : Nat} {base : List Int} {v : Value} {out : List Node} {w : World}
end
end Go.Proofs.YtggldnbhmebcpaaGreatDoor.L
end
section
namespace Go.Proofs.YtggldnbhmebcpaaGreatDoor.L
open Go.RowKit Go.ChangeShapes Go.WideShapes Go.Proofs.YtggldnbhmebcpaaGreatDoorW.PrintWords Go.Proofs.YtggldnbhmebcpaaGreatDoorW.PrintLast Go.Proofs.YtggldnbhmebcpaaGreatDoorW.PrintMore
attribute [local go_sem] max2_int min2_int max_two min_two max_three min_three max_four min_four
theorem M_lower {W : World} {B B' : Nat} {m : Node} {cs : List Value} (h : kNode.M W B (fun _ => True) m cs) (hB : B' ≤ B) : kNode.M W B' (fun _ => True) m cs := by
  obtain ⟨x1, x2, x3, rfl, h1, h2, h3⟩ := kNode_openM h
  exact kNode_mkM (Kd.R_lower h1 hB) (Kd.R_lower h2 hB) (Kd.R_lower h3 hB)
theorem M_below {W W1 : World} {B : Nat} {m : Node} {cs : List Value} (h : kNode.M W B (fun _ => True) m cs) (hb : Below W.heap.size W W1) : kNode.M W1 B (fun _ => True) m cs := by
  obtain ⟨x1, x2, x3, rfl, h1, h2, h3⟩ := kNode_openM h
  exact kNode_mkM (Kd.R_below h1 hb) (Kd.R_below h2 hb) (Kd.R_below h3 hb)
theorem M_slices {W : World} {B : Nat} {m : Node} {v1 v2 v3 : Value} (h : kNode.M W B (fun _ => True) m [.int .i64 m.kind, v1, v2, v3]) : ∃ A1 c1 A2 c2 A3 c3, v1 = .slice A1 m.ints.length c1 ∧ v2 = .slice A2 m.texts.length c2 ∧ v3 = .slice A3 m.kids.length c3 := by
  obtain ⟨x1, x2, x3, e, h1, h2, h3⟩ := kNode_openM h
  injection e with _ e
  injection e with e1 e
  injection e with e2 e
  injection e with e3 _
  subst e1 e2 e3
  obtain ⟨A1, c1, r1⟩ := Kd.R_slice h1
  obtain ⟨A2, c2, r2⟩ := Kd.R_slice h2
  obtain ⟨A3, c3, r3⟩ := Kd.R_slice h3
  exact ⟨A1, c1, A2, c2, A3, c3, r1, r2, r3⟩
section
variable {a : Scene} {A : Option Addr} {c b mb cnt : Nat} {base : List Int} {v : Value} {out : List Node} {w : World}
end
end Go.Proofs.YtggldnbhmebcpaaGreatDoor.L
end
section
namespace Go.Proofs.YtggldnbhmebcpaaGreatDoor.L
open Go.RowKit Go.ChangeShapes Go.WideShapes Go.Proofs.YtggldnbhmebcpaaGreatDoorW.PrintWords Go.Proofs.YtggldnbhmebcpaaGreatDoorW.PrintLast Go.Proofs.YtggldnbhmebcpaaGreatDoorW.PrintMore
attribute [local go_sem] max2_int min2_int max_two min_two max_three min_three max_four min_four
section
variable {W : World} {rb : Nat} {y0 y1 y2 y3 y4 y5 y6 y7 : Value} {T : TypeId}
theorem s8_0 (h : W.heap[rb]? = some (.cells #[y0, y1, y2, y3, y4, y5, y6, y7] T (0, 0))) (u : Value) : (W.setCell ⟨rb, 0, none⟩ u).heap[rb]? = some (.cells #[u, y1, y2, y3, y4, y5, y6, y7] T (0, 0)) := blk_set h 0 u
theorem c8_0 (h : W.heap[rb]? = some (.cells #[y0, y1, y2, y3, y4, y5, y6, y7] T (0, 0))) : W.cell? ⟨rb, 0, none⟩ = some y0 := (blk_cell h 0).trans rfl
theorem s8_1 (h : W.heap[rb]? = some (.cells #[y0, y1, y2, y3, y4, y5, y6, y7] T (0, 0))) (u : Value) : (W.setCell ⟨rb, 1, none⟩ u).heap[rb]? = some (.cells #[y0, u, y2, y3, y4, y5, y6, y7] T (0, 0)) := blk_set h 1 u
theorem c8_1 (h : W.heap[rb]? = some (.cells #[y0, y1, y2, y3, y4, y5, y6, y7] T (0, 0))) : W.cell? ⟨rb, 1, none⟩ = some y1 := (blk_cell h 1).trans rfl
theorem s8_2 (h : W.heap[rb]? = some (.cells #[y0, y1, y2, y3, y4, y5, y6, y7] T (0, 0))) (u : Value) : (W.setCell ⟨rb, 2, none⟩ u).heap[rb]? = some (.cells #[y0, y1, u, y3, y4, y5, y6, y7] T (0, 0)) := blk_set h 2 u
theorem c8_2 (h : W.heap[rb]? = some (.cells #[y0, y1, y2, y3, y4, y5, y6, y7] T (0, 0))) : W.cell? ⟨rb, 2, none⟩ = some y2 := (blk_cell h 2).trans rfl
theorem s8_3 (h : W.heap[rb]? = some (.cells #[y0, y1, y2, y3, y4, y5, y6, y7] T (0, 0))) (u : Value) : (W.setCell ⟨rb, 3, none⟩ u).heap[rb]? = some (.cells #[y0, y1, y2, u, y4, y5, y6, y7] T (0, 0)) := blk_set h 3 u
theorem c8_3 (h : W.heap[rb]? = some (.cells #[y0, y1, y2, y3, y4, y5, y6, y7] T (0, 0))) : W.cell? ⟨rb, 3, none⟩ = some y3 := (blk_cell h 3).trans rfl
theorem s8_4 (h : W.heap[rb]? = some (.cells #[y0, y1, y2, y3, y4, y5, y6, y7] T (0, 0))) (u : Value) : (W.setCell ⟨rb, 4, none⟩ u).heap[rb]? = some (.cells #[y0, y1, y2, y3, u, y5, y6, y7] T (0, 0)) := blk_set h 4 u
theorem c8_4 (h : W.heap[rb]? = some (.cells #[y0, y1, y2, y3, y4, y5, y6, y7] T (0, 0))) : W.cell? ⟨rb, 4, none⟩ = some y4 := (blk_cell h 4).trans rfl
theorem s8_5 (h : W.heap[rb]? = some (.cells #[y0, y1, y2, y3, y4, y5, y6, y7] T (0, 0))) (u : Value) : (W.setCell ⟨rb, 5, none⟩ u).heap[rb]? = some (.cells #[y0, y1, y2, y3, y4, u, y6, y7] T (0, 0)) := blk_set h 5 u
theorem c8_5 (h : W.heap[rb]? = some (.cells #[y0, y1, y2, y3, y4, y5, y6, y7] T (0, 0))) : W.cell? ⟨rb, 5, none⟩ = some y5 := (blk_cell h 5).trans rfl
theorem s8_6 (h : W.heap[rb]? = some (.cells #[y0, y1, y2, y3, y4, y5, y6, y7] T (0, 0))) (u : Value) : (W.setCell ⟨rb, 6, none⟩ u).heap[rb]? = some (.cells #[y0, y1, y2, y3, y4, y5, u, y7] T (0, 0)) := blk_set h 6 u
theorem c8_6 (h : W.heap[rb]? = some (.cells #[y0, y1, y2, y3, y4, y5, y6, y7] T (0, 0))) : W.cell? ⟨rb, 6, none⟩ = some y6 := (blk_cell h 6).trans rfl
theorem s8_7 (h : W.heap[rb]? = some (.cells #[y0, y1, y2, y3, y4, y5, y6, y7] T (0, 0))) (u : Value) : (W.setCell ⟨rb, 7, none⟩ u).heap[rb]? = some (.cells #[y0, y1, y2, y3, y4, y5, y6, u] T (0, 0)) := blk_set h 7 u
theorem c8_7 (h : W.heap[rb]? = some (.cells #[y0, y1, y2, y3, y4, y5, y6, y7] T (0, 0))) : W.cell? ⟨rb, 7, none⟩ = some y7 := (blk_cell h 7).trans rfl
theorem slots8 (h0 : W.heap[rb]? = some (.cells #[y0, y1, y2, y3, y4, y5, y6, y7] T (0, 0))) (u0 u1 u2 u3 u4 u5 u6 : Value) :
    W.cell? ⟨rb, 0, none⟩ = some y0 ∧ W.frozen? ⟨rb, 0, none⟩ = false ∧
    (W.setCell ⟨rb, 0, none⟩ u0).cell? ⟨rb, 1, none⟩ = some y1 ∧ (W.setCell ⟨rb, 0, none⟩ u0).frozen? ⟨rb, 1, none⟩ = false ∧
    ((W.setCell ⟨rb, 0, none⟩ u0).setCell ⟨rb, 1, none⟩ u1).cell? ⟨rb, 2, none⟩ = some y2 ∧ ((W.setCell ⟨rb, 0, none⟩ u0).setCell ⟨rb, 1, none⟩ u1).frozen? ⟨rb, 2, none⟩ = false ∧
    (((W.setCell ⟨rb, 0, none⟩ u0).setCell ⟨rb, 1, none⟩ u1).setCell ⟨rb, 2, none⟩ u2).cell? ⟨rb, 3, none⟩ = some y3 ∧ (((W.setCell ⟨rb, 0, none⟩ u0).setCell ⟨rb, 1, none⟩ u1).setCell ⟨rb, 2, none⟩ u2).frozen? ⟨rb, 3, none⟩ = false ∧
    ((((W.setCell ⟨rb, 0, none⟩ u0).setCell ⟨rb, 1, none⟩ u1).setCell ⟨rb, 2, none⟩ u2).setCell ⟨rb, 3, none⟩ u3).cell? ⟨rb, 4, none⟩ = some y4 ∧ ((((W.setCell ⟨rb, 0, none⟩ u0).setCell ⟨rb, 1, none⟩ u1).setCell ⟨rb, 2, none⟩ u2).setCell ⟨rb, 3, none⟩ u3).frozen? ⟨rb, 4, none⟩ = false ∧
    (((((W.setCell ⟨rb, 0, none⟩ u0).setCell ⟨rb, 1, none⟩ u1).setCell ⟨rb, 2, none⟩ u2).setCell ⟨rb, 3, none⟩ u3).setCell ⟨rb, 4, none⟩ u4).cell? ⟨rb, 5, none⟩ = some y5 ∧ (((((W.setCell ⟨rb, 0, none⟩ u0).setCell ⟨rb, 1, none⟩ u1).setCell ⟨rb, 2, none⟩ u2).setCell ⟨rb, 3, none⟩ u3).setCell ⟨rb, 4, none⟩ u4).frozen? ⟨rb, 5, none⟩ = false ∧
    ((((((W.setCell ⟨rb, 0, none⟩ u0).setCell ⟨rb, 1, none⟩ u1).setCell ⟨rb, 2, none⟩ u2).setCell ⟨rb, 3, none⟩ u3).setCell ⟨rb, 4, none⟩ u4).setCell ⟨rb, 5, none⟩ u5).cell? ⟨rb, 6, none⟩ = some y6 ∧ ((((((W.setCell ⟨rb, 0, none⟩ u0).setCell ⟨rb, 1, none⟩ u1).setCell ⟨rb, 2, none⟩ u2).setCell ⟨rb, 3, none⟩ u3).setCell ⟨rb, 4, none⟩ u4).setCell ⟨rb, 5, none⟩ u5).frozen? ⟨rb, 6, none⟩ = false ∧
    (((((((W.setCell ⟨rb, 0, none⟩ u0).setCell ⟨rb, 1, none⟩ u1).setCell ⟨rb, 2, none⟩ u2).setCell ⟨rb, 3, none⟩ u3).setCell ⟨rb, 4, none⟩ u4).setCell ⟨rb, 5, none⟩ u5).setCell ⟨rb, 6, none⟩ u6).cell? ⟨rb, 7, none⟩ = some y7 ∧ (((((((W.setCell ⟨rb, 0, none⟩ u0).setCell ⟨rb, 1, none⟩ u1).setCell ⟨rb, 2, none⟩ u2).setCell ⟨rb, 3, none⟩ u3).setCell ⟨rb, 4, none⟩ u4).setCell ⟨rb, 5, none⟩ u5).setCell ⟨rb, 6, none⟩ u6).frozen? ⟨rb, 7, none⟩ = false := by
  have h1 := s8_0 h0 u0
  have h2 := s8_1 h1 u1
  have h3 := s8_2 h2 u2
  have h4 := s8_3 h3 u3
  have h5 := s8_4 h4 u4
  have h6 := s8_5 h5 u5
  have h7 := s8_6 h6 u6
  exact ⟨c8_0 h0, blk_frozen h0 0, c8_1 h1, blk_frozen h1 1, c8_2 h2, blk_frozen h2 2, c8_3 h3, blk_frozen h3 3, c8_4 h4, blk_frozen h4 4, c8_5 h5, blk_frozen h5 5, c8_6 h6, blk_frozen h6 6, c8_7 h7, blk_frozen h7 7⟩
theorem box8 (h0 : W.heap[rb]? = some (.cells #[y0, y1, y2, y3, y4, y5, y6, y7] T (0, 0))) (u0 u1 u2 u3 u4 u5 u6 u7 : Value) : ((((((((W.setCell ⟨rb, 0, none⟩ u0).setCell ⟨rb, 1, none⟩ u1).setCell ⟨rb, 2, none⟩ u2).setCell ⟨rb, 3, none⟩ u3).setCell ⟨rb, 4, none⟩ u4).setCell ⟨rb, 5, none⟩ u5).setCell ⟨rb, 6, none⟩ u6).setCell ⟨rb, 7, none⟩ u7).heap[rb]? = some (.cells #[u0, u1, u2, u3, u4, u5, u6, u7] T (0, 0)) := by
  have h1 := s8_0 h0 u0
  have h2 := s8_1 h1 u1
  have h3 := s8_2 h2 u2
  have h4 := s8_3 h3 u3
  have h5 := s8_4 h4 u4
  have h6 := s8_5 h5 u5
  have h7 := s8_6 h6 u6
  have h8 := s8_7 h7 u7
  exact h8
theorem R_set8 {α : Type} {d : Kd α} {e base : Nat} {ok : Nat → Prop} {v : Value} {xs : List α} (hR : d.R e W base ok v xs) (h0 : W.heap[rb]? = some (.cells #[y0, y1, y2, y3, y4, y5, y6, y7] T (0, 0))) (hT : ¬ T ∈ e :: d.E) (u0 u1 u2 u3 u4 u5 u6 u7 : Value) : d.R e ((((((((W.setCell ⟨rb, 0, none⟩ u0).setCell ⟨rb, 1, none⟩ u1).setCell ⟨rb, 2, none⟩ u2).setCell ⟨rb, 3, none⟩ u3).setCell ⟨rb, 4, none⟩ u4).setCell ⟨rb, 5, none⟩ u5).setCell ⟨rb, 6, none⟩ u6).setCell ⟨rb, 7, none⟩ u7) base ok v xs := by
  have h1 := s8_0 h0 u0
  have h2 := s8_1 h1 u1
  have h3 := s8_2 h2 u2
  have h4 := s8_3 h3 u3
  have h5 := s8_4 h4 u4
  have h6 := s8_5 h5 u5
  have h7 := s8_6 h6 u6
  have h8 := s8_7 h7 u7
  have r1 := R_type hR h0 hT u0 0
  have r2 := R_type r1 h1 hT u1 1
  have r3 := R_type r2 h2 hT u2 2
  have r4 := R_type r3 h3 hT u3 3
  have r5 := R_type r4 h4 hT u4 4
  have r6 := R_type r5 h5 hT u5 5
  have r7 := R_type r6 h6 hT u6 6
  have r8 := R_type r7 h7 hT u7 7
  exact r8
theorem below_set8 {w : World} (hB : Below w.heap.size w W) (hg : w.heap.size ≤ rb) (u0 u1 u2 u3 u4 u5 u6 u7 : Value) : Below w.heap.size w ((((((((W.setCell ⟨rb, 0, none⟩ u0).setCell ⟨rb, 1, none⟩ u1).setCell ⟨rb, 2, none⟩ u2).setCell ⟨rb, 3, none⟩ u3).setCell ⟨rb, 4, none⟩ u4).setCell ⟨rb, 5, none⟩ u5).setCell ⟨rb, 6, none⟩ u6).setCell ⟨rb, 7, none⟩ u7) := (below_set (below_set (below_set (below_set (below_set (below_set (below_set (below_set hB hg) hg) hg) hg) hg) hg) hg) hg)
theorem blk8 (h : W.heap[rb]? = some (.cells #[y0, y1, y2, y3, y4, y5, y6, y7] T (0, 0))) : W.cell? ⟨rb, 0, none⟩ = some y0 ∧ W.cell? ⟨rb, 1, none⟩ = some y1 ∧ W.cell? ⟨rb, 2, none⟩ = some y2 ∧ W.cell? ⟨rb, 3, none⟩ = some y3 ∧ W.cell? ⟨rb, 4, none⟩ = some y4 ∧ W.cell? ⟨rb, 5, none⟩ = some y5 ∧ W.cell? ⟨rb, 6, none⟩ = some y6 ∧ W.cell? ⟨rb, 7, none⟩ = some y7 :=
  ⟨c8_0 h, c8_1 h, c8_2 h, c8_3 h, c8_4 h, c8_5 h, c8_6 h, c8_7 h⟩
end
end Go.Proofs.YtggldnbhmebcpaaGreatDoor.L
end
section
namespace Go.Proofs.YtggldnbhmebcpaaGreatDoor.L
open Go.RowKit Go.ChangeShapes Go.WideShapes Go.Proofs.YtggldnbhmebcpaaGreatDoorW.PrintWords Go.Proofs.YtggldnbhmebcpaaGreatDoorW.PrintLast Go.Proofs.YtggldnbhmebcpaaGreatDoorW.PrintMore
attribute [local go_sem] max2_int min2_int max_two min_two max_three min_three max_four min_four
theorem kOpn_mkM {W : World} {base : Nat} {ok : Nat → Prop} {o : Opn} {v1 v2 u1 u2 u3 : Value} (h1 : kSet.R 56 W base ok v1 o.sets) (h2 : kEd.R 48 W base ok v2 o.script) (h3 : kNode.M W base ok o.node [.int .i64 o.node.kind, u1, u2, u3]) :
    kOpn.M W base ok o [.int .i64 o.kind, .int .i64 o.base, v1, v2, .int .i64 o.node.kind, u1, u2, u3] := by
  refine ⟨[_], [_, _, _, _, _, _, _], rfl, rfl, ⟨[_], [_, _, _, _, _, _], rfl, rfl, ⟨[_], [_, _, _, _, _], rfl, ?_, ⟨[_], [_, _, _, _], rfl, ?_, h3⟩⟩⟩⟩
  · exact ⟨_, rfl, h1⟩
  · exact ⟨_, rfl, h2⟩
end Go.Proofs.YtggldnbhmebcpaaGreatDoor.L
end
section
namespace Go.Proofs.YtggldnbhmebcpaaGreatDoor.L
open Go.RowKit Go.ChangeShapes Go.WideShapes Go.Proofs.YtggldnbhmebcpaaGreatDoorW.PrintWords Go.Proofs.YtggldnbhmebcpaaGreatDoorW.PrintLast Go.Proofs.YtggldnbhmebcpaaGreatDoorW.PrintMore
attribute [local go_sem] max2_int min2_int max_two min_two max_three min_three max_four min_four
def lastE (l : List Ed) : Ed := ed l (l.length - 1)
def addE (l : List Ed) (kd : Int) : List Ed :=
  if 0 < l.length ∧ (lastE l).kind = kd then l.set (l.length - 1) ⟨kd, (lastE l).n + 1⟩ else l ++ [⟨kd, 1⟩]
theorem rd_drop (a : List Int) (i : Nat) (h1 : i < a.length) : a.drop i = rd a (i : Int) :: a.drop (i + 1) := by
  rw [List.drop_eq_getElem_cons h1, rd_eq h1]
theorem rd_take (a : List Int) (i : Nat) (h1 : i < a.length) : a.take (i + 1) = a.take i ++ [rd a (i : Int)] := by
  rw [List.take_succ_eq_append_getElem h1, rd_eq h1]
def lcs : List Int → List Int → Nat
  | [], _ => 0
  | _ :: _, [] => 0
  | x :: xs, y :: ys => if x = y then lcs xs ys + 1 else max (lcs xs (y :: ys)) (lcs (x :: xs) ys)
termination_by a b => a.length + b.length
theorem lcs_nil_left (b : List Int) : lcs [] b = 0 := by unfold lcs; rfl
theorem lcs_nil_right (a : List Int) : lcs a [] = 0 := by cases a <;> (unfold lcs; rfl)
theorem lcs_cons (x : Int) (xs : List Int) (y : Int) (ys : List Int) : lcs (x :: xs) (y :: ys) = if x = y then lcs xs ys + 1 else max (lcs xs (y :: ys)) (lcs (x :: xs) ys) := by
  rw [lcs]
theorem lcs_le : ∀ (n : Nat) (a b : List Int), a.length + b.length ≤ n → lcs a b ≤ a.length ∧ lcs a b ≤ b.length := by
  intro n
  induction n with
  | zero =>
    intro a b h
    cases a with
    | nil => rw [lcs_nil_left]; simp
    | cons x xs => simp at h
  | succ n ih =>
    intro a b h
    cases a with
    | nil => rw [lcs_nil_left]; simp
    | cons x xs =>
      cases b with
      | nil => rw [lcs_nil_right]; simp
      | cons y ys =>
        simp only [List.length_cons] at h
        have h1 := ih xs ys (by omega)
        have h2 := ih xs (y :: ys) (by simp only [List.length_cons]; omega)
        have h3 := ih (x :: xs) ys (by simp only [List.length_cons]; omega)
        simp only [List.length_cons] at h2 h3 ⊢
        rw [lcs_cons]
        split <;> omega
theorem lcs_le_left (a b : List Int) : lcs a b ≤ a.length := (lcs_le _ a b (Nat.le_refl _)).1
def Lc (a b : List Int) (i j : Nat) : Int := (lcs (a.drop i) (b.drop j) : Int)
theorem Lc_last_left (a b : List Int) (i j : Nat) (h : a.length ≤ i) : Lc a b i j = 0 := by
  unfold Lc
  rw [List.drop_eq_nil_of_le h, lcs_nil_left]; rfl
theorem Lc_last_right (a b : List Int) (i j : Nat) (h : b.length ≤ j) : Lc a b i j = 0 := by
  unfold Lc
  rw [show b.drop j = [] from List.drop_eq_nil_of_le h, lcs_nil_right]; rfl
theorem Lc_eq {a b : List Int} {i j : Nat} (h1 : i < a.length) (h3 : j < b.length) (h : rd a (i : Int) = rd b (j : Int)) : Lc a b i j = Lc a b (i + 1) (j + 1) + 1 := by
  unfold Lc
  rw [rd_drop a i h1, rd_drop b j h3, lcs_cons, if_pos h]
  omega
theorem Lc_ne {a b : List Int} {i j : Nat} (h1 : i < a.length) (h3 : j < b.length) (h : rd a (i : Int) ≠ rd b (j : Int)) : Lc a b i j = max (Lc a b (i + 1) j) (Lc a b i (j + 1)) := by
  unfold Lc
  rw [rd_drop a i h1, rd_drop b j h3, lcs_cons, if_neg h]
  omega
theorem Lc_bound (a b : List Int) (i j : Nat) : 0 ≤ Lc a b i j ∧ Lc a b i j ≤ (a.length : Int) := by
  unfold Lc
  have h := lcs_le_left (a.drop i) (b.drop j)
  rw [List.length_drop] at h
  omega

theorem row_setS (t : List (List Int)) (i i' : Nat) (r : List Int) (h1 : i < t.length) : row (t.set i r) i' = if i' = i then r else row t i' := row_set h1 r
def Gt (t : List (List Int)) (i j : Nat) : Int := rd (row t i) (j : Int)
def Sh (t : List (List Int)) (n m : Nat) : Prop := t.length = n + 1 ∧ ∀ i : Nat, i ≤ n → (row t i).length = m + 1
theorem rd_setS (l : List Int) (i i' : Nat) (v : Int) (h1 : i < l.length) : rd (l.set i v) (i' : Int) = if i' = i then v else rd l (i' : Int) := by
  unfold rd
  rw [List.getD_eq_getElem?_getD, List.getD_eq_getElem?_getD, List.getElem?_set, Int.toNat_natCast]
  by_cases e : i' = i
  · subst e
    rw [if_pos rfl, if_pos h1, if_pos rfl]; rfl
  · rw [if_neg (by omega), if_neg e]
theorem Gt_set {t : List (List Int)} {n m i j : Nat} (hs : Sh t n m) (v : Int) (h1 : i ≤ n) (h3 : j ≤ m) (i' j' : Nat) :
    Gt (t.set i ((row t i).set j v)) i' j' = if i' = i ∧ j' = j then v else Gt t i' j' := by
  have hl := hs.2 i h1
  unfold Gt
  rw [row_setS t i i' _ (by have := hs.1; omega)]
  by_cases e : i' = i
  · subst e
    rw [if_pos rfl, rd_setS _ j j' v (by omega)]
    by_cases e2 : j' = j
    · rw [if_pos e2, if_pos ⟨rfl, e2⟩]
    · rw [if_neg e2, if_neg (fun h => e2 h.2)]
  · rw [if_neg e, if_neg (fun h => e h.1)]
theorem Sh_set {t : List (List Int)} {n m i j : Nat} (hs : Sh t n m) (v : Int) (h1 : i ≤ n) : Sh (t.set i ((row t i).set j v)) n m := by
  refine ⟨by rw [List.length_set]; exact hs.1, fun i' h3 => ?_⟩
  rw [row_setS t i i' _ (by have := hs.1; omega)]
  by_cases e : i' = i
  · rw [if_pos e, List.length_set]; exact hs.2 i h1
  · rw [if_neg e]; exact hs.2 i' h3
def Full (a b : List Int) (t : List (List Int)) : Prop := Sh t a.length b.length ∧ ∀ i j : Nat, i ≤ a.length → j ≤ b.length → Gt t i j = Lc a b i j
def Part (a b : List Int) (t : List (List Int)) (i j : Int) : Prop := Sh t a.length b.length ∧ (∀ i' j' : Nat, i' ≤ a.length → j' ≤ b.length → (i < i' ∨ (i' : Int) = i ∧ j < j') → Gt t i' j' = Lc a b i' j') ∧ ∀ i' : Nat, i' ≤ a.length → Gt t i' b.length = 0
theorem part_step {a b : List Int} {t : List (List Int)} {i j : Nat} (h : Part a b t i j) (h1 : i < a.length) (h3 : j < b.length) :
    Part a b (t.set i ((row t i).set j (Lc a b i j))) i ((j : Int) - 1) := by
  obtain ⟨hs, hf, hz⟩ := h
  refine ⟨Sh_set hs _ (by omega), fun i' j' g1 g3 g4 => ?_, fun i' g1 => ?_⟩
  · rw [Gt_set hs _ (by omega) (by omega) i' j']
    by_cases e : i' = i ∧ j' = j
    · rw [if_pos e, e.1, e.2]
    · rw [if_neg e]
      exact hf i' j' g1 g3 (by omega)
  · rw [Gt_set hs _ (by omega) (by omega) i' _, if_neg (by omega)]
    exact hz i' g1
theorem part_next {a b : List Int} {t : List (List Int)} {i j : Int} (h : Part a b t i j) (hj : j < 0) : Part a b t (i - 1) ((b.length : Int) - 1) := by
  obtain ⟨hs, hf, hz⟩ := h
  refine ⟨hs, fun i' j' g1 g3 g4 => ?_, hz⟩
  rcases g4 with g4 | g4
  · exact hf i' j' g1 g3 (by omega)
  · have : j' = b.length := by omega
    rw [this, hz i' g1, Lc_last_right _ _ _ _ (by omega)]
theorem part_full {a b : List Int} {t : List (List Int)} {i j : Int} (h : Part a b t i j) (hi : i < 0) : Full a b t :=
  ⟨h.1, fun i' j' g1 g3 => h.2.1 i' j' g1 g3 (by omega)⟩
theorem part_first (a b : List Int) (t : List (List Int)) (h : t = List.replicate (a.length + 1) (List.replicate (b.length + 1) 0)) : Part a b t ((a.length : Int) - 1) ((b.length : Int) - 1) := by
  subst h
  have hr : ∀ i, i ≤ a.length → row (List.replicate (a.length + 1) (List.replicate (b.length + 1) (0 : Int))) i = List.replicate (b.length + 1) 0 := by
    intro i hi
    unfold row
    rw [List.getD_eq_getElem?_getD, List.getElem?_replicate, if_pos (by omega)]; rfl
  have hg : ∀ i j, i ≤ a.length → j ≤ b.length → Gt (List.replicate (a.length + 1) (List.replicate (b.length + 1) (0 : Int))) i j = 0 := by
    intro i j hi hj
    unfold Gt rd
    rw [hr i hi, List.getD_eq_getElem?_getD, List.getElem?_replicate, if_pos (by omega)]; rfl
  refine ⟨⟨by simp, fun i hi => by rw [hr i hi]; simp⟩, fun i j hi hj h => ?_, fun i hi => hg i _ hi (Nat.le_refl _)⟩
  rw [hg i j hi hj]
  rcases h with h | h
  · rw [Lc_last_left _ _ _ _ (by omega)]
  · rw [Lc_last_right _ _ _ _ (by omega)]
def kept (l : List Ed) : Int := (l.map fun e => if e.kind = 1 then max e.n 0 else 0).sum
theorem kept_snoc (l : List Ed) (e : Ed) : kept (l ++ [e]) = kept l + if e.kind = 1 then max e.n 0 else 0 := by simp [kept]
def Sep (l : List Ed) : Prop := ∀ k, k + 1 < l.length → (ed l (k + 1)).kind ≠ 3 → (ed l k).kind ≠ (ed l (k + 1)).kind
theorem ed_snoc (l : List Ed) (e : Ed) (k : Nat) : ed (l ++ [e]) k = if k < l.length then ed l k else if k = l.length then e else edz := by
  unfold ed
  rw [List.getD_eq_getElem?_getD, List.getD_eq_getElem?_getD, List.getElem?_append]
  by_cases h : k < l.length
  · rw [if_pos h, if_pos h]
  · rw [if_neg h, if_neg h]
    by_cases h2 : k = l.length
    · subst h2; simp
    · rw [if_neg h2, List.getElem?_eq_none (by simp; omega)]; rfl
theorem sep_snoc {l : List Ed} {e : Ed} (h : Sep l) (he : 0 < l.length → e.kind ≠ 3 → (lastE l).kind ≠ e.kind) : Sep (l ++ [e]) := by
  intro k hk hne
  rw [List.length_append, List.length_singleton] at hk
  rw [ed_snoc, if_pos (show k < l.length by omega)]
  by_cases h1 : k + 1 < l.length
  · rw [ed_snoc, if_pos h1] at hne ⊢
    exact h k h1 hne
  · rw [ed_snoc, if_neg h1, if_pos (by omega)] at hne ⊢
    have := he (by omega) hne
    unfold lastE at this
    rwa [show l.length - 1 = k from by omega] at this
theorem sep_init {l : List Ed} {e : Ed} (h : Sep (l ++ [e])) : Sep l := by
  intro k hk hne
  have := h k (by rw [List.length_append]; omega)
  rw [ed_snoc, if_pos (by omega), ed_snoc, if_pos (by omega)] at this
  exact this hne
theorem lastE_snoc (l : List Ed) (e : Ed) : lastE (l ++ [e]) = e := by
  unfold lastE
  rw [List.length_append, List.length_singleton, Nat.add_sub_cancel, ed_snoc, if_neg (by omega), if_pos rfl]
theorem addE_snoc (i : List Ed) (e : Ed) (kd : Int) : addE (i ++ [e]) kd = if e.kind = kd then i ++ [⟨kd, e.n + 1⟩] else i ++ [e] ++ [⟨kd, 1⟩] := by
  unfold addE
  rw [lastE_snoc]
  by_cases h : e.kind = kd
  · rw [if_pos ⟨by simp, h⟩, if_pos h]
    simp
  · rw [if_neg (fun h' => h h'.2), if_neg h]
theorem addE_nil (kd : Int) : addE [] kd = [⟨kd, 1⟩] := rfl
theorem run_add {a o r : List Int} {x : Int} {l : List Ed} {kd : Int} (hk : kd = 1 ∨ kd = 2) (h : runE a l = some (o, x :: r)) : runE a (addE l kd) = some (o ++ (if kd = 1 then [x] else []), r) := by
  have h3 : kd ≠ 3 := by omega
  have hnew : stepE (some (o, x :: r)) ⟨kd, 1⟩ = some (o ++ (if kd = 1 then [x] else []), r) := by
    unfold stepE
    simp only []
    rw [if_neg h3, if_pos ⟨hk, by omega, by simp; omega⟩]
    simp
  rcases snoc_cases l with rfl | ⟨i, e, rfl⟩
  · rw [addE_nil, show ([⟨kd, 1⟩] : List Ed) = [] ++ [⟨kd, 1⟩] from rfl, runE_snoc, h, hnew]
  · rw [addE_snoc]
    by_cases he : e.kind = kd
    · rw [if_pos he, runE_snoc]
      rw [runE_snoc] at h
      cases hi : runE a i with
      | none => rw [hi] at h; simp [stepE] at h
      | some p =>
        obtain ⟨o', r'⟩ := p
        rw [hi] at h
        unfold stepE at h ⊢
        simp only [] at h ⊢
        rw [if_neg (by omega)] at h
        rw [if_neg h3]
        by_cases hc : (e.kind = 1 ∨ e.kind = 2) ∧ 1 ≤ e.n ∧ e.n ≤ (r'.length : Int)
        · rw [if_pos hc] at h
          simp only [Option.some.injEq, Prod.mk.injEq] at h
          obtain ⟨ho, hr⟩ := h
          have hlt : e.n.toNat < r'.length := by
            have := congrArg List.length hr
            rw [List.length_drop, List.length_cons] at this
            omega
          rw [if_pos ⟨hk, by omega, by omega⟩]
          rw [List.drop_eq_getElem_cons hlt] at hr
          injection hr with hx hr
          have e1 : (e.n + 1).toNat = e.n.toNat + 1 := by omega
          rw [e1, hr]
          by_cases h1 : kd = 1
          · rw [if_pos h1, if_pos h1, ← ho, if_pos (by omega), List.take_succ_eq_append_getElem hlt, hx, List.append_assoc]
          · rw [if_neg h1, if_neg h1, ← ho, if_neg (by omega)]
            simp
        · rw [if_neg hc] at h; simp at h
    · rw [if_neg he, runE_snoc, h, hnew]
theorem run_put {a o r : List Int} {l : List Ed} (y : Int) (h : runE a l = some (o, r)) : runE a (l ++ [⟨3, y⟩]) = some (o ++ [y], r) := by
  rw [runE_snoc, h]; rfl
theorem kept_add {l : List Ed} {kd : Int} (_hk : kd = 1 ∨ kd = 2) (hp : ∀ e ∈ l, e.kind = 1 ∨ e.kind = 2 → 1 ≤ e.n) : kept (addE l kd) = kept l + if kd = 1 then 1 else 0 := by
  rcases snoc_cases l with rfl | ⟨i, e, rfl⟩
  · rw [addE_nil, show ([⟨kd, 1⟩] : List Ed) = [] ++ [⟨kd, 1⟩] from rfl, kept_snoc]
    by_cases h1 : kd = 1 <;> simp [h1] <;> omega
  · rw [addE_snoc]
    have := hp e (by simp)
    by_cases he : e.kind = kd
    · rw [if_pos he, kept_snoc, kept_snoc]
      by_cases h1 : kd = 1
      · have := this (by omega)
        rw [if_pos h1, if_pos h1, if_pos (by omega)]
        simp only []
        omega
      · rw [if_neg h1, if_neg h1, if_neg (by omega)]; omega
    · rw [if_neg he, kept_snoc _ ⟨kd, 1⟩]
      by_cases h1 : kd = 1 <;> simp [h1] <;> omega
theorem sep_add {l : List Ed} {kd : Int} (h : Sep l) : Sep (addE l kd) := by
  rcases snoc_cases l with rfl | ⟨i, e, rfl⟩
  · rw [addE_nil]; intro k hk; simp at hk
  · rw [addE_snoc]
    by_cases he : e.kind = kd
    · rw [if_pos he]
      refine sep_snoc (sep_init h) (fun h0 hne => ?_)
      have := h (i.length - 1) (by rw [List.length_append, List.length_singleton]; omega)
      rw [ed_snoc, if_neg (by omega), if_pos (by omega), ed_snoc, if_pos (by omega)] at this
      simp only [] at hne ⊢
      unfold lastE
      rw [← he]
      exact this (by omega)
    · rw [if_neg he]
      refine sep_snoc h (fun _ _ => ?_)
      rw [lastE_snoc]; exact he
theorem add_length (l : List Ed) (kd : Int) : (addE l kd).length ≤ l.length + 1 := by
  unfold addE
  split
  · rw [List.length_set]; omega
  · simp
theorem add_mem {l : List Ed} {kd : Int} {e : Ed} (h : e ∈ addE l kd) : e ∈ l ∨ e = ⟨kd, 1⟩ ∨ ∃ e' ∈ l, e'.kind = kd ∧ e = ⟨kd, e'.n + 1⟩ := by
  rcases snoc_cases l with rfl | ⟨i, e', rfl⟩
  · rw [addE_nil] at h; simp at h; exact .inr (.inl h)
  · rw [addE_snoc] at h
    by_cases he : e'.kind = kd
    · rw [if_pos he] at h
      rcases List.mem_append.1 h with h | h
      · exact .inl (by simp [h])
      · rw [List.mem_singleton] at h; exact .inr (.inr ⟨e', by simp, he, h⟩)
    · rw [if_neg he] at h
      rcases List.mem_append.1 h with h | h
      · exact .inl h
      · rw [List.mem_singleton] at h; exact .inr (.inl h)

structure MInv (a b : List Int) (out : List Ed) (i j : Nat) : Prop where
  hi : i ≤ a.length
  hj : j ≤ b.length
  run : runE a out = some (b.take j, a.drop i)
  sep : Sep out
  keeps : kept out + Lc a b i j = Lc a b 0 0
  mem : ∀ e ∈ out, ((e.kind = 1 ∨ e.kind = 2) ∧ 1 ≤ e.n ∧ e.n ≤ (i : Int)) ∨ e.kind = 3
  len : out.length ≤ i + j
  nil_left : a = [] → out = (b.take j).map (fun y => ⟨3, y⟩)
  nil_right : b = [] → out = if i = 0 then [] else [⟨2, (i : Int)⟩]
  same : a = b → i = j ∧ out = if i = 0 then [] else [⟨1, (i : Int)⟩]
theorem MInv.start (a b : List Int) : MInv a b [] 0 0 where
  hi := Nat.zero_le _
  hj := Nat.zero_le _
  run := rfl
  sep := fun k hk => by simp at hk
  keeps := by simp [kept]
  mem := fun e h => by simp at h
  len := by simp
  nil_left := fun _ => by simp
  nil_right := fun _ => rfl
  same := fun _ => ⟨rfl, rfl⟩
section
variable {a b : List Int} {out : List Ed} {i j : Nat} (h : MInv a b out i j)
include h
theorem MInv.pos {e : Ed} (he : e ∈ out) (hk : e.kind = 1 ∨ e.kind = 2) : 1 ≤ e.n := by rcases h.mem e he with h | h <;> omega
theorem MInv.add_mem' {kd : Int} (hk : kd = 1 ∨ kd = 2) (e : Ed) (he : e ∈ addE out kd) : ((e.kind = 1 ∨ e.kind = 2) ∧ 1 ≤ e.n ∧ e.n ≤ ((i + 1 : Nat) : Int)) ∨ e.kind = 3 := by
  rcases add_mem he with he | rfl | ⟨e', he', h1, rfl⟩
  · rcases h.mem e he with h | h
    · exact .inl ⟨h.1, h.2.1, by omega⟩
    · exact .inr h
  · exact .inl ⟨hk, Int.le_refl _, by simp; omega⟩
  · rcases h.mem e' he' with h | h
    · exact .inl ⟨hk, by simp; omega, by simp; omega⟩
    · omega
theorem MInv.keep (h1 : i < a.length) (h2 : j < b.length) (he : rd a (i : Int) = rd b (j : Int)) : MInv a b (addE out 1) (i + 1) (j + 1) where
  hi := h1
  hj := h2
  run := by
    rw [run_add (.inl rfl) (h.run.trans (by rw [rd_drop a i h1])), if_pos rfl, rd_take b j h2, he]
  sep := sep_add h.sep
  keeps := by
    rw [kept_add (.inl rfl) (fun e he hk => h.pos he hk), if_pos rfl, ← h.keeps, Lc_eq h1 h2 he]; omega
  mem := h.add_mem' (.inl rfl)
  len := by have := add_length out 1; have := h.len; omega
  nil_left := fun e => by subst e; simp at h1
  nil_right := fun e => by subst e; simp at h2
  same := fun e => by
    obtain ⟨rfl, ho⟩ := h.same e
    refine ⟨rfl, ?_⟩
    rw [ho]
    by_cases h0 : i = 0
    · subst h0; rfl
    · rw [if_neg h0, if_neg (by omega), show ([⟨1, (i : Int)⟩] : List Ed) = [] ++ [⟨1, (i : Int)⟩] from rfl, addE_snoc, if_pos rfl]; simp
theorem MInv.drop (h1 : i < a.length) (hL : Lc a b i j = Lc a b (i + 1) j) (hne : a = b → False) : MInv a b (addE out 2) (i + 1) j where
  hi := h1
  hj := h.hj
  run := by
    rw [run_add (.inr rfl) (h.run.trans (by rw [rd_drop a i h1])), if_neg (by omega)]; simp
  sep := sep_add h.sep
  keeps := by
    rw [kept_add (.inr rfl) (fun e he hk => h.pos he hk), if_neg (by omega), ← h.keeps, hL]; omega
  mem := h.add_mem' (.inr rfl)
  len := by have := add_length out 2; have := h.len; omega
  nil_left := fun e => by subst e; simp at h1
  nil_right := fun e => by
    rw [h.nil_right e]
    by_cases h0 : i = 0
    · subst h0; rfl
    · rw [if_neg h0, if_neg (by omega), show ([⟨2, (i : Int)⟩] : List Ed) = [] ++ [⟨2, (i : Int)⟩] from rfl, addE_snoc, if_pos rfl]; simp
  same := fun e => (hne e).elim
theorem MInv.put (h2 : j < b.length) (hL : Lc a b i j = Lc a b i (j + 1)) (hne : a = b → False) : MInv a b (out ++ [⟨3, rd b (j : Int)⟩]) i (j + 1) where
  hi := h.hi
  hj := h2
  run := by rw [run_put _ h.run, rd_take b j h2]
  sep := sep_snoc h.sep (fun _ hk => (hk rfl).elim)
  keeps := by rw [kept_snoc, ← h.keeps, hL]; simp
  mem := fun e he => by
    rcases List.mem_append.1 he with he | he
    · exact h.mem e he
    · rw [List.mem_singleton] at he; subst he; exact .inr rfl
  len := by have := h.len; simp; omega
  nil_left := fun e => by rw [h.nil_left e, rd_take b j h2, List.map_append]; rfl
  nil_right := fun e => by subst e; simp at h2
  same := fun e => (hne e).elim
end
theorem same_eq {a b : List Int} {out : List Ed} {i j : Nat} (h : MInv a b out i j) (e : a = b) : rd a (i : Int) = rd b (j : Int) := by
  obtain ⟨rfl, _⟩ := h.same e
  rw [e]
end Go.Proofs.YtggldnbhmebcpaaGreatDoor.L
end
section
namespace Go.Proofs.YtggldnbhmebcpaaGreatDoor.L
open Go.RowKit Go.ChangeShapes Go.WideShapes Go.Proofs.YtggldnbhmebcpaaGreatDoorW.PrintWords Go.Proofs.YtggldnbhmebcpaaGreatDoorW.PrintLast Go.Proofs.YtggldnbhmebcpaaGreatDoorW.PrintMore
attribute [local go_sem] max2_int min2_int max_two min_two max_three min_three max_four min_four
theorem info_rowS : (Tryz.prog.info? 40).map (fun i => (i.zero, i.size, i.bytes)) = some (some (.slice none 0 0), 1, 24) := by kernel_rfl
theorem grid_at {W : World} {base g n cap : Nat} {ok : Nat → Prop} {t : List (List Int)} (h : Kd.S kGrid 40 W base ok (.slice (some ⟨g, 0, none⟩) n cap) t) (i j : Nat) (hi : i < n) (hj : j < (row t i).length) :
  ∃ gi ci, W.cell? ⟨g, i, none⟩ = some (.slice (some ⟨gi, 0, none⟩) (row t i).length ci) ∧ (∀ k, k < (row t i).length → W.cell? ⟨gi, k, none⟩ = some (.int .i64 (rd (row t i) (k : Int)))) ∧ W.frozen? ⟨gi, j, none⟩ = false ∧ base ≤ gi ∧
   ∀ v (W' : World), W'.heap = W.heap → Kd.S kGrid 40 (W'.setCell ⟨gi, j, none⟩ (.int .i64 v)) base ok (.slice (some ⟨g, 0, none⟩) n cap) (t.set i ((row t i).set j v)) := by
 obtain ⟨oki, c, hcl, hM, hcc, hoki, hH⟩ := Kd.S_lend h ([] : List Int) (i : Int) (by omega) (by omega)
 obtain ⟨u, rfl, hR⟩ := hM
 rw [Int.toNat_natCast] at hR hcc
 have hR' : (Kd.int .i64).R 3 W base oki u (row t i) := hR
 obtain ⟨gi, ci, rfl, hb, hlt, cells, hcells⟩ := Kd.R_form hR' (by omega)
 refine ⟨gi, ci, ?_, fun k hk => ?_, ?_, hb, fun v W' hW' => ?_⟩
 ·have := hcc 0 _ rfl
  simpa [show (kGrid).sz = 1 from rfl] using this
 ·obtain ⟨c, hcl, hM, hcc, hfr⟩ := R_elemN hR' 0 k hk
  obtain rfl : c = [.int .i64 ((row t i).getD k 0)] := hM
  have := hcc 0 _ rfl
  simpa [show (Kd.int .i64).sz = 1 from rfl, rd] using this
 ·obtain ⟨c, hcl, hM, hcc, hfr⟩ := R_elemN hR' 0 j hj
  simpa [show (Kd.int .i64).sz = 1 from rfl] using hfr 0
 ·obtain ⟨c, hcl', hM, hcc', hfr⟩ := R_elemN hR' 0 j hj
  obtain ⟨hs, hg⟩ := R_segN hR' j hj (seg := [.int .i64 v]) (j := 0) hcl' hcc' (Nat.le_refl 1) (x' := v) (okp := fun _ => False) (by simp [hcl', show (Kd.int .i64).sz = 1 from rfl, List.drop_eq_nil_of_le]; rfl) (fun _ h => h.elim)
  have e : W.setCells gi (j * (Kd.int .i64).sz + 0) [.int .i64 v] = W.setCell ⟨gi, j, none⟩ (.int .i64 v) := by
   rw [show (Kd.int .i64).sz = 1 from rfl, Nat.mul_one]; rfl
  rw [e] at hs hg
  have hgi : oki gi := hR'.1 gi (by simp [Value.ownBlock])
  have hH' := Kd.H_grown hH hg (fun k hk => by injection hk with hk; subst hk; exact hgi)
  have := Kd.H_back hH' (x' := (row t i).set j v) (okp := oki) ⟨_, by simp, hs⟩ (fun _ h => h)
  rw [Int.toNat_natCast] at this
  exact Kd.S_move this (fun k _ => by unfold World.setCell; rw [hW'])
theorem grid_put {W : World} {base g n cap : Nat} {t : List (List Int)} {u : Value} {r : List Int} (h : Kd.S kGrid 40 W base (fun k => True ∧ some k ≠ u.ownBlock) (.slice (some ⟨g, 0, none⟩) n cap) t) (hu : (Kd.int .i64).R 3 W base (fun _ => True) u r) (hlt : ∀ k, u.ownBlock = some k → k ≠ g) (i : Nat) (hi : i < n) :
  (∃ x, W.cell? ⟨g, i, none⟩ = some x) ∧ W.frozen? ⟨g, i, none⟩ = false ∧ Kd.S kGrid 40 (W.setCell ⟨g, i, none⟩ u) base (fun _ => True) (.slice (some ⟨g, 0, none⟩) n cap) (t.set i r) := by
 obtain ⟨c, hcl, hM, hcc, hfr⟩ := R_elemN (Kd.S_R h) ([] : List Int) i hi
 have h1 : (kGrid).sz = 1 := rfl
 rw [h1] at hcl hcc hfr
 refine ⟨⟨c[0]'(by omega), by simpa using hcc 0 _ (List.getElem?_eq_getElem (by omega))⟩, by simpa using hfr 0, ?_⟩
 obtain ⟨oki, c, hcl, hM, hcc, hoki, hH⟩ := Kd.S_lend (Kd.S_mono (ok' := fun k => True ∧ ¬ some k = u.ownBlock) h (fun k hk => ⟨trivial, hk.2⟩)) ([] : List Int) (i : Int) (by omega) (by omega)
 have hp := (Kd.S_seg hH (by omega) (by omega) (seg := [u]) (j := 0) (Nat.le_refl 1) (x' := r) (okp := fun k => some k = u.ownBlock) ⟨u, by rw [h1] at hcl; simp [hcl, List.drop_eq_nil_of_le], Kd.R_tight rfl hu⟩ (fun k hk => .inr hk) (fun k hk => ⟨trivial, hlt k hk.symm⟩)).1
 have e : W.setCells g ((i : Int).toNat * (kGrid).sz + 0) [u] = W.setCell ⟨g, i, none⟩ u := by
  rw [h1, Nat.mul_one, Int.toNat_natCast]; rfl
 rw [e] at hp
 simpa using hp
theorem repl_set (n k : Nat) (z : List Int) (h : k < n) : (List.replicate k z ++ List.replicate (n - k) []).set k z = List.replicate (k + 1) z ++ List.replicate (n - (k + 1)) [] := by
 rw [List.set_append_right _ _ (by simp), List.length_replicate, Nat.sub_self, show n - k = (n - (k + 1)) + 1 from by omega, List.replicate_succ (n := n - (k + 1)), List.set_cons_zero, List.replicate_succ', List.append_assoc]
 rfl
theorem S_elder {α : Type} {d : Kd α} {e base : Nat} {ok : Nat → Prop} {W w1 : World} {u v1 : Value} {xs : List α} (h : Kd.S d e W base ok u xs) (hg : W.grownBy w1 none) (hn : ∃ b, v1.ownBlock = some b ∧ W.heap.size ≤ b) :
  Kd.S d e w1 base (fun k => True ∧ some k ≠ v1.ownBlock) u xs := by
 obtain ⟨b, hb, hle⟩ := hn
 refine Kd.S_mono (Kd.S_grown (Kd.S_bound h) hg (fun k _ => by simp)) (fun k hk => ⟨trivial, fun he => ?_⟩)
 rw [hb] at he
 injection he with he
 have := hk.2.2.1
 omega
def CommonPost (a b : List Int) (w : World) (e : Ending) (w' : World) : Prop :=
 ∃ (v : Value) (t : List (List Int)), e = .returned v ∧ Kd.S kGrid 40 w' w.heap.size (fun _ => True) v t ∧ Below w.heap.size w w' ∧ Full a b t
def ComRel (a b : List Int) (w : World) (g cap : Nat) (i j : Int) (w' : World) : Prop :=
 ∃ t, Kd.S kGrid 40 w' w.heap.size (fun _ => True) (.slice (some ⟨g, 0, none⟩) (a.length + 1) cap) t ∧ Below w.heap.size w w' ∧ Part a b t i j
theorem ComRel.drewN {a b : List Int} {w w' : World} {g cap : Nat} {i j : Int} (h : ComRel a b w g cap i j w') (n : Nat) : ComRel a b w g cap i j (w'.drewN n) := by
 obtain ⟨t, h1, h2, h3⟩ := h
 exact ⟨t, Kd.S_drewN h1 n, pw_below_drewN h2 n, h3⟩
set_option maxRecDepth 100000 in
set_option maxHeartbeats 4000000 in
theorem common_any (A0 : Option Addr) (c0 : Nat) (a : List Int) (A1 : Option Addr) (c1 : Nat) (b : List Int) (w : World) (hr0 : Kd.C (Kd.int .i64) w A0 a.length a) (hr1 : Kd.C (Kd.int .i64) w A1 b.length b)
  (ha : a.length ≤ 1000000) (hb : b.length ≤ 1000000) : Calls Tryz.prog 97 #[.slice A0 a.length c0, .slice A1 b.length c1] w (CommonPost a b w) := by
 have HR0 := Aside0.mk hr0
 have HR1 := Aside0.mk hr1
 have HB := Aside0.mk (Below.refl w.heap.size w)
 clear hr0 hr1
 have hu22 := Tryz.underlying40
 have ea : ((a.length : Int) + 1).toNat = a.length + 1 := by omega
 have eb : ((b.length : Int) + 1).toNat = b.length + 1 := by omega
 have EA := Aside0.mk ea
 have EB := Aside0.mk eb
 clear ea eb
 go_enter Tryz.func97, Tryz.ntmps97
 go_wp2_with (refine Kd.S_make kGrid (w0 := w) w.heap.size 40 rfl (N := 12) rfl 87 _ _ rfl ((a.length : Int) + 1) rfl rfl Tryz.underlying87 (.slice none 0 0) 24 info_rowS rfl (by decide) (by omega) [] (ok := fun _ => True) (okp := fun _ => True) ⟨_, rfl, Kd.R_nil _ _ _ _ _⟩ (fun _ hk => hk) trivial (by omega) (by omega) HB.out HB.out.size ?_; intro v1 w1 ho hb1 _ _; rw [EA.out] at ho; have HO := Aside0.mk ho; have HB1 := Aside0.mk hb1; clear ho hb1 HB; obtain ⟨g, cap, hv1, hbg, -⟩ := Kd.S_form HO.out (by rw [List.length_replicate]; omega); rw [List.length_replicate] at hv1; subst hv1)
 have HG := Aside0.mk hbg
 clear hbg
 go_loopw [6, 15] (fun v6 v15 w' => ∃ k : Nat, k ≤ a.length + 1 ∧ v15 = .int .i64 k ∧ Aside0 (Kd.S kGrid 40 w' w.heap.size (fun _ => True) (.slice (some ⟨g, 0, none⟩) (a.length + 1) cap) (List.replicate k (List.replicate (b.length + 1) 0) ++ List.replicate (a.length + 1 - k) [])) ∧ Aside0 (Below w.heap.size w w')) (fun _ v15 _ => a.length + 1 - (intOf v15).toNat)
 case atStart => exact ⟨0, by omega, rfl, by simpa using HO, HB1⟩
 case round =>
  clear HO HB1
  obtain ⟨k, hk, rfl, HO, HB⟩ := hrel
  by_cases hlt : k < a.length + 1
  ·obtain ⟨gl, _, eg, -, hgl, -⟩ := Kd.S_form HO.out (by simp; omega)
   obtain rfl : g = gl := by injection eg with e1; injection e1 with e1; injection e1
   clear eg
   go_wp2_with (refine Kd.R_make (Kd.int .i64) (w0 := w) w.heap.size 3 rfl (N := 23) rfl 40 _ _ rfl ((b.length : Int) + 1) rfl rfl Tryz.underlying40 (.int .i64 0) 8 info_int rfl (by decide) (by omega) 0 (ok := fun _ => True) (okp := fun _ => True) rfl (fun _ hk => hk) trivial (by omega) (by omega) HB.out HB.out.size ?_; intro v1 w1 ho hb1 hg1 hn1; rw [EB.out] at ho; obtain ⟨Av, cv, ev⟩ := Kd.R_slice ho; subst ev; rw [List.length_replicate] at ho hn1; have HO1 := Aside0.mk (grid_put (S_elder HO.out hg1 hn1) ho (fun k hk he => by obtain ⟨b', h1, h2⟩ := hn1; rw [h1] at hk; injection hk with hk; omega) k hlt); have hc1 := HO1.out.1; have hf1 := HO1.out.2.1; obtain ⟨x1, hc1⟩ := hc1; have HB1 := Aside0.mk hb1; clear ho hb1 hg1 hn1)
   go_roundw
   case rel => exact ⟨k + 1, by omega, by go_num, ⟨by rw [← repl_set _ _ _ hlt]; exact HO1.out.2.2⟩, ⟨below_set HB1.out HG.out⟩⟩
   case measure => simp [intOf]; omega
  ·have HC : Aside0 (ComRel a b w g cap ((a.length : Int) - 1) ((b.length : Int) - 1) wr) := ⟨_, HO.out, HB.out, part_first a b _ (by rw [show k = a.length + 1 from by omega, Nat.sub_self]; simp)⟩
   clear HO HB
   go_wp2
   go_loopw [7, 8] (fun v7 v8 w' => ∃ x : Int, v7 = .int .i64 x ∧ -1 ≤ x ∧ x < (a.length : Int) ∧ Aside0 (ComRel a b w g cap x ((b.length : Int) - 1) w')) (fun v7 _ _ => (intOf v7 + 1).toNat)
   case atStart => exact ⟨_, rfl, by omega, by omega, HC⟩
   case round =>
    clear HC
    obtain ⟨x, rfl, hx0, hx1, HC⟩ := hrel
    by_cases hx : 0 ≤ x
    ·obtain ⟨i, rfl⟩ := Int.eq_ofNat_of_zero_le hx
     go_wp2
     go_loopw [8] (fun v8 w' => ∃ y : Int, v8 = .int .i64 y ∧ -1 ≤ y ∧ y < (b.length : Int) ∧ Aside0 (ComRel a b w g cap (i : Int) y w')) (fun v8 _ => (intOf v8 + 1).toNat)
     case atStart => exact ⟨_, rfl, by omega, by omega, HC⟩
     case round =>
      clear HC
      obtain ⟨y, rfl, hy0, hy1, HC⟩ := hrel
      by_cases hy : 0 ≤ y
      ·obtain ⟨j, rfl⟩ := Int.eq_ofNat_of_zero_le hy
       obtain ⟨ad0, rfl, hx0⟩ := at_nat (Kd.C_below HR0.out HC.out.choose_spec.2.1) i (by omega)
       obtain ⟨ad1, rfl, hx1⟩ := at_nat (Kd.C_below HR1.out HC.out.choose_spec.2.1) j (by omega)
       by_cases he : rd a (i : Int) = rd b (j : Int)
       ·have hbe : (rd a (i : Int) == rd b (j : Int)) = true := by simpa using he
        have HE := Aside0.mk (Lc_eq (a := a) (b := b) (i := i) (j := j) (by omega) (by omega) he)
        clear he
        go_wp2
        go_quiet (fail)
        go_wp2
        have HC2 := ComRel.drewN HC.out nq
        clear HC hx0 hx1
        generalize wr.drewN nq = W2 at HC2 ⊢
        obtain ⟨t, hS, hB, hP⟩ := HC2
        have hs := hP.1
        obtain ⟨gi, ci, hg0, hg1, hg2, hg3, hg4⟩ := grid_at hS i j (by omega) (by rw [hs.2 i (by omega)]; omega)
        obtain ⟨gn, cn, hn0, hn1, -, -, -⟩ := grid_at hS (i + 1) j (by omega) (by rw [hs.2 (i + 1) (by omega)]; omega)
        rw [hs.2 i (by omega)] at hg0 hg1
        rw [hs.2 (i + 1) (by omega)] at hn0 hn1
        have hn1' := hn1 (j + 1) (by omega)
        have hg1'' := hg1 j (by omega)
        have e1 : rd (row t (i + 1)) ((j + 1 : Nat) : Int) = Lc a b (i + 1) (j + 1) := hP.2.1 (i + 1) (j + 1) (by omega) (by omega) (by omega)
        rw [e1] at hn1'
        have l1 := Lc_bound a b (i + 1) (j + 1)
        have HN : Aside0 (ComRel a b w g cap (i : Int) ((j : Int) - 1) (W2.drew.setCell ⟨gi, j, none⟩ (.int .i64 (Lc a b (i + 1) (j + 1) + 1)))) := ⟨by
         rw [← HE.out]
         exact ⟨_, hg4 _ _ rfl, below_set (below_drew hB) hg3, part_step hP (by omega) (by omega)⟩⟩
        have q1 : (i : Int) < (a.length : Int) + 1 := by omega
        have q2 : (i : Int) < (a.length : Int) := by omega
        have q3 : (j : Int) < (b.length : Int) + 1 := by omega
        have q4 : (j : Int) < (b.length : Int) := by omega
        have w1 : IntKind.i64.wrap ((i : Int) + 1) = (i : Int) + 1 := (i64_w _).trans (wrap_id (by omega) (by omega))
        have w2 : IntKind.i64.wrap ((j : Int) + 1) = (j : Int) + 1 := (i64_w _).trans (wrap_id (by omega) (by omega))
        have w3 : IntKind.i64.wrap (Lc a b (i + 1) (j + 1) + 1) = Lc a b (i + 1) (j + 1) + 1 := (i64_w _).trans (wrap_id (by omega) (by omega))
        have n1 : ((i : Int) + 1).toNat = i + 1 := by omega
        have n2 : ((j : Int) + 1).toNat = j + 1 := by omega
        have p1 : (0 : Int) ≤ (i : Int) + 1 := by omega
        have p2 : (0 : Int) ≤ (j : Int) + 1 := by omega
        clear hS hB hP hs hg1 hn1 hg4 hg3 e1 l1
        go_still_tail 16, (by kernel_rfl)
        change wpList _ _ _ _ _ W2.drew
        go_wp2
        go_roundw
        case rel => exact ⟨_, rfl, by omega, by omega, HN⟩
        case measure => simp [intOf]
       ·have hbe : (rd a (i : Int) == rd b (j : Int)) = false := by simpa using he
        have HE := Aside0.mk (Lc_ne (a := a) (b := b) (i := i) (j := j) (by omega) (by omega) he)
        clear he
        go_wp2
        go_quiet (fail)
        go_wp2
        have HC2 := ComRel.drewN HC.out nq
        clear HC hx0 hx1
        generalize wr.drewN nq = W2 at HC2 ⊢
        obtain ⟨t, hS, hB, hP⟩ := HC2
        have hs := hP.1
        obtain ⟨gi, ci, hg0, hg1, hg2, hg3, hg4⟩ := grid_at hS i j (by omega) (by rw [hs.2 i (by omega)]; omega)
        obtain ⟨gn, cn, hn0, hn1, -, -, -⟩ := grid_at hS (i + 1) j (by omega) (by rw [hs.2 (i + 1) (by omega)]; omega)
        rw [hs.2 i (by omega)] at hg0 hg1
        rw [hs.2 (i + 1) (by omega)] at hn0 hn1
        have hn1' := hn1 j (by omega)
        have hg1' := hg1 (j + 1) (by omega)
        have hg1'' := hg1 j (by omega)
        have e1 : rd (row t (i + 1)) (j : Int) = Lc a b (i + 1) j := hP.2.1 (i + 1) j (by omega) (by omega) (by omega)
        have e2 : rd (row t i) ((j + 1 : Nat) : Int) = Lc a b i (j + 1) := hP.2.1 i (j + 1) (by omega) (by omega) (by omega)
        rw [e1] at hn1'
        rw [e2] at hg1'
        have q1 : (i : Int) < (a.length : Int) + 1 := by omega
        have q2 : (i : Int) < (a.length : Int) := by omega
        have q3 : (j : Int) < (b.length : Int) + 1 := by omega
        have q4 : (j : Int) < (b.length : Int) := by omega
        have w1 : IntKind.i64.wrap ((i : Int) + 1) = (i : Int) + 1 := (i64_w _).trans (wrap_id (by omega) (by omega))
        have w2 : IntKind.i64.wrap ((j : Int) + 1) = (j : Int) + 1 := (i64_w _).trans (wrap_id (by omega) (by omega))
        have n1 : ((i : Int) + 1).toNat = i + 1 := by omega
        have n2 : ((j : Int) + 1).toNat = j + 1 := by omega
        have p1 : (0 : Int) ≤ (i : Int) + 1 := by omega
        have p2 : (0 : Int) ≤ (j : Int) + 1 := by omega
        by_cases hm : Lc a b (i + 1) j < Lc a b i (j + 1)
        all_goals
         have HN : Aside0 (ComRel a b w g cap (i : Int) ((j : Int) - 1) (W2.drew.setCell ⟨gi, j, none⟩ (.int .i64 (Lc a b i j)))) := ⟨_, hg4 _ _ rfl, below_set (below_drew hB) hg3, part_step hP (by omega) (by omega)⟩
         first | rw [show Lc a b i j = Lc a b i (j + 1) from by rw [HE.out]; omega] at HN | rw [show Lc a b i j = Lc a b (i + 1) j from by rw [HE.out]; omega] at HN
         clear hS hB hP hs hg1 hn1 hg4 hg3 e1 e2
         go_still_tail 23, (by kernel_rfl)
         change wpList _ _ _ _ _ W2.drew
         go_wp2
         go_roundw
         case rel => exact ⟨_, rfl, by omega, by omega, HN⟩
         case measure => simp [intOf]
      ·have HP : Aside0 (∃ t, Kd.S kGrid 40 wr w.heap.size (fun _ => True) (.slice (some ⟨g, 0, none⟩) (a.length + 1) cap) t ∧ Below w.heap.size w wr ∧ Part a b t ((i : Int) - 1) ((b.length : Int) - 1)) := ⟨by
        obtain ⟨t, h1, h2, h3⟩ := HC.out
        exact ⟨t, h1, h2, part_next h3 (by omega)⟩⟩
       go_wp2
       go_roundw
       case rel => exact ⟨_, rfl, by omega, by omega, HP⟩
       case measure => simp [intOf]
    ·go_wp2
     go_ret
     obtain ⟨t, h1, h2, h3⟩ := HC.out
     exact ⟨_, t, rfl, h1, h2, part_full h3 (by omega)⟩
end Go.Proofs.YtggldnbhmebcpaaGreatDoor.L
end
section
namespace Go.Proofs.YtggldnbhmebcpaaGreatDoor.L
open Go.RowKit Go.ChangeShapes Go.WideShapes Go.Proofs.YtggldnbhmebcpaaGreatDoorW.PrintWords Go.Proofs.YtggldnbhmebcpaaGreatDoorW.PrintLast Go.Proofs.YtggldnbhmebcpaaGreatDoorW.PrintMore
attribute [local go_sem] max2_int min2_int max_two min_two max_three min_three max_four min_four
theorem info_edS : (Tryz.prog.info? 48).map (fun i => (i.zero, i.size, i.bytes)) = some (some (.agg #[.int .i64 0, .int .i64 0]), 2, 16) := by kernel_rfl
def AddPost (l : List Ed) (kd : Int) (v : Value) (w0 w : World) (e : Ending) (w' : World) : Prop :=
 ∃ v' : Value, e = .returned v' ∧ Kd.R kEd 48 w' w0.heap.size (fun _ => True) v' (addE l kd) ∧ Below w0.heap.size w0 w' ∧ w.grownBy w' v.ownBlock

set_option maxRecDepth 100000 in
set_option maxHeartbeats 4000000 in
theorem add_any (v : Value) (l : List Ed) (kd : Int) (w0 w : World) (hB : Below w0.heap.size w0 w) (hO : Kd.R kEd 48 w w0.heap.size (fun _ => True) v l) (hl : l.length ≤ 1000000) (hn : (lastE l).kind = kd → -1000000 ≤ (lastE l).n ∧ (lastE l).n ≤ 1000000) :
  Calls Tryz.prog 98 #[v, .int .i64 kd] w (AddPost l kd v w0 w) := by
 have HB := Aside0.mk hB
 have HO := Aside0.mk hO
 have HN := Aside0.mk hn
 clear hB hO hn
 have huE := Tryz.underlying48
 by_cases h0 : 0 < l.length
 ·have hd : decide (0 < l.length) = true := decide_eq_true h0
  have hsub : (0 : Int) ≤ (l.length : Int) - 1 := by omega
  obtain ⟨g, cap, rfl, hbg, -⟩ := Kd.R_form HO.out h0
  obtain ⟨c, hcl, hM, hcc, hfr⟩ := R_elemN HO.out edz (l.length - 1) (by omega)
  have HG := Aside0.mk hbg
  obtain rfl := kEd_openM hM
  have hx0 : w.cell? ⟨g, (l.length - 1) * 2, none⟩ = some (.int .i64 (lastE l).kind) := hcc 0 _ rfl
  have hx1 : w.cell? ⟨g, (l.length - 1) * 2 + 1, none⟩ = some (.int .i64 (lastE l).n) := hcc 1 _ rfl
  have hf1 : w.frozen? ⟨g, (l.length - 1) * 2 + 1, none⟩ = false := hfr 1
  by_cases he : (lastE l).kind = kd
  ·have hb : ((lastE l).kind == kd) = true := by simpa using he
   have HE : Aside0 (addE l kd = l.set (l.length - 1) ⟨kd, (lastE l).n + 1⟩) := ⟨by unfold addE; rw [if_pos ⟨h0, he⟩]⟩
   have hr := HN.out he
   have h1 := hr.1
   have h2 := hr.2
   have HP := Aside0.mk (R_segN HO.out (l.length - 1) (by omega) (seg := [.int .i64 ((lastE l).n + 1)]) (j := 1) hcl hcc (Nat.le_refl 2) (x' := ⟨kd, (lastE l).n + 1⟩) (okp := fun _ => False) (by rw [← he]; exact kEd_mkM _ _ _ ⟨_, _⟩) (fun _ h => h.elim))
   clear hcc hfr hM hr he hbg hcl
   go_enter Tryz.func98, Tryz.ntmps98
   go_wp2
   go_ret
   exact ⟨_, rfl, by rw [HE.out]; exact HP.out.1, below_set HB.out HG.out, HP.out.2⟩
  ·have hb : ((lastE l).kind == kd) = false := by simpa using he
   have HE : Aside0 (addE l kd = l ++ [⟨kd, 1⟩]) := ⟨by unfold addE; rw [if_neg (fun h => he h.2)]⟩
   clear hcc hfr hM he hbg hcl
   go_enter Tryz.func98, Tryz.ntmps98
   go_wp2_with (at_builtin; refine Kd.R_append kEd (w0 := w0) w0.heap.size rfl (.tmp 30) (.tmp 33) 37 48 _ 16 rfl Tryz.underlying37 info_edS rfl (by decide) (by omega) _ l ⟨kd, 1⟩ [_, _] (fun _ => True) (fun _ => False) rfl rfl (kEd_mkM _ _ _ _) (fun _ h => h.elim) (fun _ _ => trivial) HO.out HB.out HB.out.size (by omega) ?_; intro v1 w1 ho hb hg hat)
   go_ret
   exact ⟨_, rfl, by rw [HE.out]; exact ho, hb, hg⟩
 ·have hd : decide (0 < l.length) = false := decide_eq_false h0
  have HE : Aside0 (addE l kd = l ++ [⟨kd, 1⟩]) := ⟨by unfold addE; rw [if_neg (fun h => h0 h.1)]⟩
  obtain ⟨A, c, rfl⟩ := Kd.R_slice HO.out
  clear h0
  go_enter Tryz.func98, Tryz.ntmps98
  go_wp2_with (at_builtin; refine Kd.R_append kEd (w0 := w0) w0.heap.size rfl (.tmp 30) (.tmp 33) 37 48 _ 16 rfl Tryz.underlying37 info_edS rfl (by decide) (by omega) _ l ⟨kd, 1⟩ [_, _] (fun _ => True) (fun _ => False) rfl rfl (kEd_mkM _ _ _ _) (fun _ h => h.elim) (fun _ _ => trivial) HO.out HB.out HB.out.size (by omega) ?_; intro v1 w1 ho hb hg hat)
  go_ret
  exact ⟨_, rfl, by rw [HE.out]; exact ho, hb, hg⟩
def MRel (a b : List Int) (t : List (List Int)) (w : World) (vt v : Value) (out : List Ed) (i j : Nat) (w' : World) : Prop :=
 MInv a b out i j ∧ Kd.R kEd 48 w' w.heap.size (fun _ => True) v out ∧ Kd.S kGrid 40 w' w.heap.size (fun _ => True) vt t ∧ Below w.heap.size w w'
theorem MRel.drewN {a b : List Int} {t : List (List Int)} {w w' : World} {vt v : Value} {out : List Ed} {i j : Nat} (h : MRel a b t w vt v out i j w') (n : Nat) : MRel a b t w vt v out i j (w'.drewN n) :=
 ⟨h.1, Kd.R_drewN h.2.1 n, Kd.S_drewN h.2.2.1 n, pw_below_drewN h.2.2.2 n⟩
theorem MRel.grown {a b : List Int} {t : List (List Int)} {w w' w1 : World} {vt v v1 : Value} {out out1 : List Ed} {i j i1 j1 : Nat} (h : MRel a b t w vt v out i j w') (hM : MInv a b out1 i1 j1) (hR : Kd.R kEd 48 w1 w.heap.size (fun _ => True) v1 out1) (hB : Below w.heap.size w w1) (hg : w'.grownBy w1 v.ownBlock) : MRel a b t w vt v1 out1 i1 j1 w1 :=
 ⟨hM, hR, Kd.S_over' h.2.2.1 (Kd.R_typed h.2.1) (by decide) hg, hB⟩
theorem MInv.last {a b : List Int} {out : List Ed} {i j : Nat} (h : MInv a b out i j) (hl : a.length ≤ 1000000) {kd : Int} (hk : kd = 1 ∨ kd = 2) (he : (lastE out).kind = kd) : -1000000 ≤ (lastE out).n ∧ (lastE out).n ≤ 1000000 := by
 have := h.hi
 rcases snoc_cases out with rfl | ⟨o, e, rfl⟩
 ·exact ⟨by decide, by decide⟩
 ·rw [lastE_snoc] at he ⊢
  have := h.mem e (by simp)
  omega
def MakePost (a b : List Int) (w : World) (e : Ending) (w' : World) : Prop :=
 ∃ (v : Value) (l : List Ed), e = .returned v ∧ Kd.R kEd 48 w' w.heap.size (fun _ => True) v l ∧ Below w.heap.size w w' ∧ MInv a b l a.length b.length
set_option maxRecDepth 100000 in
set_option maxRecDepth 100000 in
set_option maxHeartbeats 8000000 in
theorem make_any (A0 : Option Addr) (c0 : Nat) (a : List Int) (A1 : Option Addr) (c1 : Nat) (b : List Int) (w : World) (hr0 : Kd.C (Kd.int .i64) w A0 a.length a) (hr1 : Kd.C (Kd.int .i64) w A1 b.length b)
  (ha : a.length ≤ 400000) (hb : b.length ≤ 400000) : Calls Tryz.prog 58 #[.slice A0 a.length c0, .slice A1 b.length c1] w (MakePost a b w) := by
 have HR0 := Aside0.mk hr0
 have HR1 := Aside0.mk hr1
 go_enter Tryz.func58, Tryz.ntmps58
 go_wp2_with (go_at_call 97; refine (common_any A0 c0 a A1 c1 b w hr0 hr1 (by omega) (by omega)).mono ?_; rintro e w1 ⟨vt, t, rfl, hS, hB, hF⟩; have HM := Aside0.mk (show MRel a b t w vt (.slice none 0 0) [] 0 0 w1 from ⟨MInv.start a b, Kd.R_nil _ _ _ _ _, hS, hB⟩); have HF := Aside0.mk hF; clear hS hB hF)
 clear hr0 hr1
 obtain ⟨g, cap, hv, -, -, -⟩ := Kd.S_form HM.out.2.2.1 (by rw [HF.out.1.1]; omega)
 rw [HF.out.1.1] at hv
 subst hv
 go_loopw [5, 7, 8] (fun v5 v7 v8 w' => ∃ (out : List Ed) (i j : Nat), v7 = .int .i64 i ∧ v8 = .int .i64 j ∧ i ≤ a.length ∧ j ≤ b.length ∧ Aside0 (MRel a b t w (.slice (some ⟨g, 0, none⟩) (a.length + 1) cap) v5 out i j w')) (fun _ v7 v8 _ => (a.length - (intOf v7).toNat) + (b.length - (intOf v8).toNat))
 case atStart => exact ⟨[], 0, 0, rfl, rfl, by omega, by omega, HM⟩
 case round =>
  clear HM
  obtain ⟨out, i, j, rfl, rfl, hi, hj, HM⟩ := hrel
  obtain ⟨Ao, co, rfl⟩ := Kd.R_slice HM.out.2.1
  by_cases hin : i < a.length
  ·have di : decide ((i : Int) < (a.length : Int)) = true := decide_eq_true (by omega)
   by_cases hjm : j < b.length
   ·have dj : decide ((j : Int) < (b.length : Int)) = true := decide_eq_true (by omega)
    have djn : ((j : Int) == (b.length : Int)) = false := by simp; omega
    obtain ⟨ad0, rfl, hx0⟩ := at_nat (Kd.C_below HR0.out HM.out.2.2.2) i hin
    obtain ⟨ad1, rfl, hx1⟩ := at_nat (Kd.C_below HR1.out HM.out.2.2.2) j hjm
    by_cases he : rd a (i : Int) = rd b (j : Int)
    ·have hbe : (rd a (i : Int) == rd b (j : Int)) = true := by simpa using he
     have HK := Aside0.mk (MInv.keep HM.out.1 hin hjm he)
     clear he
     go_wp2
     go_quiet (fail)
     have HM2 := Aside0.mk (HM.out.drewN nq)
     clear HM
     generalize wr.drewN nq = W2 at HM2 ⊢
     go_wp2_with (go_at_call 98; refine (add_any _ out 1 w _ HM2.out.2.2.2 HM2.out.2.1 (by have := HM2.out.1.len; omega) (fun he => HM2.out.1.last (by omega) (by omega) he)).mono ?_; rintro e w2 ⟨v2, rfl, hR2, hB2, hg2⟩; have HN := Aside0.mk (HM2.out.grown HK.out hR2 hB2 hg2); clear hR2 hB2 hg2)
     go_roundw
     case rel => exact ⟨_, i + 1, j + 1, by go_num, by go_num, by omega, by omega, HN⟩
     case measure => simp [intOf]; omega
    ·have hbe : (rd a (i : Int) == rd b (j : Int)) = false := by simpa using he
     have HL := Aside0.mk (Lc_ne (a := a) (b := b) hin hjm he)
     have HE : Aside0 (a = b → False) := ⟨fun e => he (same_eq HM.out.1 e)⟩
     clear he
     go_wp2
     go_quiet (fail)
     have HM2 := Aside0.mk (HM.out.drewN nq)
     clear HM hx0 hx1
     generalize wr.drewN nq = W2 at HM2 ⊢
     have hs := HF.out.1
     obtain ⟨gi, ci, hg0, hg1, -⟩ := grid_at HM2.out.2.2.1 i j (by omega) (by rw [hs.2 i (by omega)]; omega)
     obtain ⟨gn, cn, hn0, hn1, -⟩ := grid_at HM2.out.2.2.1 (i + 1) j (by omega) (by rw [hs.2 (i + 1) (by omega)]; omega)
     rw [hs.2 i (by omega)] at hg0 hg1
     rw [hs.2 (i + 1) (by omega)] at hn0 hn1
     have hg1' := hg1 (j + 1) (by omega)
     have hn1' := hn1 j (by omega)
     have e1 : rd (row t (i + 1)) (j : Int) = Lc a b (i + 1) j := HF.out.2 (i + 1) j (by omega) (by omega)
     have e2 : rd (row t i) ((j + 1 : Nat) : Int) = Lc a b i (j + 1) := HF.out.2 i (j + 1) (by omega) (by omega)
     rw [e1] at hn1'
     rw [e2] at hg1'
     obtain ⟨ad1', e1', hx1⟩ := at_nat (Kd.C_below HR1.out HM2.out.2.2.2) j hjm
     obtain rfl : ad1 = ad1' := by injection e1'
     clear e1 e2 e1' hg1 hn1 hs
     by_cases hge : Lc a b i (j + 1) ≤ Lc a b (i + 1) j
     ·have dge : decide (Lc a b i (j + 1) ≤ Lc a b (i + 1) j) = true := decide_eq_true hge
      have HK := Aside0.mk (MInv.drop HM2.out.1 hin (by rw [HL.out]; omega) HE.out)
      clear hge
      go_wp2
      go_quiet (fail)
      have HM3 := Aside0.mk (HM2.out.drewN nq)
      clear HM2
      have HM2 := HM3
      clear HM3
      generalize W2.drewN nq = W3 at HM2 ⊢
      go_wp2_with (go_at_call 98; refine (add_any _ out 2 w _ HM2.out.2.2.2 HM2.out.2.1 (by have := HM2.out.1.len; omega) (fun he => HM2.out.1.last (by omega) (by omega) he)).mono ?_; rintro e w2 ⟨v2, rfl, hR2, hB2, hg2⟩; have HN := Aside0.mk (HM2.out.grown HK.out hR2 hB2 hg2); clear hR2 hB2 hg2)
      go_roundw
      case rel => exact ⟨_, i + 1, j, by go_num, rfl, by omega, by omega, HN⟩
      case measure => simp [intOf]; omega
     ·have dge : decide (Lc a b i (j + 1) ≤ Lc a b (i + 1) j) = false := decide_eq_false hge
      have HK := Aside0.mk (MInv.put HM2.out.1 hjm (by rw [HL.out]; omega) HE.out)
      clear hge
      go_wp2
      go_quiet (fail)
      have HM3 := Aside0.mk (HM2.out.drewN nq)
      clear HM2
      have HM2 := HM3
      clear HM3
      generalize W2.drewN nq = W3 at HM2 ⊢
      obtain ⟨ad1', e1', hx1⟩ := at_nat (Kd.C_below HR1.out HM2.out.2.2.2) j hjm
      obtain rfl : ad1 = ad1' := by injection e1'
      clear e1'
      go_wp2_with (at_builtin; refine Kd.R_append kEd (w0 := w) w.heap.size rfl (.tmp 22) (.tmp 28) 37 48 _ 16 rfl Tryz.underlying37 info_edS rfl (by decide) (by omega) _ out ⟨3, rd b (j : Int)⟩ [_, _] (fun _ => True) (fun _ => False) rfl rfl (kEd_mkM _ _ _ _) (fun _ h => h.elim) (fun _ _ => trivial) HM2.out.2.1 HM2.out.2.2.2 HM2.out.2.2.2.size (by have := HM2.out.1.len; omega) ?_; intro v2 w2 hR2 hB2 hg2 _; have HN := Aside0.mk (HM2.out.grown HK.out hR2 hB2 hg2); clear hR2 hB2 hg2)
      go_roundw
      case rel => exact ⟨_, i, j + 1, rfl, by go_num, by omega, by omega, HN⟩
      case measure => simp [intOf]; omega
   ·have hj0 : j = b.length := by omega
    have dj : decide ((j : Int) < (b.length : Int)) = false := decide_eq_false (by omega)
    have djn : ((j : Int) == (b.length : Int)) = true := by simp; omega
    have HM2 := HM
    have HK := Aside0.mk (MInv.drop HM2.out.1 hin (by rw [Lc_last_right _ _ _ _ (by omega), Lc_last_right _ _ _ _ (by omega)]) (fun e => by obtain ⟨h, _⟩ := HM2.out.1.same e; subst e; omega))
    clear HM hj0
    go_wp2
    go_quiet (fail)
    have HM3 := Aside0.mk (HM2.out.drewN nq)
    clear HM2
    have HM2 := HM3
    clear HM3
    generalize wr.drewN nq = W2 at HM2 ⊢
    go_wp2
    go_quiet (fail)
    have HM3 := Aside0.mk (HM2.out.drewN nq)
    clear HM2
    have HM2 := HM3
    clear HM3
    generalize W2.drewN nq = W3 at HM2 ⊢
    go_wp2_with (go_at_call 98; refine (add_any _ out 2 w _ HM2.out.2.2.2 HM2.out.2.1 (by have := HM2.out.1.len; omega) (fun he => HM2.out.1.last (by omega) (by omega) he)).mono ?_; rintro e w2 ⟨v2, rfl, hR2, hB2, hg2⟩; have HN := Aside0.mk (HM2.out.grown HK.out hR2 hB2 hg2); clear hR2 hB2 hg2)
    go_roundw
    case rel => exact ⟨_, i + 1, j, by go_num, rfl, by omega, by omega, HN⟩
    case measure => simp [intOf]; omega
  ·by_cases hjm : j < b.length
   ·have di : decide ((i : Int) < (a.length : Int)) = false := decide_eq_false (by omega)
    have dj : decide ((j : Int) < (b.length : Int)) = true := decide_eq_true (by omega)
    have djn : ((j : Int) == (b.length : Int)) = false := by simp; omega
    obtain ⟨ad1, rfl, hx1⟩ := at_nat (Kd.C_below HR1.out HM.out.2.2.2) j hjm
    have HM2 := HM
    have HK := Aside0.mk (MInv.put HM2.out.1 hjm (by rw [Lc_last_left _ _ _ _ (by omega), Lc_last_left _ _ _ _ (by omega)]) (fun e => by obtain ⟨h, _⟩ := HM2.out.1.same e; subst e; omega))
    clear HM
    go_wp2
    go_quiet (fail)
    have HM3 := Aside0.mk (HM2.out.drewN nq)
    clear HM2
    have HM2 := HM3
    clear HM3
    generalize wr.drewN nq = W2 at HM2 ⊢
    go_wp2
    go_quiet (fail)
    have HM3 := Aside0.mk (HM2.out.drewN nq)
    clear HM2
    have HM2 := HM3
    clear HM3
    generalize W2.drewN nq = W3 at HM2 ⊢
    obtain ⟨ad1', e1', hx1⟩ := at_nat (Kd.C_below HR1.out HM2.out.2.2.2) j hjm
    obtain rfl : ad1 = ad1' := by injection e1'
    clear e1'
    go_wp2_with (at_builtin; refine Kd.R_append kEd (w0 := w) w.heap.size rfl (.tmp 22) (.tmp 28) 37 48 _ 16 rfl Tryz.underlying37 info_edS rfl (by decide) (by omega) _ out ⟨3, rd b (j : Int)⟩ [_, _] (fun _ => True) (fun _ => False) rfl rfl (kEd_mkM _ _ _ _) (fun _ h => h.elim) (fun _ _ => trivial) HM2.out.2.1 HM2.out.2.2.2 HM2.out.2.2.2.size (by have := HM2.out.1.len; omega) ?_; intro v2 w2 hR2 hB2 hg2 _; have HN := Aside0.mk (HM2.out.grown HK.out hR2 hB2 hg2); clear hR2 hB2 hg2)
    go_roundw
    case rel => exact ⟨_, i, j + 1, rfl, by go_num, by omega, by omega, HN⟩
    case measure => simp [intOf]; omega
   ·have di : decide ((i : Int) < (a.length : Int)) = false := decide_eq_false (by omega)
    have dj : decide ((j : Int) < (b.length : Int)) = false := decide_eq_false (by omega)
    have hi0 : i = a.length := by omega
    have hj0 : j = b.length := by omega
    have HMf := Aside0.mk (show MInv a b out a.length b.length from by rw [← hi0, ← hj0]; exact HM.out.1)
    clear hi0 hj0
    go_wp2
    go_ret
    exact ⟨_, out, rfl, HM.out.2.1, HM.out.2.2.2, HMf.out⟩
end Go.Proofs.YtggldnbhmebcpaaGreatDoor.L
end
section
namespace Go.Proofs.YtggldnbhmebcpaaGreatDoor.L
open Go.RowKit Go.ChangeShapes Go.WideShapes Go.Proofs.YtggldnbhmebcpaaGreatDoorW.PrintWords Go.Proofs.YtggldnbhmebcpaaGreatDoorW.PrintLast Go.Proofs.YtggldnbhmebcpaaGreatDoorW.PrintMore
attribute [local go_sem] max2_int min2_int max_two min_two max_three min_three max_four min_four
def firstF (P : Nat → Bool) (tk : List Int) (n : Nat) : Int :=
  match (List.range n).find? (fun k => P k && !decide ((k : Int) ∈ tk)) with
  | some k => (k : Int)
  | none => -1
theorem firstF_cases (P : Nat → Bool) (tk : List Int) (n : Nat) :
    (firstF P tk n = -1 ∧ ∀ k : Nat, k < n → P k = true → (k : Int) ∈ tk) ∨
    (∃ k : Nat, k < n ∧ firstF P tk n = (k : Int) ∧ P k = true ∧ (k : Int) ∉ tk ∧ ∀ j : Nat, j < k → P j = true → (j : Int) ∈ tk) := by
  unfold firstF
  cases h : (List.range n).find? (fun k => P k && !decide ((k : Int) ∈ tk)) with
  | none =>
    refine .inl ⟨rfl, fun k hk hp => ?_⟩
    have := List.find?_eq_none.1 h k (List.mem_range.2 hk)
    simpa [hp] using this
  | some k =>
    obtain ⟨h1, us, bs, h2, h3⟩ := List.find?_eq_some_iff_append.1 h
    have hk : k < n := List.mem_range.1 (h2 ▸ by simp)
    have hk2 : us = List.range k := by
      have e1 : us.length = k := by
        have := (congrArg (fun l : List Nat => l[us.length]?) h2 : (List.range n)[us.length]? = (us ++ k :: bs)[us.length]?)
        simp only [List.getElem?_append_right (Nat.le_refl _), Nat.sub_self, List.getElem?_cons_zero] at this
        have hl : us.length < (List.range n).length := by rw [h2]; simp
        rw [List.getElem?_eq_getElem hl, List.getElem_range] at this
        injection this
      have := (congrArg (fun l : List Nat => l.take k) h2 : (List.range n).take k = (us ++ k :: bs).take k)
      rw [List.take_append_of_le_length (by omega), List.take_of_length_le (l := us) (by omega), List.take_range, Nat.min_eq_left (by omega)] at this
      exact this.symm
    simp only [Bool.and_eq_true, Bool.not_eq_true', decide_eq_false_iff_not] at h1
    refine .inr ⟨k, hk, rfl, h1.1, h1.2, fun j hj hp => ?_⟩
    have := h3 j (by rw [hk2]; exact List.mem_range.2 hj)
    simpa [hp] using this
def rndA (P : Nat → Nat → Bool) (n : Nat) : Nat → List Int
  | 0 => []
  | i + 1 => rndA P n i ++ [firstF (P i) (rndA P n i) n]
def rndB (Q : Nat → Nat → Bool) (n : Nat) (o : List Int) : Nat → List Int
  | 0 => o
  | i + 1 => (rndB Q n o i).set i (if rd (rndB Q n o i) (i : Int) < 0 then firstF (Q i) (rndB Q n o i) n else rd (rndB Q n o i) (i : Int))
def matP (P Q : Nat → Nat → Bool) (n m : Nat) : List Int := rndB Q n (rndA P n m) m
structure Once (n : Nat) (o : List Int) : Prop where
  pl : ∀ i : Nat, i < o.length → rd o (i : Int) = -1 ∨ (0 ≤ rd o (i : Int) ∧ rd o (i : Int) < (n : Int))
  ne : ∀ i j : Nat, i < o.length → j < o.length → i ≠ j → 0 ≤ rd o (i : Int) → rd o (i : Int) ≠ rd o (j : Int)
theorem rdm {o : List Int} {i : Nat} (h : i < o.length) : rd o (i : Int) ∈ o := by rw [rd_eq h]; exact List.getElem_mem h
theorem mem_rd {o : List Int} {x : Int} (h : x ∈ o) : ∃ i : Nat, i < o.length ∧ rd o (i : Int) = x := by
  obtain ⟨i, hi, e⟩ := List.getElem_of_mem h
  exact ⟨i, hi, by rw [rd_eq hi]; exact e⟩
theorem rd_app1 {o : List Int} {x : Int} {i : Nat} (h : i < o.length) : rd (o ++ [x]) (i : Int) = rd o (i : Int) := by
  rw [rd_eq (by simp; omega), rd_eq h, List.getElem_append_left h]
theorem rd_app2 {o : List Int} {x : Int} : rd (o ++ [x]) (o.length : Int) = x := by
  rw [rd_eq (by simp)]; simp
theorem rd_set1 {o : List Int} {x : Int} {i : Nat} (h : i < o.length) : rd (o.set i x) (i : Int) = x := by
  rw [rd_eq (by simpa using h)]; simp
theorem rd_set2 {o : List Int} {x : Int} {i j : Nat} (h : j < o.length) (hn : i ≠ j) : rd (o.set i x) (j : Int) = rd o (j : Int) := by
  rw [rd_eq (by simpa using h), rd_eq h, List.getElem_set_ne hn]
section
variable {P Q : Nat → Nat → Bool} {n : Nat} {o : List Int}
theorem Once.snoc (h : Once n o) (p : Nat → Bool) : Once n (o ++ [firstF p o n]) := by
  have hx := firstF_cases p o n
  generalize firstF p o n = x at hx
  have hl : (o ++ [x]).length = o.length + 1 := by simp
  refine ⟨fun i hi => ?_, fun i j hi hj hne h0 => ?_⟩
  · by_cases hil : i < o.length
    · rw [rd_app1 hil]; exact h.pl i hil
    · obtain rfl : i = o.length := by omega
      rw [rd_app2]
      rcases hx with ⟨rfl, -⟩ | ⟨k, hk, rfl, -⟩
      · exact .inl rfl
      · exact .inr (by omega)
  · by_cases hil : i < o.length
    · rw [rd_app1 hil] at h0 ⊢
      by_cases hjl : j < o.length
      · rw [rd_app1 hjl]; exact h.ne i j hil hjl hne h0
      · obtain rfl : j = o.length := by omega
        rw [rd_app2]
        rintro rfl
        rcases hx with ⟨e, -⟩ | ⟨k, hk, e, -, hnk, -⟩
        · omega
        · exact hnk (e ▸ rdm hil)
    · obtain rfl : i = o.length := by omega
      rw [rd_app2] at h0 ⊢
      have hjl : j < o.length := by omega
      rw [rd_app1 hjl]
      rintro rfl
      rcases hx with ⟨e, -⟩ | ⟨k, hk, e, -, hnk, -⟩
      · omega
      · exact hnk (e ▸ rdm hjl)
theorem Once.put (h : Once n o) (p : Nat → Bool) {i : Nat} (hi : i < o.length) (hz : rd o (i : Int) < 0) : Once n (o.set i (firstF p o n)) := by
  have hx := firstF_cases p o n
  generalize firstF p o n = x at hx
  refine ⟨fun j hj => ?_, fun a b ha hb hne h0 => ?_⟩
  · rw [List.length_set] at hj
    by_cases he : i = j
    · subst he
      rw [rd_set1 hi]
      rcases hx with ⟨rfl, -⟩ | ⟨k, hk, rfl, -⟩
      · exact .inl rfl
      · exact .inr (by omega)
    · rw [rd_set2 hj he]; exact h.pl j hj
  · rw [List.length_set] at ha hb
    have key : ∀ y : Nat, y < o.length → 0 ≤ x → rd o (y : Int) ≠ x := fun y hy h0 e => by
      rcases hx with ⟨e2, -⟩ | ⟨k, hk, e2, -, hnk, -⟩
      · omega
      · exact hnk (e2 ▸ e ▸ rdm hy)
    by_cases hea : i = a
    · subst hea
      rw [rd_set1 hi] at h0 ⊢
      rw [rd_set2 hb hne]
      exact fun e => key b hb h0 e.symm
    · rw [rd_set2 ha hea] at h0 ⊢
      by_cases heb : i = b
      · subst heb
        rw [rd_set1 hi]
        exact fun e => key a ha (by omega) e
      · rw [rd_set2 hb heb]
        exact h.ne a b ha hb hne h0
theorem A_len : ∀ m : Nat, (rndA P n m).length = m
  | 0 => rfl
  | m + 1 => by show (rndA P n m ++ [_]).length = _; simp [A_len m]
theorem A_once : ∀ m : Nat, Once n (rndA P n m)
  | 0 => ⟨fun i hi => absurd hi (Nat.not_lt_zero _), fun i j hi => absurd hi (Nat.not_lt_zero _)⟩
  | m + 1 => (A_once m).snoc _
theorem A_at : ∀ {m i : Nat}, i < m → rd (rndA P n m) (i : Int) = firstF (P i) (rndA P n i) n
  | m + 1, i, hi => by
    show rd (rndA P n m ++ [_]) (i : Int) = _
    by_cases h : i < m
    · rw [rd_app1 (by rw [A_len]; exact h)]; exact A_at h
    · obtain rfl : i = m := by omega
      have := rd_app2 (o := rndA P n i) (x := firstF (P i) (rndA P n i) n)
      rw [A_len] at this
      exact this
theorem B_len : ∀ m : Nat, (rndB Q n o m).length = o.length
  | 0 => rfl
  | m + 1 => by show ((rndB Q n o m).set _ _).length = _; rw [List.length_set, B_len m]
theorem B_step {m : Nat} (hm : m < o.length) : rndB Q n o (m + 1) = if rd (rndB Q n o m) (m : Int) < 0 then (rndB Q n o m).set m (firstF (Q m) (rndB Q n o m) n) else rndB Q n o m := by
  show (rndB Q n o m).set m _ = _
  split
  · rfl
  · refine List.ext_getElem (by simp) fun i h1 h2 => ?_
    by_cases he : m = i
    · subst he
      rw [List.getElem_set_self, rd_eq h2]
    · rw [List.getElem_set_ne he]
theorem B_once (h : Once n o) : ∀ {m : Nat}, m ≤ o.length → Once n (rndB Q n o m)
  | 0, _ => h
  | m + 1, hm => by
    rw [B_step (by omega)]
    have ih := B_once h (m := m) (by omega)
    split
    · exact ih.put _ (by rw [B_len]; omega) (by assumption)
    · exact ih
theorem B_keep {i : Nat} (hi : i < o.length) : ∀ {m : Nat}, m ≤ o.length → 0 ≤ rd o (i : Int) → rd (rndB Q n o m) (i : Int) = rd o (i : Int)
  | 0, _, _ => rfl
  | m + 1, hm, h0 => by
    have ih := B_keep hi (m := m) (by omega) h0
    rw [B_step (by omega)]
    split
    · rename_i hz
      have hne : m ≠ i := fun e => by subst e; omega
      rw [rd_set2 (by rw [B_len]; exact hi) hne, ih]
    · exact ih
theorem B_mem {x : Int} (hx : 0 ≤ x) {m : Nat} (hm : m < o.length) (h : x ∈ rndB Q n o m) : x ∈ rndB Q n o (m + 1) := by
  rw [B_step hm]
  split
  · rename_i hz
    obtain ⟨i, hi, rfl⟩ := mem_rd h
    have hne : m ≠ i := fun e => by subst e; omega
    have := rdm (o := (rndB Q n o m).set m (firstF (Q m) (rndB Q n o m) n)) (i := i) (by simpa using hi)
    rwa [rd_set2 hi hne] at this
  · exact h
theorem B_memle {x : Int} (hx : 0 ≤ x) {m : Nat} : ∀ {m' : Nat}, m ≤ m' → m' ≤ o.length → x ∈ rndB Q n o m → x ∈ rndB Q n o m'
  | 0, h1, _, h => by
    have e : m = 0 := by omega
    subst e
    exact h
  | m' + 1, h1, h2, h => by
    by_cases e : m = m' + 1
    · subst e; exact h
    · exact B_mem hx (by omega) (B_memle hx (m' := m') (by omega) (by omega) h)
theorem B_ahead {i : Nat} (hi : i < o.length) : ∀ {m : Nat}, m ≤ i → rd (rndB Q n o m) (i : Int) = rd o (i : Int)
  | 0, _ => rfl
  | m + 1, hm => by
    rw [B_step (by omega)]
    split
    · rw [rd_set2 (by rw [B_len]; exact hi) (by omega)]; exact B_ahead hi (by omega)
    · exact B_ahead hi (by omega)
theorem B_after {i : Nat} : ∀ {m : Nat}, i < m → m ≤ o.length → rd (rndB Q n o m) (i : Int) = rd (rndB Q n o (i + 1)) (i : Int)
  | m + 1, h1, h2 => by
    by_cases e : i = m
    · subst e; rfl
    · rw [B_step (by omega)]
      split
      · rw [rd_set2 (by rw [B_len]; omega) (by omega)]; exact B_after (by omega) (by omega)
      · exact B_after (by omega) (by omega)
theorem B_at {i : Nat} (hi : i < o.length) :
    (0 ≤ rd o (i : Int) ∧ rd (rndB Q n o o.length) (i : Int) = rd o (i : Int)) ∨
    (rd o (i : Int) < 0 ∧ rd (rndB Q n o o.length) (i : Int) = firstF (Q i) (rndB Q n o i) n) := by
  by_cases h : 0 ≤ rd o (i : Int)
  · exact .inl ⟨h, B_keep hi (Nat.le_refl _) h⟩
  · refine .inr ⟨by omega, ?_⟩
    have e := B_ahead (Q := Q) (n := n) hi (Nat.le_refl i)
    rw [B_after hi (Nat.le_refl _), B_step hi, if_pos (by omega), rd_set1 (by rw [B_len]; exact hi)]
end
end Go.Proofs.YtggldnbhmebcpaaGreatDoor.L
end
section
namespace Go.Proofs.YtggldnbhmebcpaaGreatDoor.L
open Go.RowKit Go.ChangeShapes Go.WideShapes Go.Proofs.YtggldnbhmebcpaaGreatDoorW.PrintWords Go.Proofs.YtggldnbhmebcpaaGreatDoorW.PrintLast Go.Proofs.YtggldnbhmebcpaaGreatDoorW.PrintMore
attribute [local go_sem] max2_int min2_int max_two min_two max_three min_three max_four min_four
theorem len_sub {α : Type} [DecidableEq α] : ∀ {L M : List α}, L.Nodup → (∀ x ∈ L, x ∈ M) → L.length ≤ M.length
  | [], M, _, _ => Nat.zero_le _
  | x :: L, M, hn, hs => by
    obtain ⟨h1, h2⟩ := List.nodup_cons.1 hn
    have hx := hs x (List.mem_cons_self ..)
    have h3 := len_sub (L := L) (M := M.erase x) h2 (fun y hy => (List.mem_erase_of_ne (fun (e : y = x) => h1 (e ▸ hy))).2 (hs y (List.mem_cons_of_mem _ hy)))
    have h4 := List.length_erase_of_mem hx
    have h5 : 0 < M.length := List.length_pos_of_mem hx
    show L.length + 1 ≤ M.length
    omega
theorem nodup_filter {p : Nat → Bool} {l : List Nat} (h : l.Nodup) : (l.filter p).Nodup := List.Pairwise.filter p h
def cntP (p : Nat → Bool) (m : Nat) : Nat := ((List.range m).filter p).length
theorem cntP_lt (p : Nat → Bool) (m : Nat) : cntP p m ≤ m := by
  unfold cntP
  exact Nat.le_trans (List.length_filter_le _ _) (by simp)
theorem cntP_succ (p : Nat → Bool) (m : Nat) : cntP p (m + 1) = cntP p m + (if p m = true then 1 else 0) := by
  unfold cntP
  rw [List.range_succ, List.filter_append, List.length_append]
  congr 1
  by_cases h : p m = true
  · simp [h]
  · simp [h]
theorem cntP_le {p q : Nat → Bool} {m : Nat} (h : ∀ i : Nat, i < m → p i = true → q i = true) : cntP p m ≤ cntP q m := by
  unfold cntP
  exact len_sub (nodup_filter List.nodup_range) (fun x hx => by
    obtain ⟨h1, h2⟩ := List.mem_filter.1 hx
    exact List.mem_filter.2 ⟨h1, h x (List.mem_range.1 h1) h2⟩)
theorem cntP_ex {p q : Nat → Bool} {m : Nat} (h : cntP p m < cntP q m) : ∃ i : Nat, i < m ∧ q i = true ∧ p i = false := by
  refine Classical.byContradiction fun hn => ?_
  have := cntP_le (p := q) (q := p) (m := m) (fun i hi hq => by
    cases hp : p i with
    | true => rfl
    | false => exact absurd ⟨i, hi, hq, hp⟩ hn)
  omega
theorem cntP_inj {p q : Nat → Bool} {m n : Nat} (f : Nat → Nat) (h : ∀ i : Nat, i < m → p i = true → f i < n ∧ q (f i) = true) (hf : ∀ i j : Nat, i < m → j < m → p i = true → p j = true → f i = f j → i = j) : cntP p m ≤ cntP q n := by
  unfold cntP
  have h1 : (((List.range m).filter p).map f).Nodup := by
    refine List.pairwise_map.2 (List.Pairwise.imp_of_mem ?_ (nodup_filter List.nodup_range))
    intro a b ha hb hne e
    obtain ⟨a1, a2⟩ := List.mem_filter.1 ha
    obtain ⟨b1, b2⟩ := List.mem_filter.1 hb
    exact hne (hf a b (List.mem_range.1 a1) (List.mem_range.1 b1) a2 b2 e)
  have h2 := len_sub h1 (M := (List.range n).filter q) (fun x hx => by
    obtain ⟨i, hi, rfl⟩ := List.mem_map.1 hx
    obtain ⟨i1, i2⟩ := List.mem_filter.1 hi
    obtain ⟨g1, g2⟩ := h i (List.mem_range.1 i1) i2
    exact List.mem_filter.2 ⟨List.mem_range.2 g1, g2⟩)
  rwa [List.length_map] at h2
section
variable {P Q : Nat → Nat → Bool} {n m : Nat}
theorem mat_len : (matP P Q n m).length = m := by unfold matP; rw [B_len, A_len]
theorem mat_once : Once n (matP P Q n m) := B_once (A_once m) (by rw [A_len]; exact Nat.le_refl _)
theorem mat_at {i : Nat} (hi : i < m) :
    (0 ≤ firstF (P i) (rndA P n i) n ∧ rd (matP P Q n m) (i : Int) = firstF (P i) (rndA P n i) n) ∨
    (firstF (P i) (rndA P n i) n < 0 ∧ rd (matP P Q n m) (i : Int) = firstF (Q i) (rndB Q n (rndA P n m) i) n) := by
  have h := B_at (Q := Q) (n := n) (o := rndA P n m) (i := i) (by rw [A_len]; exact hi)
  rw [A_len, A_at hi] at h
  exact h
theorem mat_pos {i : Nat} (hi : i < m) (h : 0 ≤ rd (matP P Q n m) (i : Int)) : ∃ k : Nat, k < n ∧ rd (matP P Q n m) (i : Int) = (k : Int) ∧ (P i k = true ∨ Q i k = true) := by
  rcases mat_at (P := P) (Q := Q) (n := n) hi with ⟨h1, h2⟩ | ⟨h1, h2⟩
  · rcases firstF_cases (P i) (rndA P n i) n with ⟨e, -⟩ | ⟨k, hk, e, hp, -⟩
    · omega
    · exact ⟨k, hk, by rw [h2, e], .inl hp⟩
  · rcases firstF_cases (Q i) (rndB Q n (rndA P n m) i) n with ⟨e, -⟩ | ⟨k, hk, e, hp, -⟩
    · omega
    · exact ⟨k, hk, by rw [h2, e], .inr hp⟩
theorem mat_none {i : Nat} (hi : i < m) (h : rd (matP P Q n m) (i : Int) < 0) {k : Nat} (hk : k < n) (hq : Q i k = true) : (k : Int) ∈ matP P Q n m := by
  rcases mat_at (P := P) (Q := Q) (n := n) hi with ⟨h1, h2⟩ | ⟨h1, h2⟩
  · omega
  · rcases firstF_cases (Q i) (rndB Q n (rndA P n m) i) n with ⟨e, hall⟩ | ⟨k', hk', e, -⟩
    · exact B_memle (by omega) (Nat.le_of_lt hi) (by rw [A_len]; exact Nat.le_refl _) (hall k hk hq)
    · omega
theorem mat_count {kl kr : Nat → Int} {K : Int} (hPQ : ∀ i k : Nat, i < m → k < n → P i k = true ∨ Q i k = true → kl i = kr k) (hQ : ∀ i k : Nat, i < m → k < n → kl i = K → kr k = K → Q i k = true) :
    cntP (fun i => decide (kl i = K) && decide (0 ≤ rd (matP P Q n m) (i : Int))) m = min (cntP (fun i => decide (kl i = K)) m) (cntP (fun k => decide (kr k = K)) n) := by
  have ho := mat_once (P := P) (Q := Q) (n := n) (m := m)
  have h1 : cntP (fun i => decide (kl i = K) && decide (0 ≤ rd (matP P Q n m) (i : Int))) m ≤ cntP (fun i => decide (kl i = K)) m := cntP_le fun i _ h => (Bool.and_eq_true _ _ ▸ h).1
  have h2 : cntP (fun i => decide (kl i = K) && decide (0 ≤ rd (matP P Q n m) (i : Int))) m ≤ cntP (fun k => decide (kr k = K)) n :=
    cntP_inj (fun i => (rd (matP P Q n m) (i : Int)).toNat) (fun i hi h => by
      simp only [Bool.and_eq_true, decide_eq_true_eq] at h
      obtain ⟨k, hk, e, hpq⟩ := mat_pos hi h.2
      rw [e, Int.toNat_natCast]
      exact ⟨hk, decide_eq_true ((hPQ i k hi hk hpq).symm.trans h.1)⟩) (fun a b ha hb pa pb e => by
      simp only [Bool.and_eq_true, decide_eq_true_eq] at pa pb
      refine Classical.byContradiction fun hne => ho.ne a b (by rw [mat_len]; exact ha) (by rw [mat_len]; exact hb) hne pa.2 (by have e : (rd (matP P Q n m) (a : Int)).toNat = (rd (matP P Q n m) (b : Int)).toNat := e; omega))
  by_cases hlt : cntP (fun i => decide (kl i = K) && decide (0 ≤ rd (matP P Q n m) (i : Int))) m < cntP (fun i => decide (kl i = K)) m
  · obtain ⟨i, hi, hk, hz⟩ := cntP_ex hlt
    have hki := of_decide_eq_true hk
    have hneg : rd (matP P Q n m) (i : Int) < 0 := by
      simp only [hki, decide_true, Bool.true_and, decide_eq_false_iff_not] at hz
      omega
    have key : ∀ k : Nat, k < n → kr k = K → ∃ j : Nat, j < m ∧ rd (matP P Q n m) (j : Int) = (k : Int) := fun k hk he => by
      obtain ⟨j, hj, e⟩ := mem_rd (mat_none hi hneg hk (hQ i k hi hk hki he))
      rw [mat_len] at hj
      exact ⟨j, hj, e⟩
    have h3 := cntP_inj (p := fun k => decide (kr k = K)) (q := fun i => decide (kl i = K) && decide (0 ≤ rd (matP P Q n m) (i : Int))) (m := n) (n := m) (fun k => if h : k < n ∧ kr k = K then Classical.choose (key k h.1 h.2) else 0) (fun k hk hp => by
      have he := of_decide_eq_true hp
      rw [dif_pos ⟨hk, he⟩]
      obtain ⟨g1, g2⟩ := Classical.choose_spec (key k hk he)
      generalize Classical.choose (key k hk he) = j at g1 g2
      have h0 : 0 ≤ rd (matP P Q n m) (j : Int) := by omega
      obtain ⟨k', hk', e, hpq⟩ := mat_pos g1 h0
      have : k' = k := by omega
      subst this
      simp only [Bool.and_eq_true, decide_eq_true_eq]
      exact ⟨g1, (hPQ j k' g1 hk hpq).trans he, h0⟩) (fun a b ha hb pa pb e => by
      have ea := of_decide_eq_true pa
      have eb := of_decide_eq_true pb
      rw [dif_pos ⟨ha, ea⟩, dif_pos ⟨hb, eb⟩] at e
      have ga := (Classical.choose_spec (key a ha ea)).2
      have gb := (Classical.choose_spec (key b hb eb)).2
      rw [e] at ga
      omega)
    omega
  · omega
end
end Go.Proofs.YtggldnbhmebcpaaGreatDoor.L
end
section
namespace Go.Proofs.YtggldnbhmebcpaaGreatDoor.L
open Go.RowKit Go.ChangeShapes Go.WideShapes Go.Proofs.YtggldnbhmebcpaaGreatDoorW.PrintWords Go.Proofs.YtggldnbhmebcpaaGreatDoorW.PrintLast Go.Proofs.YtggldnbhmebcpaaGreatDoorW.PrintMore
attribute [local go_sem] max2_int min2_int max_two min_two max_three min_three max_four min_four
def fndI (l : List Int) (a : Int) : Int := if a ∈ l then (l.idxOf a : Int) else -1
def imgs (base : List Int) (n : Nat) : List Int := (List.range n).map (fun b : Nat => fndI base (b : Int))
def kidI (base : List Int) (p : Nat) (k : Int) : Int := if (p : Int) ≤ fndI base k then -1 else fndI base k
theorem imgs_nil (n : Nat) : imgs [] n = List.replicate n (-1) := by
  refine List.ext_getElem (by simp [imgs]) fun i h1 h2 => ?_
  simp [imgs, fndI]
theorem imgs_len (base : List Int) (n : Nat) : (imgs base n).length = n := by simp [imgs]
theorem imgs_rd {base : List Int} {n k : Nat} (h : k < n) : rd (imgs base n) (k : Int) = fndI base (k : Int) := by
  rw [rd_eq (by rw [imgs_len]; exact h)]
  simp [imgs]
theorem idx_snoc {l : List Int} {x y : Int} : (l ++ [x]).idxOf y = if y ∈ l then l.idxOf y else if x = y then l.length else l.length + 1 := by
  rw [List.idxOf_append]
  split
  · rfl
  · by_cases e : x = y
    · subst e; simp
    · rw [if_neg e, List.idxOf_cons, beq_false_of_ne e]
      simp only [cond_false, List.idxOf_nil]
      omega
theorem fnd_snoc {l : List Int} {x y : Int} : fndI (l ++ [x]) y = if y ∈ l then fndI l y else if x = y then (l.length : Int) else -1 := by
  unfold fndI
  by_cases h : y ∈ l
  · rw [if_pos (by simp [h]), if_pos h, if_pos h, idx_snoc, if_pos h]
  · rw [if_neg h]
    by_cases e : x = y
    · rw [if_pos (by simp [e]), if_pos e, idx_snoc, if_neg h, if_pos e]
    · rw [if_neg (by simp [h]; exact fun h2 => e h2.symm), if_neg e]
theorem imgs_step {l : List Int} {x : Int} {n : Nat} (hx : x = -1 ∨ (0 ≤ x ∧ x < (n : Int) ∧ x ∉ l)) : imgs (l ++ [x]) n = if 0 ≤ x then (imgs l n).set x.toNat (l.length : Int) else imgs l n := by
  refine List.ext_getElem (by split <;> simp [imgs]) fun i h1 h2 => ?_
  have hi : i < n := by simpa [imgs] using h1
  have e1 : (imgs (l ++ [x]) n)[i] = fndI (l ++ [x]) (i : Int) := by simp [imgs]
  have e2 : (imgs l n)[i]'(by rw [imgs_len]; exact hi) = fndI l (i : Int) := by simp [imgs]
  rw [e1, fnd_snoc]
  rcases hx with rfl | ⟨h0, h1', h2'⟩
  · have hn : ¬ (-1 : Int) = (i : Int) := by omega
    simp only [show ¬ (0 : Int) ≤ -1 from by omega, if_false]
    rw [e2, if_neg hn]
    split
    · rfl
    · unfold fndI; rw [if_neg (by assumption)]
  · simp only [h0, if_true]
    by_cases e : x.toNat = i
    · subst e
      have hxx : ((x.toNat : Nat) : Int) = x := Int.toNat_of_nonneg h0
      rw [hxx, if_neg h2', if_pos rfl, List.getElem_set_self]
    · rw [List.getElem_set_ne e, e2]
      have hxi : ¬ x = (i : Int) := by omega
      by_cases hy : (i : Int) ∈ l
      · rw [if_pos hy]
      · rw [if_neg hy, if_neg hxi]; unfold fndI; rw [if_neg hy]
end Go.Proofs.YtggldnbhmebcpaaGreatDoor.L
end
section
namespace Go.Proofs.YtggldnbhmebcpaaGreatDoor.L
open Go.RowKit Go.ChangeShapes Go.WideShapes Go.Proofs.YtggldnbhmebcpaaGreatDoorW.PrintWords Go.Proofs.YtggldnbhmebcpaaGreatDoorW.PrintLast Go.Proofs.YtggldnbhmebcpaaGreatDoorW.PrintMore
attribute [local go_sem] max2_int min2_int max_two min_two max_three min_three max_four min_four
def kdI (im : List Int) (p : Nat) (k : Int) : Int := if (p : Int) ≤ rd im k then -1 else rd im k
theorem and_left2 {a b c : Prop} (h : a ∧ b ∧ c) : (a ∧ b) ∧ c := ⟨⟨h.1, h.2.1⟩, h.2.2⟩
def OpOf (f t : Node) (ks : List Int) (b : Int) (o : Opn) : Prop :=
 (o = ⟨1, b, [], [], nodez⟩ ∧ diffL f t = [] ∧ (∀ x ∈ ks, x ≠ -1) ∧ ks = t.kids) ∨
 (¬ (diffL f t = [] ∧ (∀ x ∈ ks, x ≠ -1) ∧ ks = t.kids) ∧ ∃ l, MInv ks t.kids l ks.length t.kids.length ∧ o = ⟨2, b, diffL f t, l, nodez⟩)
def OpPost (f t : Node) (ks : List Int) (b : Int) (w : World) (e : Ending) (w' : World) : Prop :=
 ∃ (o : Opn) (v1 v2 : Value), OpOf f t ks b o ∧ e = .returned (.agg #[.int .i64 o.kind, .int .i64 o.base, v1, v2, .int .i64 0, .slice none 0 0, .slice none 0 0, .slice none 0 0]) ∧
  kOpn.M w' w.heap.size (fun _ => True) o [.int .i64 o.kind, .int .i64 o.base, v1, v2, .int .i64 o.node.kind, .slice none 0 0, .slice none 0 0, .slice none 0 0] ∧ o.node = nodez ∧ Below w.heap.size w w'
def wholeK (ks : List Int) (i : Nat) : Bool := decide (∀ x ∈ ks.take i, x ≠ -1)
theorem wholeK_succ {ks : List Int} {i : Nat} (hi : i < ks.length) : wholeK ks (i + 1) = (wholeK ks i && (rd ks (i : Int) != -1)) := by
 unfold wholeK
 rw [take_succ_rd hi]
 by_cases h : rd ks (i : Int) = -1
 ·rw [h]
  simp
 ·have : (rd ks (i : Int) != -1) = true := by simp [h]
  rw [this, Bool.and_true]
  refine decide_eq_decide.2 ⟨fun hh x hx => hh x (List.mem_append.2 (.inl hx)), fun hh x hx => ?_⟩
  rcases List.mem_append.1 hx with h1 | h1
  ·exact hh x h1
  ·rw [List.mem_singleton.1 h1]; exact h
def nilsK (n : Nat) : List Int := List.replicate n 0
theorem nilsK_set {ks : List Int} {i : Nat} (hi : i < ks.length) : (ks.take i ++ nilsK (ks.length - i)).set i (rd ks (i : Int)) = ks.take (i + 1) ++ nilsK (ks.length - (i + 1)) := by
 have hl : (ks.take i).length = i := by rw [List.length_take]; omega
 rw [List.set_append_right _ _ (by omega), hl, Nat.sub_self, take_succ_rd hi, show ks.length - i = (ks.length - (i + 1)) + 1 from by omega]
 show ks.take i ++ (List.replicate (ks.length - (i + 1) + 1) 0).set 0 _ = _
 rw [List.replicate_succ, List.set_cons_zero, List.append_assoc]; rfl
structure KidS (w4 : World) (ks : List Int) (v : Value) (i : Nat) (W : World) : Prop where
 row : (Kd.int .i64).R 3 W w4.heap.size (fun _ => True) v (ks.take i ++ nilsK (ks.length - i))
 below : Below w4.heap.size w4 W
theorem KidS.put {w4 W : World} {ks : List Int} {g n c i : Nat} (h : KidS w4 ks (.slice (some ⟨g, 0, none⟩) n c) i W) (hi : i < ks.length) (hn : n = ks.length) : KidS w4 ks (.slice (some ⟨g, 0, none⟩) n c) (i + 1) (W.setCell ⟨g, i, none⟩ (.int .i64 (rd ks (i : Int)))) := by
 obtain ⟨h1, -, h3⟩ := ints_store h.row i (by omega) (rd ks (i : Int))
 rw [nilsK_set hi] at h1
 exact ⟨h1, below_set h.below h3⟩
theorem KidS.put2 {w4 W : World} {ks : List Int} {g n c i : Nat} (h : KidS w4 ks (.slice (some ⟨g, 0, none⟩) n c) i W) (hi : i < ks.length) (hn : n = ks.length) (z : Int) : KidS w4 ks (.slice (some ⟨g, 0, none⟩) n c) (i + 1) ((W.setCell ⟨g, i, none⟩ (.int .i64 z)).setCell ⟨g, i, none⟩ (.int .i64 (rd ks (i : Int)))) := by
 obtain ⟨h1, -, h3⟩ := ints_store h.row i (by omega) z
 obtain ⟨h4, -, h6⟩ := ints_store h1 i (by omega) (rd ks (i : Int))
 rw [List.set_set, nilsK_set hi] at h4
 exact ⟨h4, below_set (below_set h.below h3) h3⟩
theorem cell_set {W : World} {base g n c i : Nat} {xs : List Int} (h : (Kd.int .i64).R 3 W base (fun _ => True) (.slice (some ⟨g, 0, none⟩) n c) xs) (hi : i < n) (hx : i < xs.length) (z : Int) :
  (W.setCell ⟨g, i, none⟩ (.int .i64 z)).cell? ⟨g, i, none⟩ = some (.int .i64 z) ∧ (W.setCell ⟨g, i, none⟩ (.int .i64 z)).frozen? ⟨g, i, none⟩ = false := by
 obtain ⟨h1, -, -⟩ := ints_store h i hi z
 have h2 := ints_cell h1 i hi
 rw [rd_set1 hx] at h2
 exact h2
set_option maxRecDepth 100000 in
set_option maxHeartbeats 8000000 in
theorem dop_any (b : Int) (f t : Node) (A1 : Option Addr) (c1 : Nat) (A2 : Option Addr) (c2 : Nat) (A3 : Option Addr) (c3 : Nat) (B1 : Option Addr) (d1 : Nat) (B2 : Option Addr) (d2 : Nat) (B3 : Option Addr) (d3 : Nat) (Im : Option Addr) (ci : Nat) (im : List Int) (p : Nat) (w : World)
  (h : NodeC w f A1 c1 A2 c2 A3 c3) (h' : NodeC w t B1 d1 B2 d2 B3 d3) (hI : (Kd.int .i64).C w Im im.length im) (hk : ∀ k ∈ f.kids, 0 ≤ k ∧ k < (im.length : Int)) (hs : Small f) (hfk : f.kids.length ≤ 400000) (htk : t.kids.length ≤ 400000) :
  Calls Tryz.prog 29 #[.int .i64 b, .agg #[.int .i64 f.kind, .slice A1 f.ints.length c1, .slice A2 f.texts.length c2, .slice A3 f.kids.length c3], .agg #[.int .i64 t.kind, .slice B1 t.ints.length d1, .slice B2 t.texts.length d2, .slice B3 t.kids.length d3], .slice Im im.length ci, .int .i64 (p : Int)] w (OpPost f t (f.kids.map (kdI im p)) b w) := by
 have HN := Aside0.mk h
 have HM := Aside0.mk h'
 have HI := Aside0.mk hI
 have HK := Aside0.mk hk
 have HS := Aside0.mk hs
 have hun := Tryz.underlying42
 have huo := Tryz.underlying44
 have hA0 := below_alloc (Below.refl w.heap.size w) (.cells #[.int .i64 f.kind, .slice A1 f.ints.length c1, .slice A2 f.texts.length c2, .slice A3 f.kids.length c3] 42)
 obtain ⟨wa, hwa⟩ : ∃ wa, wa = w.alloc (.cells #[.int .i64 f.kind, .slice A1 f.ints.length c1, .slice A2 f.texts.length c2, .slice A3 f.kids.length c3] 42) := ⟨_, rfl⟩
 have hza : wa.heap.size = w.heap.size + 1 := by rw [hwa]; simp
 have x0 := box_cell w _ rfl #[.int .i64 f.kind, .slice A1 f.ints.length c1, .slice A2 f.texts.length c2, .slice A3 f.kids.length c3] 42 0 _ rfl
 have x1 := box_cell w _ rfl #[.int .i64 f.kind, .slice A1 f.ints.length c1, .slice A2 f.texts.length c2, .slice A3 f.kids.length c3] 42 1 _ rfl
 have x2 := box_cell w _ rfl #[.int .i64 f.kind, .slice A1 f.ints.length c1, .slice A2 f.texts.length c2, .slice A3 f.kids.length c3] 42 2 _ rfl
 have x3 := box_cell w _ rfl #[.int .i64 f.kind, .slice A1 f.ints.length c1, .slice A2 f.texts.length c2, .slice A3 f.kids.length c3] 42 3 _ rfl
 rw [← hwa] at x0 x1 x2 x3 hA0
 have hA1 := below_alloc (Below.refl wa.heap.size wa) (.cells #[.int .i64 t.kind, .slice B1 t.ints.length d1, .slice B2 t.texts.length d2, .slice B3 t.kids.length d3] 42)
 obtain ⟨wb, hwb⟩ : ∃ wb, wb = wa.alloc (.cells #[.int .i64 t.kind, .slice B1 t.ints.length d1, .slice B2 t.texts.length d2, .slice B3 t.kids.length d3] 42) := ⟨_, rfl⟩
 have hzb : wb.heap.size = w.heap.size + 1 + 1 := by rw [hwb]; simp [hza]
 have y0 := box_cell wa _ hza #[.int .i64 t.kind, .slice B1 t.ints.length d1, .slice B2 t.texts.length d2, .slice B3 t.kids.length d3] 42 0 _ rfl
 have y1 := box_cell wa _ hza #[.int .i64 t.kind, .slice B1 t.ints.length d1, .slice B2 t.texts.length d2, .slice B3 t.kids.length d3] 42 1 _ rfl
 have y2 := box_cell wa _ hza #[.int .i64 t.kind, .slice B1 t.ints.length d1, .slice B2 t.texts.length d2, .slice B3 t.kids.length d3] 42 2 _ rfl
 have y3 := box_cell wa _ hza #[.int .i64 t.kind, .slice B1 t.ints.length d1, .slice B2 t.texts.length d2, .slice B3 t.kids.length d3] 42 3 _ rfl
 rw [← hwb] at y0 y1 y2 y3 hA1
 have hA2 := below_alloc (Below.refl wb.heap.size wb) (.cells #[.int .i64 0, .int .i64 0, .slice none 0 0, .slice none 0 0, .int .i64 0, .slice none 0 0, .slice none 0 0, .slice none 0 0] 44)
 have HG0 := blk_new wb (.cells #[.int .i64 0, .int .i64 0, .slice none 0 0, .slice none 0 0, .int .i64 0, .slice none 0 0, .slice none 0 0, .slice none 0 0] 44)
 rw [hzb] at HG0
 replace x0 := pw_cell_below (below_step hA1 hA2) x0
 replace x1 := pw_cell_below (below_step hA1 hA2) x1
 replace x2 := pw_cell_below (below_step hA1 hA2) x2
 replace x3 := pw_cell_below (below_step hA1 hA2) x3
 replace y0 := pw_cell_below hA2 y0
 replace y1 := pw_cell_below hA2 y1
 replace y2 := pw_cell_below hA2 y2
 replace y3 := pw_cell_below hA2 y3
 have hB := below_step hA0 (below_step hA1 hA2)
 obtain ⟨w4, hw4⟩ : ∃ w4, w4 = wb.alloc (.cells #[.int .i64 0, .int .i64 0, .slice none 0 0, .slice none 0 0, .int .i64 0, .slice none 0 0, .slice none 0 0, .slice none 0 0] 44) := ⟨_, rfl⟩
 have hz4 : w4.heap.size = w.heap.size + 1 + 1 + 1 := by rw [hw4]; simp [hzb]
 rw [← hw4] at x0 x1 x2 x3 y0 y1 y2 y3 hB HG0
 have HB := Aside0.mk hB
 have HG := Aside0.mk HG0
 have HX := Aside0.mk (And.intro x0 (And.intro x1 (And.intro x2 x3)))
 have HY := Aside0.mk (And.intro y0 (And.intro y1 (And.intro y2 y3)))
 have hs3 := hs.2.2
 clear h h' hI hk hs hA0 hA1 hA2 HG0 hB
 go_enter Tryz.func29, Tryz.ntmps29
 obtain ⟨ks, hks⟩ : ∃ ks, ks = f.kids.map (kdI im p) := ⟨_, rfl⟩
 rw [← hks]
 have HKl := Aside0.mk (show ks.length = f.kids.length from by rw [hks, List.length_map])
 have HKr := Aside0.mk (fun (i : Nat) (hi : i < f.kids.length) => (show rd ks (i : Int) = kdI im p (rd f.kids (i : Int)) from by rw [hks, rd_eq (by rw [List.length_map]; exact hi), List.getElem_map, rd_eq hi]))
 clear hks x0 x1 x2 y0 y1 y2 y3
 go_wp2_with (refine Kd.R_make (Kd.int .i64) (w0 := w4) w4.heap.size 3 rfl (N := 20) rfl 40 _ _ rfl (f.kids.length : Int) rfl rfl Tryz.underlying40 (.int .i64 0) 8 info_int rfl (by decide) (by omega) 0 (ok := fun _ => True) (okp := fun _ => True) rfl (fun _ hk => hk) trivial (by omega) (by omega) (by rw [hw4, hwb, hwa]; exact Below.refl _ _) (by rw [hw4, hwb, hwa]; exact Nat.le_refl _) ?_; intro v5 w5 ho5 hb5 hg5 hn5; rw [Int.toNat_natCast] at ho5; have x3' := pw_cell_below hb5 HX.out.2.2.2; have HK0 := Aside0.mk (show KidS w4 ks v5 0 w5 from ⟨by rw [List.take_zero, List.nil_append, Nat.sub_zero, HKl.out]; exact ho5, hb5⟩); clear ho5 hb5 hg5 hn5)
 clear x3 x3' hza hzb hw4 hwb hwa
 obtain ⟨Ak, ck, hv⟩ := Kd.R_slice HK0.out.row
 rw [show (ks.take 0 ++ nilsK (ks.length - 0)).length = f.kids.length from by rw [List.take_zero, List.nil_append, Nat.sub_zero, HKl.out]; simp [nilsK]] at hv
 subst hv
 go_loopw [24, 12] (fun v24 v12 W => ∃ i : Nat, i ≤ f.kids.length ∧ v24 = .int .i64 i ∧ v12 = .bool (wholeK ks i) ∧ Aside0 (KidS w4 ks (.slice Ak f.kids.length ck) i W)) (fun v24 _ _ => f.kids.length - (intOf v24).toNat)
 case atStart => exact ⟨0, by omega, rfl, by unfold wholeK; rw [List.take_zero]; simp, HK0⟩
 case round =>
  clear HK0
  obtain ⟨i, hi, rfl, rfl, HO⟩ := hrel
  by_cases hlt : i < f.kids.length
  ·have hlk : i < ks.length := by have := HKl.out; omega
   have hlx : i < (ks.take i ++ nilsK (ks.length - i)).length := by rw [List.length_append, List.length_take]; simp [nilsK]; omega
   obtain ⟨g, hgA⟩ : ∃ g, Ak = some ⟨g, 0, none⟩ := by
    obtain ⟨g, cap, e, -⟩ := Kd.R_form HO.out.row (by omega)
    injection e with e1
    exact ⟨g, e1⟩
   subst hgA
   have HW := Aside0.mk (below_step HB.out HO.out.below)
   obtain ⟨ad, rfl, z0⟩ := at_nat (Kd.C_below HN.out.k HW.out) i hlt
   have hkk := HK.out (rd f.kids (i : Int)) (rd_mem hlt)
   have hRd := HKr.out i hlt
   unfold kdI at hRd
   obtain ⟨kk, hkk2⟩ : ∃ kk : Nat, rd f.kids (i : Int) = (kk : Int) := ⟨(rd f.kids (i : Int)).toNat, by omega⟩
   rw [hkk2] at z0 hkk hRd
   have hki : kk < im.length := by omega
   obtain ⟨bd, rfl, z1⟩ := at_nat (Kd.C_below HI.out HW.out) kk hki
   have c0 := ints_cell HO.out.row i hlt
   have c6 := c0.1
   have f6 := c0.2
   have HSu := Aside0.mk (wholeK_succ hlk)
   clear c0 hkk2 hkk
   generalize rd im (kk : Int) = z at z1 hRd
   have hc7 := cell_set HO.out.row hlt hlx z
   have c7 := hc7.1
   have f7 := hc7.2
   clear hc7
   by_cases hat : (p : Int) ≤ z
   ·have d1' : decide ((p : Int) ≤ z) = true := decide_eq_true hat
    rw [if_pos hat] at hRd
    have HP := Aside0.mk (show KidS w4 ks (.slice (some ⟨g, 0, none⟩) f.kids.length ck) (i + 1) ((wr.setCell ⟨g, i, none⟩ (.int .i64 z)).setCell ⟨g, i, none⟩ (.int .i64 (-1))) from hRd ▸ HO.out.put2 hlk HKl.out.symm z)
    have c8 := (cell_set (ints_store HO.out.row i hlt z).1 hlt (by rw [List.length_set]; exact hlx) (-1)).1
    rw [hRd] at HSu
    clear hat hRd
    cases hw : wholeK ks i with
    | true =>
     rw [hw] at HSu
     go_wp2
     go_roundw
     case rel => exact ⟨i + 1, by omega, by go_num, by rw [HSu.out]; rfl, HP⟩
     case measure => simp [intOf]; omega
    | false =>
     rw [hw] at HSu
     go_wp2
     go_roundw
     case rel => exact ⟨i + 1, by omega, by go_num, by rw [HSu.out]; rfl, HP⟩
     case measure => simp [intOf]; omega
   ·have d1' : decide ((p : Int) ≤ z) = false := decide_eq_false hat
    rw [if_neg hat] at hRd
    have HP := Aside0.mk (show KidS w4 ks (.slice (some ⟨g, 0, none⟩) f.kids.length ck) (i + 1) (wr.setCell ⟨g, i, none⟩ (.int .i64 z)) from hRd ▸ HO.out.put hlk HKl.out.symm)
    rw [hRd] at HSu
    clear hat hRd
    cases hw : wholeK ks i with
    | true =>
     rw [hw, Bool.true_and] at HSu
     cases hz : (z != -1) with
     | true =>
      rw [hz] at HSu
      go_wp2
      go_roundw
      case rel => exact ⟨i + 1, by omega, by go_num, by rw [HSu.out], HP⟩
      case measure => simp [intOf]; omega
     | false =>
      rw [hz] at HSu
      go_wp2
      go_roundw
      case rel => exact ⟨i + 1, by omega, by go_num, by rw [HSu.out], HP⟩
      case measure => simp [intOf]; omega
    | false =>
     rw [hw, Bool.false_and] at HSu
     go_wp2
     go_roundw
     case rel => exact ⟨i + 1, by omega, by go_num, by rw [HSu.out], HP⟩
     case measure => simp [intOf]; omega
  ·obtain rfl : i = f.kids.length := by omega
   have HRk := Aside0.mk (show (Kd.int .i64).R 3 wr w4.heap.size (fun _ => True) (.slice Ak ks.length ck) ks from by
    have h1 := HO.out.row
    rw [← HKl.out, List.take_length, Nat.sub_self, show ks ++ nilsK 0 = ks from List.append_nil _] at h1
    exact h1)
   have HBw := Aside0.mk HO.out.below
   have hwh : wholeK ks f.kids.length = decide (∀ x ∈ ks, x ≠ -1) := by unfold wholeK; rw [← HKl.out, List.take_length]
   rw [hwh, ← HKl.out]
   have x0 := pw_cell_below HBw.out HX.out.1
   have x1 := pw_cell_below HBw.out HX.out.2.1
   have x2 := pw_cell_below HBw.out HX.out.2.2.1
   have x3 := pw_cell_below HBw.out HX.out.2.2.2
   have y0 := pw_cell_below HBw.out HY.out.1
   have y1 := pw_cell_below HBw.out HY.out.2.1
   have y2 := pw_cell_below HBw.out HY.out.2.2.1
   have y3 := pw_cell_below HBw.out HY.out.2.2.2
   have HWw := Aside0.mk (below_step HB.out HBw.out)
   have hksl : ks.length ≤ 400000 := by have := HKl.out; omega
   clear HO hwh
   go_wp2_with fail
   refine (fdiff_any f t A1 c1 A2 c2 A3 c3 B1 d1 B2 d2 B3 d3 wr (HN.out.below HWw.out) (HM.out.below HWw.out) HS.out).mono ?_
   rintro e w8 ⟨Ad, cd, rfl, hRd8, hB8⟩
   have HRk8 := Aside0.mk (Kd.R_below HRk.out hB8)
   have HRd8 := Aside0.mk (Kd.R_lower hRd8 HBw.out.size)
   have HB8 := Aside0.mk (below_step HBw.out hB8)
   replace y3 := pw_cell_below hB8 y3
   clear hRd8 hB8 HRk HBw HWw x0 x1 x2 x3 y0 y1 y2
   generalize hD : diffL f t = D at HRd8
   have HD := Aside0.mk hD
   clear hD
   by_cases hD0 : D = []
   ·have hd0 : ((D.length : Int) == 0) = true := by rw [hD0]; rfl
    have HD0 := Aside0.mk hD0
    clear hD0
    by_cases hwk : ∀ x ∈ ks, x ≠ -1
    ·rw [decide_eq_true hwk]
     have HWk := Aside0.mk hwk
     clear hwk
     go_wp2_with fail
     refine (sleq_any Ak ck ks B3 d3 t.kids w8 (Kd.R_reads' HRk8.out).2.2 (HM.out.below (below_step HB.out HB8.out)).k (by omega)).mono ?_
     rintro e w9 ⟨rfl, hB9⟩
     have HRk9 := Aside0.mk (Kd.R_below HRk8.out hB9)
     have HRd9 := Aside0.mk (Kd.R_below HRd8.out hB9)
     have HB9 := Aside0.mk (below_step HB8.out hB9)
     replace y3 := pw_cell_below hB9 y3
     clear hB9
     by_cases heq : ks = t.kids
     ·have HAll := Aside0.mk (And.intro HD0.out (And.intro HWk.out heq))
      rw [decide_eq_true heq]
      clear heq
      have HG9 := blk_below HG.out HB9.out
      obtain ⟨⟨e0, e0f⟩, e1, e1f, e2, e2f, e3, e3f, e4, e4f, e5, e5f, e6, e6f, e7, e7f⟩ := and_left2 (slots8 HG9 (.int .i64 1) (.int .i64 b) (.slice none 0 0) (.slice none 0 0) (.int .i64 0) (.slice none 0 0) (.slice none 0 0))
      have HGz := Aside0.mk HG9
      have HB10 := Aside0.mk (below_step HB.out HB9.out)
      clear HG9 y3
      go_wp2
      clear e0 e0f e1 e1f e2 e2f e3 e3f e4 e4f e5 e5f e6 e6f e7 e7f
      obtain ⟨g0, g1, g2, g3, g4, g5, g6, g7⟩ := blk8 (box8 HGz.out (.int .i64 1) (.int .i64 b) (.slice none 0 0) (.slice none 0 0) (.int .i64 0) (.slice none 0 0) (.slice none 0 0) (.slice none 0 0))
      refine bodyPost_ret (v := .agg #[.int .i64 1, .int .i64 b, .slice none 0 0, .slice none 0 0, .int .i64 0, .slice none 0 0, .slice none 0 0, .slice none 0 0]) (by simp [results, Tryz.results29, go_sem, g0, g1, g2, g3, g4, g5, g6, g7]) rfl ?_
      exact ⟨⟨1, b, [], [], nodez⟩, _, _, .inl ⟨rfl, by rw [HD.out]; exact HAll.out.1, HAll.out.2.1, HAll.out.2.2⟩, rfl, kOpn_mkM (o := ⟨1, b, [], [], nodez⟩) (Kd.R_nil _ _ _ _ _) (Kd.R_nil _ _ _ _ _) (nodez_M _ _), rfl, below_set8 HB10.out (by omega) _ _ _ _ _ _ _ _⟩
     ·rw [decide_eq_false heq]
      have HEq := Aside0.mk heq
      clear heq
      go_wp2_with fail
      refine (make_any Ak ck ks B3 d3 t.kids w9 (Kd.R_reads' HRk9.out).2.2 (HM.out.below (below_step HB.out HB9.out)).k hksl htk).mono ?_
      rintro e w10 ⟨vE, l, rfl, hRl, hB10, hMi⟩
      obtain ⟨Ae, ce, hvE⟩ := Kd.R_slice hRl
      subst hvE
      have HG10 := blk_below (blk_below HG.out HB9.out) hB10
      have HRl := Aside0.mk (Kd.R_lower (Kd.R_lower hRl HB9.out.size) HB.out.size)
      have HRd10 := Aside0.mk (Kd.R_lower (Kd.R_below HRd9.out hB10) HB.out.size)
      have HB10 := Aside0.mk (below_step (below_step HB.out HB9.out) hB10)
      have HMi := Aside0.mk hMi
      obtain ⟨⟨e0, e0f⟩, e1, e1f, e2, e2f, e3, e3f, e4, e4f, e5, e5f, e6, e6f, e7, e7f⟩ := and_left2 (slots8 HG10 (.int .i64 2) (.int .i64 b) (.slice Ad D.length cd) (.slice Ae l.length ce) (.int .i64 0) (.slice none 0 0) (.slice none 0 0))
      have HGz := Aside0.mk HG10
      have HNeg := Aside0.mk (fun (hh : D = [] ∧ (∀ x ∈ ks, x ≠ -1) ∧ ks = t.kids) => HEq.out hh.2.2)
      clear hRl hB10 hMi HG10 y3
      go_wp2
      clear e0 e0f e1 e1f e2 e2f e3 e3f e4 e4f e5 e5f e6 e6f e7 e7f
      obtain ⟨g0, g1, g2, g3, g4, g5, g6, g7⟩ := blk8 (box8 HGz.out (.int .i64 2) (.int .i64 b) (.slice Ad D.length cd) (.slice Ae l.length ce) (.int .i64 0) (.slice none 0 0) (.slice none 0 0) (.slice none 0 0))
      refine bodyPost_ret (v := .agg #[.int .i64 2, .int .i64 b, .slice Ad D.length cd, .slice Ae l.length ce, .int .i64 0, .slice none 0 0, .slice none 0 0, .slice none 0 0]) (by simp [results, Tryz.results29, go_sem, g0, g1, g2, g3, g4, g5, g6, g7]) rfl ?_
      exact ⟨⟨2, b, D, l, nodez⟩, _, _, .inr ⟨by rw [HD.out]; exact HNeg.out, l, HMi.out, by rw [HD.out]⟩, rfl, kOpn_mkM (o := ⟨2, b, D, l, nodez⟩) (R_set8 HRd10.out HGz.out (by decide) _ _ _ _ _ _ _ _) (R_set8 HRl.out HGz.out (by decide) _ _ _ _ _ _ _ _) (nodez_M _ _), rfl, below_set8 HB10.out (by omega) _ _ _ _ _ _ _ _⟩
    ·rw [decide_eq_false hwk]
     have HWk := Aside0.mk hwk
     clear hwk
     go_wp2_with fail
     refine (make_any Ak ck ks B3 d3 t.kids w8 (Kd.R_reads' HRk8.out).2.2 (HM.out.below (below_step HB.out HB8.out)).k hksl htk).mono ?_
     rintro e w10 ⟨vE, l, rfl, hRl, hB10, hMi⟩
     obtain ⟨Ae, ce, hvE⟩ := Kd.R_slice hRl
     subst hvE
     have HG10 := blk_below (blk_below HG.out HB8.out) hB10
     have HRl := Aside0.mk (Kd.R_lower (Kd.R_lower hRl HB8.out.size) HB.out.size)
     have HRd10 := Aside0.mk (Kd.R_lower (Kd.R_below HRd8.out hB10) HB.out.size)
     have HB10 := Aside0.mk (below_step (below_step HB.out HB8.out) hB10)
     have HMi := Aside0.mk hMi
     obtain ⟨⟨e0, e0f⟩, e1, e1f, e2, e2f, e3, e3f, e4, e4f, e5, e5f, e6, e6f, e7, e7f⟩ := and_left2 (slots8 HG10 (.int .i64 2) (.int .i64 b) (.slice Ad D.length cd) (.slice Ae l.length ce) (.int .i64 0) (.slice none 0 0) (.slice none 0 0))
     have HGz := Aside0.mk HG10
     have HNeg := Aside0.mk (fun (hh : D = [] ∧ (∀ x ∈ ks, x ≠ -1) ∧ ks = t.kids) => HWk.out hh.2.1)
     clear hRl hB10 hMi HG10 y3
     go_wp2
     clear e0 e0f e1 e1f e2 e2f e3 e3f e4 e4f e5 e5f e6 e6f e7 e7f
     obtain ⟨g0, g1, g2, g3, g4, g5, g6, g7⟩ := blk8 (box8 HGz.out (.int .i64 2) (.int .i64 b) (.slice Ad D.length cd) (.slice Ae l.length ce) (.int .i64 0) (.slice none 0 0) (.slice none 0 0) (.slice none 0 0))
     refine bodyPost_ret (v := .agg #[.int .i64 2, .int .i64 b, .slice Ad D.length cd, .slice Ae l.length ce, .int .i64 0, .slice none 0 0, .slice none 0 0, .slice none 0 0]) (by simp [results, Tryz.results29, go_sem, g0, g1, g2, g3, g4, g5, g6, g7]) rfl ?_
     exact ⟨⟨2, b, D, l, nodez⟩, _, _, .inr ⟨by rw [HD.out]; exact HNeg.out, l, HMi.out, by rw [HD.out]⟩, rfl, kOpn_mkM (o := ⟨2, b, D, l, nodez⟩) (R_set8 HRd10.out HGz.out (by decide) _ _ _ _ _ _ _ _) (R_set8 HRl.out HGz.out (by decide) _ _ _ _ _ _ _ _) (nodez_M _ _), rfl, below_set8 HB10.out (by omega) _ _ _ _ _ _ _ _⟩
   ·have hd0 : ((D.length : Int) == 0) = false := by
     cases D with
     | nil => exact absurd rfl hD0
     | cons q r => simp; omega
    have HD0 := Aside0.mk hD0
    clear hD0
    go_wp2_with fail
    refine (make_any Ak ck ks B3 d3 t.kids w8 (Kd.R_reads' HRk8.out).2.2 (HM.out.below (below_step HB.out HB8.out)).k hksl htk).mono ?_
    rintro e w10 ⟨vE, l, rfl, hRl, hB10, hMi⟩
    obtain ⟨Ae, ce, hvE⟩ := Kd.R_slice hRl
    subst hvE
    have HG10 := blk_below (blk_below HG.out HB8.out) hB10
    have HRl := Aside0.mk (Kd.R_lower (Kd.R_lower hRl HB8.out.size) HB.out.size)
    have HRd10 := Aside0.mk (Kd.R_lower (Kd.R_below HRd8.out hB10) HB.out.size)
    have HB10 := Aside0.mk (below_step (below_step HB.out HB8.out) hB10)
    have HMi := Aside0.mk hMi
    obtain ⟨⟨e0, e0f⟩, e1, e1f, e2, e2f, e3, e3f, e4, e4f, e5, e5f, e6, e6f, e7, e7f⟩ := and_left2 (slots8 HG10 (.int .i64 2) (.int .i64 b) (.slice Ad D.length cd) (.slice Ae l.length ce) (.int .i64 0) (.slice none 0 0) (.slice none 0 0))
    have HGz := Aside0.mk HG10
    have HNeg := Aside0.mk (fun (hh : D = [] ∧ (∀ x ∈ ks, x ≠ -1) ∧ ks = t.kids) => HD0.out hh.1)
    clear hRl hB10 hMi HG10 y3
    go_wp2
    clear e0 e0f e1 e1f e2 e2f e3 e3f e4 e4f e5 e5f e6 e6f e7 e7f
    obtain ⟨g0, g1, g2, g3, g4, g5, g6, g7⟩ := blk8 (box8 HGz.out (.int .i64 2) (.int .i64 b) (.slice Ad D.length cd) (.slice Ae l.length ce) (.int .i64 0) (.slice none 0 0) (.slice none 0 0) (.slice none 0 0))
    refine bodyPost_ret (v := .agg #[.int .i64 2, .int .i64 b, .slice Ad D.length cd, .slice Ae l.length ce, .int .i64 0, .slice none 0 0, .slice none 0 0, .slice none 0 0]) (by simp [results, Tryz.results29, go_sem, g0, g1, g2, g3, g4, g5, g6, g7]) rfl ?_
    exact ⟨⟨2, b, D, l, nodez⟩, _, _, .inr ⟨by rw [HD.out]; exact HNeg.out, l, HMi.out, by rw [HD.out]⟩, rfl, kOpn_mkM (o := ⟨2, b, D, l, nodez⟩) (R_set8 HRd10.out HGz.out (by decide) _ _ _ _ _ _ _ _) (R_set8 HRl.out HGz.out (by decide) _ _ _ _ _ _ _ _) (nodez_M _ _), rfl, below_set8 HB10.out (by omega) _ _ _ _ _ _ _ _⟩
end Go.Proofs.YtggldnbhmebcpaaGreatDoor.L
end
section
namespace Go.Proofs.YtggldnbhmebcpaaGreatDoor.L
open Go.RowKit Go.ChangeShapes Go.WideShapes Go.Proofs.YtggldnbhmebcpaaGreatDoorW.PrintWords Go.Proofs.YtggldnbhmebcpaaGreatDoorW.PrintLast Go.Proofs.YtggldnbhmebcpaaGreatDoorW.PrintMore
attribute [local go_sem] max2_int min2_int max_two min_two max_three min_three max_four min_four
structure RowsM (w0 W : World) (mb n : Nat) (f : Lit → Option Value) (tg : Nat → List UInt8) (rows : List UInt8 → List Int) : Prop where
  map : MapF Tryz.prog 9 W mb n f
  row : ∀ q, (Kd.int .i64).R 3 W w0.heap.size (fun k => tg k = q) ((f (.string q)).getD (.slice none 0 0)) (rows q)
  below : Below w0.heap.size w0 W
  ge : w0.heap.size ≤ mb
def tgN (tg : Nat → List UInt8) (N : Nat) (q : List UInt8) : Nat → List UInt8 := fun k => if k < N then tg k else q
section
variable {w0 W w1 w2 : World} {mb n : Nat} {f : Lit → Option Value} {tg : Nat → List UInt8} {rows : List UInt8 → List Int}
theorem RowsM.start (w0 : World) (tg : Nat → List UInt8) : RowsM w0 (w0.alloc (.map #[] 0)) w0.heap.size 0 (fun _ => none) tg (fun _ => []) :=
  ⟨MapF.made _ _ _, fun _ => Kd.R_nil _ _ _ _ _, below_alloc (Below.refl _ _) _, Nat.le_refl _⟩
theorem RowsM.later (h : RowsM w0 W mb n f tg rows) (hb : Below W.heap.size W w1) : RowsM w0 w1 mb n f tg rows :=
  ⟨h.map.below hb, fun q => Kd.R_below (h.row q) hb, below_step h.below hb, h.ge⟩
theorem RowsM.lend (h : RowsM w0 W mb n f tg rows) (q : List UInt8) : (Kd.int .i64).R 3 W w0.heap.size (fun k => tgN tg W.heap.size q k = q) ((f (.string q)).getD (.slice none 0 0)) (rows q) :=
  Kd.R_mono (Kd.R_bound (h.row q)) (fun k hk => by unfold tgN; rw [if_pos hk.2.2.1]; exact hk.1)
theorem RowsM.fresh (q : List UInt8) : ∀ k, W.heap.size ≤ k → tgN tg W.heap.size q k = q := fun k hk => by unfold tgN; rw [if_neg (by omega)]
theorem RowsM.push (h : RowsM w0 W mb n f tg rows) {q : List UInt8} {x : Int} {v1 : Value} (hR : (Kd.int .i64).R 3 w1 w0.heap.size (fun k => tgN tg W.heap.size q k = q) v1 (rows q ++ [x])) (hB : Below w0.heap.size w0 w1)
    (hg : W.grownBy w1 ((f (.string q)).getD (.slice none 0 0)).ownBlock) :
    MapF Tryz.prog 9 w1 mb n f ∧ ∀ w2, MapF Tryz.prog 9 w2 mb (n + 1) (putF f (.string q) v1) → w1.grownBy w2 (some mb) → RowsM w0 w2 mb (n + 1) (putF f (.string q) v1) (tgN tg W.heap.size q) (fun p => if p = q then rows q ++ [x] else rows p) := by
  have hM := h.map.kept hg (h.map.ne_row (h.row q))
  refine ⟨hM, fun w2 hM2 hg2 => ⟨hM2, fun p => ?_, below_map hB hB.size hg2 h.ge, h.ge⟩⟩
  by_cases hp : p = q
  · subst hp
    rw [putF_same, if_pos rfl]
    exact R_past_map hR hM hg2
  · rw [putF_other _ _ (fun e => hp (by injection e)), if_neg hp]
    refine R_past_map ?_ hM hg2
    refine Kd.R_mono (Kd.R_grown (Kd.R_bound (h.row p)) hg (fun k hk e => ?_)) (fun k hk => ?_)
    · have := (h.row q).1 k e.symm
      exact hp (hk.1.symm.trans this)
    · unfold tgN
      rw [if_pos hk.2.2.1]
      exact hk.1
end
structure FreeM (w0 W : World) (N mb n : Nat) (f : Lit → Option Value) (full : List UInt8 → List Int) (cut : List UInt8 → Nat) : Prop where
  map : MapF Tryz.prog 9 W mb n f
  row : ∀ q, cut q ≤ (full q).length ∧ ∃ A c, (Kd.int .i64).R 3 W w0.heap.size (fun k => k < N) (.slice A (full q).length c) (full q) ∧
    ∃ A' c', (f (.string q)).getD (.slice none 0 0) = .slice A' ((full q).length - cut q) c' ∧ (cut q < (full q).length → A' = A.map (fun a => a.add (cut q)) ∧ c' = c - cut q)
  below : Below w0.heap.size w0 W
  ge : w0.heap.size ≤ mb
section
variable {w0 W w1 : World} {N mb n : Nat} {f : Lit → Option Value} {full : List UInt8 → List Int} {cut : List UInt8 → Nat}
theorem RowsM.free {tg : Nat → List UInt8} (h : RowsM w0 W mb n f tg full) : FreeM w0 W W.heap.size mb n f full (fun _ => 0) :=
  ⟨h.map, fun q => by
    have hr := Kd.R_mono (Kd.R_bound (h.row q)) (fun k hk => hk.2.2.1) (ok' := fun k => k < W.heap.size)
    obtain ⟨A, c, e⟩ := Kd.R_slice hr
    rw [e] at hr
    refine ⟨Nat.zero_le _, A, c, hr, A, c, e, fun _ => ⟨?_, rfl⟩⟩
    cases A with
    | none => rfl
    | some a => simp [Addr.add], h.below, h.ge⟩
theorem FreeM.later (h : FreeM w0 W N mb n f full cut) (hb : Below W.heap.size W w1) : FreeM w0 w1 N mb n f full cut :=
  ⟨h.map.below hb, fun q => by
    obtain ⟨h1, A, c, h2, h3⟩ := h.row q
    exact ⟨h1, A, c, Kd.R_below h2 hb, h3⟩, below_step h.below hb, h.ge⟩
theorem FreeM.far (h : FreeM w0 W N mb n f full cut) {g j : Nat} (hg : N ≤ g) (hg0 : w0.heap.size ≤ g) (hm : mb ≠ g) (u : Value) : FreeM w0 (W.setCell ⟨g, j, none⟩ u) N mb n f full cut :=
  ⟨h.map.setCell hm u, fun q => by
    obtain ⟨h1, A, c, h2, h3⟩ := h.row q
    exact ⟨h1, A, c, Kd.R_far h2 (fun k hk => by show k ≠ g; omega) u, h3⟩, below_set h.below hg0, h.ge⟩
end
section
variable {w0 W w1 : World} {N mb tb n n' m : Nat} {f : Lit → Option Value} {g : Lit → Option Value} {kt : TypeId} {full : List UInt8 → List Int} {cut : List UInt8 → Nat}
theorem FreeM.past (h : FreeM w0 W N mb n f full cut) (hT : MapF Tryz.prog kt W tb m g) (hg : W.grownBy w1 (some tb)) (hne : mb ≠ tb) (hge : w0.heap.size ≤ tb) : FreeM w0 w1 N mb n f full cut :=
  ⟨h.map.kept hg (fun e => hne (by injection e)), fun q => by
    obtain ⟨h1, A, c, h2, h3⟩ := h.row q
    exact ⟨h1, A, c, R_past_map h2 hT hg, h3⟩, below_map h.below h.below.size hg hge, h.ge⟩
theorem FreeM.cutTo (h : FreeM w0 W N mb n f full cut) {q : List UInt8} {d : Nat} (hd : d ≤ (full q).length) {A A' : Option Addr} {c c' : Nat}
    (hR : (Kd.int .i64).R 3 W w0.heap.size (fun k => k < N) (.slice A (full q).length c) (full q)) (hA : d < (full q).length → A' = A.map (fun a => a.add d) ∧ c' = c - d)
    (hM : MapF Tryz.prog 9 w1 mb n' (putF f (.string q) (.slice A' ((full q).length - d) c'))) (hg : W.grownBy w1 (some mb)) :
    FreeM w0 w1 N mb n' (putF f (.string q) (.slice A' ((full q).length - d) c')) full (fun p => if p = q then d else cut p) :=
  ⟨hM, fun p => by
    by_cases hp : p = q
    · subst hp
      rw [putF_same, if_pos rfl]
      exact ⟨hd, A, c, R_past_map hR h.map hg, A', c', rfl, hA⟩
    · rw [putF_other _ _ (fun e => hp (by injection e)), if_neg hp]
      obtain ⟨h1, A, c, h2, h3⟩ := h.row p
      exact ⟨h1, A, c, R_past_map h2 h.map hg, h3⟩, below_map h.below h.below.size hg h.ge, h.ge⟩
end
end Go.Proofs.YtggldnbhmebcpaaGreatDoor.L
end
section
namespace Go.Proofs.YtggldnbhmebcpaaGreatDoor.L
open Go.RowKit Go.ChangeShapes Go.WideShapes Go.Proofs.YtggldnbhmebcpaaGreatDoorW.PrintWords Go.Proofs.YtggldnbhmebcpaaGreatDoorW.PrintLast Go.Proofs.YtggldnbhmebcpaaGreatDoorW.PrintMore
attribute [local go_sem] max2_int min2_int max_two min_two max_three min_three max_four min_four
theorem hexDigit_inj {x y : Nat} (hx : x < 16) (hy : y < 16) (h : Lib.hexDigit x = Lib.hexDigit y) : x = y := by
  unfold Lib.hexDigit at h
  split at h <;> split at h <;> omega
theorem hexDigits_inj {r r' : Nat} {t t' : List Int} : ∀ n, Lib.hexDigits r n ++ t = Lib.hexDigits r' n ++ t' → r % 16 ^ n = r' % 16 ^ n ∧ t = t'
  | 0, h => ⟨by rw [Nat.pow_zero, Nat.mod_one, Nat.mod_one], h⟩
  | n + 1, h => by
    unfold Lib.hexDigits at h
    rw [List.cons_append, List.cons_append] at h
    injection h with h1 h2
    obtain ⟨h3, h4⟩ := hexDigits_inj n h2
    have h5 := hexDigit_inj (Nat.mod_lt _ (by omega)) (Nat.mod_lt _ (by omega)) h1
    refine ⟨?_, h4⟩
    rw [Nat.pow_succ, Nat.mod_mul, Nat.mod_mul, h3, h5]
def RuneOk (r : Int) : Prop := (0 ≤ r ∧ r < 55296) ∨ (57343 < r ∧ r ≤ 1114111)
theorem enc_forms {r : Int} (h : RuneOk r) : (Lib.encodeRuneZ r = [r] ∧ 0 ≤ r ∧ r ≤ 127) ∨ (Lib.encodeRuneZ r = [192 + r / 64, 128 + r % 64] ∧ 128 ≤ r ∧ r ≤ 2047) ∨
    (Lib.encodeRuneZ r = [224 + r / 4096, 128 + r / 64 % 64, 128 + r % 64] ∧ 2048 ≤ r ∧ r ≤ 65535) ∨ (Lib.encodeRuneZ r = [240 + r / 262144, 128 + r / 4096 % 64, 128 + r / 64 % 64, 128 + r % 64] ∧ 65536 ≤ r ∧ r ≤ 1114111) := by
  unfold RuneOk at h
  unfold Lib.encodeRuneZ
  by_cases c1 : 0 ≤ r ∧ r ≤ 127
  · rw [if_pos c1]; exact .inl ⟨rfl, c1⟩
  · rw [if_neg c1]
    by_cases c2 : 128 ≤ r ∧ r ≤ 2047
    · rw [if_pos c2]; exact .inr (.inl ⟨rfl, c2⟩)
    · rw [if_neg c2]
      by_cases c3 : (2048 ≤ r ∧ r < 55296) ∨ (57343 < r ∧ r ≤ 65535)
      · rw [if_pos c3]; exact .inr (.inr (.inl ⟨rfl, by omega, by omega⟩))
      · rw [if_neg c3, if_pos (by omega)]
        exact .inr (.inr (.inr ⟨rfl, by omega, by omega⟩))
theorem enc_inj {r r' : Int} (h : RuneOk r) (h' : RuneOk r') {t t' : List Int} (e : Lib.encodeRuneZ r ++ t = Lib.encodeRuneZ r' ++ t') : r = r' ∧ t = t' := by
  rcases enc_forms h with ⟨e1, a, b⟩ | ⟨e1, a, b⟩ | ⟨e1, a, b⟩ | ⟨e1, a, b⟩ <;> rcases enc_forms h' with ⟨e2, a', b'⟩ | ⟨e2, a', b'⟩ | ⟨e2, a', b'⟩ | ⟨e2, a', b'⟩ <;> rw [e1, e2] at e <;>
    simp only [List.cons_append, List.nil_append, List.cons.injEq] at e
  all_goals first
    | exact ⟨by omega, e.2⟩
    | exact ⟨by omega, e.2.2⟩
    | exact ⟨by omega, e.2.2.2⟩
    | exact ⟨by omega, e.2.2.2.2⟩
    | (exfalso; omega)
theorem enc_head {r : Int} (h : RuneOk r) (h1 : ¬ r = 34) (h2 : ¬ r = 92) : ∃ x l, Lib.encodeRuneZ r = x :: l ∧ x ≠ 34 ∧ x ≠ 92 := by
  rcases enc_forms h with ⟨e1, a, b⟩ | ⟨e1, a, b⟩ | ⟨e1, a, b⟩ | ⟨e1, a, b⟩
  all_goals exact ⟨_, _, e1, by omega, by omega⟩
def unesc (c : Int) : Int := if c = 97 then 7 else if c = 98 then 8 else if c = 102 then 12 else if c = 110 then 10 else if c = 114 then 13 else if c = 116 then 9 else if c = 118 then 11 else c
inductive QKey where
  | bad (b : Nat)
  | rune (r : Int)
def QKey.Ok : QKey → Prop
  | .bad b => 128 ≤ b ∧ b < 256
  | .rune r => RuneOk r
def qenc (T : Lib.PrintTabs) : QKey → List Int
  | .bad b => [92, 120, Lib.hexDigit (b / 16), Lib.hexDigit (b % 16)]
  | .rune r => Lib.escRune T r
theorem qenc_forms (T : Lib.PrintTabs) {k : QKey} (h : k.Ok) :
    (∃ c, qenc T k = [92, c] ∧ k = .rune (unesc c) ∧ c ≠ 120 ∧ c ≠ 117 ∧ c ≠ 85) ∨
    (∃ v : Nat, v < 256 ∧ qenc T k = [92, 120, Lib.hexDigit (v / 16), Lib.hexDigit (v % 16)] ∧ k = if v < 128 then .rune (v : Int) else .bad v) ∨
    (∃ v : Nat, v < 65536 ∧ qenc T k = 92 :: 117 :: Lib.hexDigits v 4 ∧ k = .rune (v : Int)) ∨
    (∃ v : Nat, v < 4294967296 ∧ qenc T k = 92 :: 85 :: Lib.hexDigits v 8 ∧ k = .rune (v : Int)) ∨
    (∃ r, RuneOk r ∧ ¬ r = 34 ∧ ¬ r = 92 ∧ qenc T k = Lib.encodeRuneZ r ∧ k = .rune r) := by
  cases k with
  | bad b => exact .inr (.inl ⟨b, h.2, rfl, by rw [if_neg (by have := h.1; omega)]⟩)
  | rune r =>
    have hr : RuneOk r := h
    have hv : Lib.validRune r = true := by
      unfold RuneOk at hr
      simp only [Lib.validRune, decide_eq_true_eq]
      omega
    show (∃ c, Lib.escRune T r = [92, c] ∧ QKey.rune r = .rune (unesc c) ∧ c ≠ 120 ∧ c ≠ 117 ∧ c ≠ 85) ∨ (∃ v : Nat, v < 256 ∧ Lib.escRune T r = _ ∧ QKey.rune r = _) ∨ (∃ v : Nat, v < 65536 ∧ Lib.escRune T r = _ ∧ QKey.rune r = _) ∨ (∃ v : Nat, v < 4294967296 ∧ Lib.escRune T r = _ ∧ QKey.rune r = _) ∨ (∃ r', RuneOk r' ∧ ¬ r' = 34 ∧ ¬ r' = 92 ∧ Lib.escRune T r = Lib.encodeRuneZ r' ∧ QKey.rune r = .rune r')
    unfold Lib.escRune
    by_cases c0 : r = 34 ∨ r = 92
    · rw [if_pos c0]
      refine .inl ⟨r, rfl, ?_, by omega, by omega, by omega⟩
      rcases c0 with rfl | rfl <;> rfl
    rw [if_neg c0]
    by_cases c1 : Lib.isPrintR T r = true
    · rw [if_pos c1]
      exact .inr (.inr (.inr (.inr ⟨r, hr, fun e => c0 (.inl e), fun e => c0 (.inr e), rfl, rfl⟩)))
    rw [if_neg c1]
    by_cases c2 : r = 7
    · rw [if_pos c2]; subst c2; exact .inl ⟨97, rfl, rfl, by omega, by omega, by omega⟩
    rw [if_neg c2]
    by_cases c3 : r = 8
    · rw [if_pos c3]; subst c3; exact .inl ⟨98, rfl, rfl, by omega, by omega, by omega⟩
    rw [if_neg c3]
    by_cases c4 : r = 12
    · rw [if_pos c4]; subst c4; exact .inl ⟨102, rfl, rfl, by omega, by omega, by omega⟩
    rw [if_neg c4]
    by_cases c5 : r = 10
    · rw [if_pos c5]; subst c5; exact .inl ⟨110, rfl, rfl, by omega, by omega, by omega⟩
    rw [if_neg c5]
    by_cases c6 : r = 13
    · rw [if_pos c6]; subst c6; exact .inl ⟨114, rfl, rfl, by omega, by omega, by omega⟩
    rw [if_neg c6]
    by_cases c7 : r = 9
    · rw [if_pos c7]; subst c7; exact .inl ⟨116, rfl, rfl, by omega, by omega, by omega⟩
    rw [if_neg c7]
    by_cases c8 : r = 11
    · rw [if_pos c8]; subst c8; exact .inl ⟨118, rfl, rfl, by omega, by omega, by omega⟩
    rw [if_neg c8]
    have h0 : 0 ≤ r := by unfold RuneOk at hr; omega
    obtain ⟨v, rfl⟩ : ∃ v : Nat, r = (v : Int) := ⟨r.toNat, by omega⟩
    by_cases c9 : (v : Int) < 32 ∨ (v : Int) = 127
    · rw [if_pos c9, Int.toNat_natCast]
      exact .inr (.inl ⟨v, by omega, rfl, by rw [if_pos (by omega)]⟩)
    rw [if_neg c9, if_neg (by rw [hv]; simp)]
    by_cases c11 : (v : Int) < 65536
    · rw [if_pos c11, Int.toNat_natCast]
      exact .inr (.inr (.inl ⟨v, by omega, rfl, rfl⟩))
    rw [if_neg c11, Int.toNat_natCast]
    exact .inr (.inr (.inr (.inl ⟨v, by unfold RuneOk at hr; omega, rfl, rfl⟩)))
theorem qenc_inj (T : Lib.PrintTabs) {k k' : QKey} (h : k.Ok) (h' : k'.Ok) {t t' : List Int} (e : qenc T k ++ t = qenc T k' ++ t') : k = k' ∧ t = t' := by
  rcases qenc_forms T h with ⟨c, e1, k1, n1, n2, n3⟩ | ⟨v, hv, e1, k1⟩ | ⟨v, hv, e1, k1⟩ | ⟨v, hv, e1, k1⟩ | ⟨r, hr, a1, a2, e1, k1⟩ <;>
    rcases qenc_forms T h' with ⟨c', e2, k2, m1, m2, m3⟩ | ⟨v', hv', e2, k2⟩ | ⟨v', hv', e2, k2⟩ | ⟨v', hv', e2, k2⟩ | ⟨r', hr', b1, b2, e2, k2⟩ <;> rw [e1, e2] at e
  case inl.inl =>
    simp only [List.cons_append, List.nil_append, List.cons.injEq] at e
    exact ⟨by rw [k1, k2, e.2.1], e.2.2⟩
  case inr.inl.inr.inl =>
    simp only [List.cons_append, List.nil_append, List.cons.injEq] at e
    obtain ⟨_, _, g1, g2, g3⟩ := e
    have g1 := hexDigit_inj (by omega) (by omega) g1
    have g2 := hexDigit_inj (by omega) (by omega) g2
    have : v = v' := by omega
    exact ⟨by rw [k1, k2, this], g3⟩
  case inr.inr.inl.inr.inr.inl =>
    simp only [List.cons_append, List.cons.injEq] at e
    obtain ⟨g1, g2⟩ := hexDigits_inj 4 e.2.2
    have : v = v' := by omega
    exact ⟨by rw [k1, k2, this], g2⟩
  case inr.inr.inr.inl.inr.inr.inr.inl =>
    simp only [List.cons_append, List.cons.injEq] at e
    obtain ⟨g1, g2⟩ := hexDigits_inj 8 e.2.2
    have : v = v' := by omega
    exact ⟨by rw [k1, k2, this], g2⟩
  case inr.inr.inr.inr.inr.inr.inr.inr =>
    obtain ⟨g1, g2⟩ := enc_inj hr hr' e
    exact ⟨by rw [k1, k2, g1], g2⟩
  case inl.inr.inr.inr.inr =>
    exfalso
    obtain ⟨x, l, e3, x1, x2⟩ := enc_head hr' b1 b2
    rw [e3] at e
    simp only [List.cons_append, List.nil_append, List.cons.injEq] at e
    omega
  case inr.inl.inr.inr.inr.inr =>
    exfalso
    obtain ⟨x, l, e3, x1, x2⟩ := enc_head hr' b1 b2
    rw [e3] at e
    simp only [List.cons_append, List.nil_append, List.cons.injEq] at e
    omega
  case inr.inr.inl.inr.inr.inr.inr =>
    exfalso
    obtain ⟨x, l, e3, x1, x2⟩ := enc_head hr' b1 b2
    rw [e3] at e
    simp only [List.cons_append, List.nil_append, List.cons.injEq] at e
    omega
  case inr.inr.inr.inl.inr.inr.inr.inr =>
    exfalso
    obtain ⟨x, l, e3, x1, x2⟩ := enc_head hr' b1 b2
    rw [e3] at e
    simp only [List.cons_append, List.nil_append, List.cons.injEq] at e
    omega
  case inr.inr.inr.inr.inl =>
    exfalso
    obtain ⟨x, l, e3, x1, x2⟩ := enc_head hr a1 a2
    rw [e3] at e
    simp only [List.cons_append, List.nil_append, List.cons.injEq] at e
    omega
  case inr.inr.inr.inr.inr.inl =>
    exfalso
    obtain ⟨x, l, e3, x1, x2⟩ := enc_head hr a1 a2
    rw [e3] at e
    simp only [List.cons_append, List.nil_append, List.cons.injEq] at e
    omega
  case inr.inr.inr.inr.inr.inr.inl =>
    exfalso
    obtain ⟨x, l, e3, x1, x2⟩ := enc_head hr a1 a2
    rw [e3] at e
    simp only [List.cons_append, List.nil_append, List.cons.injEq] at e
    omega
  case inr.inr.inr.inr.inr.inr.inr.inl =>
    exfalso
    obtain ⟨x, l, e3, x1, x2⟩ := enc_head hr a1 a2
    rw [e3] at e
    simp only [List.cons_append, List.nil_append, List.cons.injEq] at e
    omega
  all_goals
    exfalso
    simp only [List.cons_append, List.nil_append, List.cons.injEq] at e
    omega
theorem qenc_head (T : Lib.PrintTabs) {k : QKey} (h : k.Ok) {t t' : List Int} : ¬ qenc T k ++ t = 34 :: t' := fun e => by
  rcases qenc_forms T h with ⟨c, e1, k1, n1, n2, n3⟩ | ⟨v, hv, e1, k1⟩ | ⟨v, hv, e1, k1⟩ | ⟨v, hv, e1, k1⟩ | ⟨r, hr, a1, a2, e1, k1⟩ <;> rw [e1] at e
  case inr.inr.inr.inr =>
    obtain ⟨x, l, e3, x1, x2⟩ := enc_head hr a1 a2
    rw [e3] at e
    simp only [List.cons_append, List.nil_append, List.cons.injEq] at e
    omega
  all_goals
    simp only [List.cons_append, List.nil_append, List.cons.injEq] at e
    omega
def qkey (s : ByteArray) : QKey := if (Utf8.decode s 0).2 = 1 ∧ (Utf8.decode s 0).1 = 65533 then .bad (s.get! 0).toNat else .rune ((Utf8.decode s 0).1 : Int)
theorem qkey_step (T : Lib.PrintTabs) (s : ByteArray) : Lib.quoteStep T s = qenc T (qkey s) := by
  unfold Lib.quoteStep qkey
  split <;> rfl
def lbytes (s : ByteArray) : List Nat := s.data.toList.map UInt8.toNat
theorem lbytes_len (s : ByteArray) : (lbytes s).length = s.size := by simp [lbytes]
theorem get_lbytes (s : ByteArray) (i : Nat) : (s.get! i).toNat = (lbytes s).getD i 0 := by
  unfold lbytes
  by_cases h : i < s.size
  · have e : s.get! i = s[i] := by
      cases s with
      | mk d => exact getElem!_pos d i h
    rw [e, List.getD_eq_getElem?_getD, List.getElem?_map]
    have h2 : i < s.data.toList.length := by simpa using h
    rw [List.getElem?_eq_getElem h2]
    rfl
  · have e : s.get! i = 0 := by
      cases s with
      | mk d => exact getElem!_neg d i h
    rw [e, List.getD_eq_getElem?_getD, List.getElem?_eq_none (by simpa using h)]
    rfl
def kbytes : QKey → List Int
  | .bad b => [(b : Int)]
  | .rune r => Lib.encodeRuneZ r
theorem decode_bytes (b0 : Nat) (l : List Nat) (hb : ∀ x ∈ b0 :: l, x < 256) :
    let d := Lib.decodeN (l.length + 1) b0 (l.getD 0 0) (l.getD 1 0) (l.getD 2 0)
    ((d.2 = 1 ∧ d.1 = 65533) ∧ 128 ≤ b0) ∨ (¬ (d.2 = 1 ∧ d.1 = 65533) ∧ d.2 ≤ l.length + 1 ∧ Lib.encodeRuneZ (d.1 : Int) = ((b0 :: l).take d.2).map (fun x : Nat => (x : Int))) := by
  intro d
  have h0 : b0 < 256 := hb b0 (by simp)
  show ((Lib.decodeN _ _ _ _ _).2 = 1 ∧ (Lib.decodeN _ _ _ _ _).1 = 65533) ∧ _ ∨ ¬ ((Lib.decodeN _ _ _ _ _).2 = 1 ∧ (Lib.decodeN _ _ _ _ _).1 = 65533) ∧ (Lib.decodeN _ _ _ _ _).2 ≤ _ ∧ Lib.encodeRuneZ ((Lib.decodeN _ _ _ _ _).1 : Int) = ((b0 :: l).take (Lib.decodeN _ _ _ _ _).2).map _
  unfold Lib.decodeN
  by_cases c1 : b0 < 128
  · rw [if_pos c1]
    refine .inr ⟨fun h => by have := h.2; simp only at this; omega, by simp, ?_⟩
    rw [Lib.encodeRuneZ_one (by omega) (by omega)]
    rfl
  rw [if_neg c1]
  have bad : ((((65533, 1) : Nat × Nat).2 = 1 ∧ ((65533, 1) : Nat × Nat).1 = 65533) ∧ 128 ≤ b0) := ⟨⟨rfl, rfl⟩, by omega⟩
  match l, hb with
  | [], _ =>
    rw [if_neg (fun h => by have := h.2.1; simp at this), if_neg (fun h => by have := h.2.1.1; simp at this), if_neg (fun h => by have := h.2.1.1; simp at this)]
    exact .inl bad
  | b1 :: l1, hb =>
    have h1 : b1 < 256 := hb b1 (by simp)
    have g0 : (b1 :: l1).getD 0 0 = b1 := rfl
    rw [g0]
    by_cases c2 : b0 / 32 = 6 ∧ (1 < (b1 :: l1).length + 1 ∧ b1 / 64 = 2)
    · rw [if_pos c2]
      obtain ⟨p1, _, p2⟩ := c2
      by_cases c3 : b0 % 32 * 64 + b1 % 64 ≥ 128
      · rw [if_pos c3]
        refine .inr ⟨fun h => by have := h.1; simp only at this; omega, by simp, ?_⟩
        simp only
        have e1 : Lib.encodeRuneZ ((b0 % 32 * 64 + b1 % 64 : Nat) : Int) = [192 + ((b0 % 32 * 64 + b1 % 64 : Nat) : Int) / 64, 128 + ((b0 % 32 * 64 + b1 % 64 : Nat) : Int) % 64] := Lib.encodeRuneZ_two (by omega) (by omega)
        rw [e1]
        simp only [List.take_succ_cons, List.take_zero, List.map_cons, List.map_nil, List.cons.injEq, and_true]
        omega
      · rw [if_neg c3]
        exact .inl bad
    rw [if_neg c2]
    match l1, hb with
    | [], _ =>
      rw [if_neg (fun h => by have := h.2.2.1; simp at this), if_neg (fun h => by have := h.2.2.1.1; simp at this)]
      exact .inl bad
    | b2 :: l2, hb =>
      have h2 : b2 < 256 := hb b2 (by simp)
      have g1 : (b1 :: b2 :: l2).getD 1 0 = b2 := rfl
      rw [g1]
      by_cases c4 : b0 / 16 = 14 ∧ (1 < (b1 :: b2 :: l2).length + 1 ∧ b1 / 64 = 2) ∧ (2 < (b1 :: b2 :: l2).length + 1 ∧ b2 / 64 = 2)
      · rw [if_pos c4]
        obtain ⟨p1, ⟨_, p2⟩, _, p3⟩ := c4
        split
        · rename_i c5
          refine .inr ⟨fun h => by have := h.1; simp only at this; omega, by simp, ?_⟩
          simp only
          have hr : RuneOk ((b0 % 16 * 4096 + b1 % 64 * 64 + b2 % 64 : Nat) : Int) := by unfold RuneOk; omega
          rcases enc_forms hr with ⟨e1, a, b⟩ | ⟨e1, a, b⟩ | ⟨e1, a, b⟩ | ⟨e1, a, b⟩
          · omega
          · omega
          · rw [e1]
            simp only [List.take_succ_cons, List.take_zero, List.map_cons, List.map_nil, List.cons.injEq, and_true]
            omega
          · omega
        · exact .inl bad
      rw [if_neg c4]
      match l2, hb with
      | [], _ =>
        rw [if_neg (fun h => by have := h.2.2.2.1; simp at this)]
        exact .inl bad
      | b3 :: l3, hb =>
        have h3 : b3 < 256 := hb b3 (by simp)
        have g2 : (b1 :: b2 :: b3 :: l3).getD 2 0 = b3 := rfl
        rw [g2]
        by_cases c6 : b0 / 8 = 30 ∧ (1 < (b1 :: b2 :: b3 :: l3).length + 1 ∧ b1 / 64 = 2) ∧ (2 < (b1 :: b2 :: b3 :: l3).length + 1 ∧ b2 / 64 = 2) ∧ (3 < (b1 :: b2 :: b3 :: l3).length + 1 ∧ b3 / 64 = 2)
        · rw [if_pos c6]
          obtain ⟨p1, ⟨_, p2⟩, ⟨_, p3⟩, _, p4⟩ := c6
          split
          · rename_i c7
            refine .inr ⟨fun h => by have := h.1; simp only at this; omega, by simp, ?_⟩
            simp only
            have hr : RuneOk ((b0 % 8 * 262144 + b1 % 64 * 4096 + b2 % 64 * 64 + b3 % 64 : Nat) : Int) := by unfold RuneOk; omega
            rcases enc_forms hr with ⟨e1, a, b⟩ | ⟨e1, a, b⟩ | ⟨e1, a, b⟩ | ⟨e1, a, b⟩
            · omega
            · omega
            · omega
            · rw [e1]
              simp only [List.take_succ_cons, List.take_zero, List.map_cons, List.map_nil, List.cons.injEq, and_true]
              omega
          · exact .inl bad
        rw [if_neg c6]
        exact .inl bad
theorem step_bytes (s : ByteArray) (h : 0 < s.size) : (qkey s).Ok ∧ (kbytes (qkey s)).length = (Utf8.decode s 0).2 ∧ kbytes (qkey s) = ((lbytes s).take (Utf8.decode s 0).2).map (fun x : Nat => (x : Int)) := by
  have hd := Lib.decode_at s 0
  rw [get_lbytes, get_lbytes, get_lbytes, get_lbytes] at hd
  have hl := lbytes_len s
  have hb : ∀ x ∈ lbytes s, x < 256 := fun x hx => by
    obtain ⟨b, _, rfl⟩ := List.mem_map.1 hx
    exact UInt8.toNat_lt b
  have hg0 : (s.get! 0).toNat = (lbytes s).getD 0 0 := get_lbytes s 0
  have hok := Lib.rune_valid s
  unfold qkey
  rw [hg0]
  generalize lbytes s = lb at hd hl hb
  match lb, hl, hb with
  | [], hl, _ => simp at hl; omega
  | b0 :: l, hl, hb =>
    have e : Utf8.decode s 0 = Lib.decodeN (l.length + 1) b0 (l.getD 0 0) (l.getD 1 0) (l.getD 2 0) := by
      rw [hd, ← hl]; rfl
    rw [e] at hok ⊢
    have e0 : (b0 :: l).getD 0 0 = b0 := rfl
    rw [e0]
    rcases decode_bytes b0 l hb with ⟨h1, h2⟩ | ⟨h1, h2, h3⟩
    · rw [if_pos h1]
      refine ⟨⟨h2, hb b0 (by simp)⟩, ?_, ?_⟩
      · rw [h1.1]; rfl
      · rw [h1.1]; rfl
    · rw [if_neg h1]
      refine ⟨?_, ?_, h3⟩
      · show RuneOk _
        simp only [Lib.validRune, decide_eq_true_eq] at hok
        unfold RuneOk
        omega
      · show (Lib.encodeRuneZ _).length = _
        rw [h3, List.length_map, List.length_take, List.length_cons, Nat.min_eq_left h2]
theorem lbytes_rest (s : ByteArray) (k : Nat) : lbytes (s.extract k s.size) = (lbytes s).drop k := by
  unfold lbytes
  rw [← List.map_drop]
  congr 1
  have e : (s.extract k s.size).data.toList = (s.data.toList.drop k).take (s.size - k) := by simp [ByteArray.data_extract]
  rw [e, List.take_of_length_le (by rw [List.length_drop]; simp)]
theorem lbytes_inj {s t : ByteArray} (h : lbytes s = lbytes t) : s = t := by
  have h1 : s.data.toList = t.data.toList := List.map_inj_right (fun x y e => UInt8.toNat_inj.1 e) |>.1 h
  cases s; cases t
  congr 1
  exact Array.toList_inj.1 h1
theorem quoteFrom_inj (T : Lib.PrintTabs) : ∀ (n : Nat) (s s' : ByteArray) (f f' : Nat) (r r' : List Int), s.size ≤ n → s.size ≤ f → s'.size ≤ f' →
    Lib.quoteFrom T f s ++ 34 :: r = Lib.quoteFrom T f' s' ++ 34 :: r' → lbytes s = lbytes s' ∧ r = r'
  | n, s, s', f, f', r, r', hn, hf, hf', h => by
    by_cases h0 : 0 < s.size
    · rw [Lib.quoteFrom_step T f s h0 hf, qkey_step, List.append_assoc] at h
      obtain ⟨k1, k2, k3⟩ := step_bytes s h0
      by_cases h0' : 0 < s'.size
      · rw [Lib.quoteFrom_step T f' s' h0' hf', qkey_step, List.append_assoc] at h
        obtain ⟨k1', k2', k3'⟩ := step_bytes s' h0'
        obtain ⟨g1, g2⟩ := qenc_inj T k1 k1' h
        have hw := Lib.width_pos s 0
        have hw' := Lib.width_pos s' 0
        have hz := Lib.size_rest s (Utf8.decode s 0).2
        have hz' := Lib.size_rest s' (Utf8.decode s' 0).2
        match n, hn with
        | 0, hn => omega
        | n + 1, hn =>
          obtain ⟨q1, q2⟩ := quoteFrom_inj T n _ _ (f - 1) (f' - 1) r r' (by omega) (by omega) (by omega) g2
          refine ⟨?_, q2⟩
          have ew : (Utf8.decode s 0).2 = (Utf8.decode s' 0).2 := by rw [← k2, ← k2', g1]
          rw [lbytes_rest, lbytes_rest] at q1
          have e2 : (lbytes s).take (Utf8.decode s 0).2 = (lbytes s').take (Utf8.decode s' 0).2 := by
            have e3 : ((lbytes s).take (Utf8.decode s 0).2).map (fun x : Nat => (x : Int)) = ((lbytes s').take (Utf8.decode s' 0).2).map (fun x : Nat => (x : Int)) := by rw [← k3, ← k3', g1]
            exact List.map_inj_right (fun x y e => by omega) |>.1 e3
          rw [← List.take_append_drop (Utf8.decode s 0).2 (lbytes s), e2, q1, List.take_append_drop]
      · rw [Lib.quoteFrom_end T f' s' h0'] at h
        exact absurd h (qenc_head T k1)
    · rw [Lib.quoteFrom_end T f s h0] at h
      by_cases h0' : 0 < s'.size
      · rw [Lib.quoteFrom_step T f' s' h0' hf', qkey_step, List.append_assoc] at h
        exact absurd h.symm (qenc_head T (step_bytes s' h0').1)
      · rw [Lib.quoteFrom_end T f' s' h0'] at h
        have e1 := lbytes_len s
        have e2 := lbytes_len s'
        refine ⟨?_, by injection h⟩
        rw [List.eq_nil_of_length_eq_zero (by omega : (lbytes s).length = 0), List.eq_nil_of_length_eq_zero (by omega : (lbytes s').length = 0)]
theorem quote_inj (T : Lib.PrintTabs) {s s' : ByteArray} {r r' : List Int} (h : Lib.quoteZ T s ++ r = Lib.quoteZ T s' ++ r') : s = s' ∧ r = r' := by
  unfold Lib.quoteZ at h
  rw [List.cons_append, List.cons_append, List.append_assoc, List.append_assoc] at h
  injection h with _ h
  obtain ⟨h1, h2⟩ := quoteFrom_inj T s.size s s' s.size s'.size r r' (Nat.le_refl _) (Nat.le_refl _) (Nat.le_refl _) h
  exact ⟨lbytes_inj h1, h2⟩
end Go.Proofs.YtggldnbhmebcpaaGreatDoor.L
end
section
namespace Go.Proofs.YtggldnbhmebcpaaGreatDoor.L
open Go.RowKit Go.ChangeShapes Go.WideShapes Go.Proofs.YtggldnbhmebcpaaGreatDoorW.PrintWords Go.Proofs.YtggldnbhmebcpaaGreatDoorW.PrintLast Go.Proofs.YtggldnbhmebcpaaGreatDoorW.PrintMore
attribute [local go_sem] max2_int min2_int max_two min_two max_three min_three max_four min_four
theorem hexDigit_range {x : Nat} (h : x < 16) : 0 ≤ Lib.hexDigit x ∧ Lib.hexDigit x < 256 := by
  unfold Lib.hexDigit
  split <;> omega
def Rg (l : List Int) : Prop := ∀ x ∈ l, 0 ≤ x ∧ x < 256
theorem Rg.nil : Rg [] := fun x h => by cases h
theorem Rg.cons {a : Int} {l : List Int} (h : 0 ≤ a ∧ a < 256) (hl : Rg l) : Rg (a :: l) := fun x hx => by
  rcases List.mem_cons.1 hx with rfl | hx
  · exact h
  · exact hl x hx
theorem Rg.ite {c : Prop} [Decidable c] {a b : List Int} (ha : c → Rg a) (hb : ¬ c → Rg b) : Rg (if c then a else b) := by
  by_cases h : c
  · rw [if_pos h]; exact ha h
  · rw [if_neg h]; exact hb h
theorem hexDigits_range (r : Nat) : ∀ n, ∀ x ∈ Lib.hexDigits r n, 0 ≤ x ∧ x < 256
  | 0, x, h => by cases h
  | n + 1, x, h => by
    unfold Lib.hexDigits at h
    rcases List.mem_cons.1 h with rfl | h
    · exact hexDigit_range (Nat.mod_lt _ (by omega))
    · exact hexDigits_range r n x h
theorem enc_range {r : Int} (h : RuneOk r) : ∀ x ∈ Lib.encodeRuneZ r, 0 ≤ x ∧ x < 256 := by
  intro x hx
  rcases enc_forms h with ⟨e, a, b⟩ | ⟨e, a, b⟩ | ⟨e, a, b⟩ | ⟨e, a, b⟩ <;> rw [e] at hx <;> simp only [List.mem_cons, List.not_mem_nil, or_false] at hx
  · omega
  · rcases hx with rfl | rfl <;> omega
  · rcases hx with rfl | rfl | rfl <;> omega
  · rcases hx with rfl | rfl | rfl | rfl <;> omega
theorem qenc_range (T : Lib.PrintTabs) {k : QKey} (h : k.Ok) : ∀ x ∈ qenc T k, 0 ≤ x ∧ x < 256 := by
  cases k with
  | bad b =>
    have hb : 128 ≤ b ∧ b < 256 := h
    intro x hx
    simp only [qenc, List.mem_cons, List.not_mem_nil, or_false] at hx
    rcases hx with rfl | rfl | rfl | rfl
    · omega
    · omega
    · exact hexDigit_range (by omega)
    · exact hexDigit_range (by omega)
  | rune r =>
    have hr : RuneOk r := h
    show Rg (Lib.escRune T r)
    have two : ∀ a b : Int, 0 ≤ a ∧ a < 256 → 0 ≤ b ∧ b < 256 → Rg [a, b] := fun a b h1 h2 => Rg.cons h1 (Rg.cons h2 Rg.nil)
    unfold Lib.escRune
    refine Rg.ite (fun c => two _ _ (by omega) (by omega)) fun _ => ?_
    refine Rg.ite (fun _ => enc_range hr) fun _ => ?_
    refine Rg.ite (fun c => two _ _ (by omega) (by omega)) fun _ => ?_
    refine Rg.ite (fun c => two _ _ (by omega) (by omega)) fun _ => ?_
    refine Rg.ite (fun c => two _ _ (by omega) (by omega)) fun _ => ?_
    refine Rg.ite (fun c => two _ _ (by omega) (by omega)) fun _ => ?_
    refine Rg.ite (fun c => two _ _ (by omega) (by omega)) fun _ => ?_
    refine Rg.ite (fun c => two _ _ (by omega) (by omega)) fun _ => ?_
    refine Rg.ite (fun c => two _ _ (by omega) (by omega)) fun _ => ?_
    refine Rg.ite (fun c => Rg.cons (by omega) (Rg.cons (by omega) (two _ _ (hexDigit_range (by omega)) (hexDigit_range (by omega))))) fun _ => ?_
    refine Rg.ite (fun c => Rg.cons (by omega) (Rg.cons (by omega) (hexDigits_range _ _))) fun _ => ?_
    refine Rg.ite (fun c => Rg.cons (by omega) (Rg.cons (by omega) (hexDigits_range _ _))) fun _ => ?_
    exact Rg.cons (by omega) (Rg.cons (by omega) (hexDigits_range _ _))
theorem quoteFrom_range (T : Lib.PrintTabs) : ∀ (f : Nat) (s : ByteArray), ∀ x ∈ Lib.quoteFrom T f s, 0 ≤ x ∧ x < 256
  | 0, s, x, h => by cases h
  | f + 1, s, x, h => by
    unfold Lib.quoteFrom at h
    split at h
    · rename_i h0
      rcases List.mem_append.1 h with h | h
      · rw [qkey_step] at h
        exact qenc_range T (step_bytes s h0).1 x h
      · exact quoteFrom_range T f _ x h
    · cases h
theorem quoteZ_range (T : Lib.PrintTabs) (s : ByteArray) : ∀ x ∈ Lib.quoteZ T s, 0 ≤ x ∧ x < 256 := by
  intro x h
  unfold Lib.quoteZ at h
  rcases List.mem_cons.1 h with rfl | h
  · omega
  rcases List.mem_append.1 h with h | h
  · exact quoteFrom_range T _ _ x h
  · simp only [List.mem_cons, List.not_mem_nil, or_false] at h; omega
def back (l : List UInt8) : List Int := l.map fun b => (b.toNat : Int)
theorem back_bytes {l : List Int} (h : ∀ x ∈ l, 0 ≤ x ∧ x < 256) : back (Lib.bytesOf l) = l := by
  induction l with
  | nil => rfl
  | cons x l ih =>
    have h1 := h x (by simp)
    have h2 : back (Lib.bytesOf (x :: l)) = ((UInt8.ofNat x.toNat).toNat : Int) :: back (Lib.bytesOf l) := rfl
    rw [h2, ih (fun y hy => h y (by simp [hy]))]
    congr 1
    have : (UInt8.ofNat x.toNat).toNat = x.toNat % 256 := by simp
    rw [this]
    omega
theorem back_append (a b : List UInt8) : back (a ++ b) = back a ++ back b := List.map_append
theorem back_inj {a b : List UInt8} (h : back a = back b) : a = b := by
  refine (List.map_inj_right (fun x y e => ?_)).1 h
  exact UInt8.toNat_inj.1 (by omega)
def qB (T : Lib.PrintTabs) (s : ByteArray) : List UInt8 := Lib.bytesOf (Lib.quoteZ T s)
theorem qB_inj (T : Lib.PrintTabs) {s s' : ByteArray} {r r' : List UInt8} (h : qB T s ++ r = qB T s' ++ r') : s = s' ∧ r = r' := by
  have h1 : back (qB T s ++ r) = back (qB T s' ++ r') := by rw [h]
  rw [back_append, back_append, qB, qB, back_bytes (quoteZ_range T s), back_bytes (quoteZ_range T s')] at h1
  obtain ⟨h2, h3⟩ := quote_inj T h1
  exact ⟨h2, back_inj h3⟩
theorem qB_head (T : Lib.PrintTabs) (s : ByteArray) : ∃ l, qB T s = 34 :: l := ⟨_, rfl⟩
def numC (x : UInt8) : Prop := x = 45 ∨ (48 ≤ x.toNat ∧ x.toNat ≤ 57)
theorem dec_digit (u : Nat) : ∀ x ∈ Lib.decDigits u, 48 ≤ x.toNat ∧ x.toNat ≤ 57 := by
  induction u using Nat.strongRecOn with
  | _ u ih =>
    intro x hx
    rw [Lib.decDigits] at hx
    split at hx
    · rename_i h
      simp only [List.mem_cons, List.not_mem_nil, or_false] at hx
      subst hx
      have : (UInt8.ofNat (48 + u)).toNat = (48 + u) % 256 := by simp
      rw [this]; omega
    · rename_i h
      rcases List.mem_append.1 hx with hx | hx
      · exact ih (u / 10) (by omega) x hx
      · simp only [List.mem_cons, List.not_mem_nil, or_false] at hx
        subst hx
        have : (UInt8.ofNat (48 + u % 10)).toNat = (48 + u % 10) % 256 := by simp
        rw [this]; omega
def decV (l : List UInt8) : Nat := l.foldl (fun a x => 10 * a + (x.toNat - 48)) 0
theorem decV_dec (u : Nat) : decV (Lib.decDigits u) = u := by
  induction u using Nat.strongRecOn with
  | _ u ih =>
    rw [Lib.decDigits]
    split
    · rename_i h
      show 10 * 0 + ((UInt8.ofNat (48 + u)).toNat - 48) = u
      have : (UInt8.ofNat (48 + u)).toNat = (48 + u) % 256 := by simp
      rw [this]; omega
    · rename_i h
      unfold decV
      rw [List.foldl_append]
      have := ih (u / 10) (by omega)
      unfold decV at this
      rw [this]
      show 10 * (u / 10) + ((UInt8.ofNat (48 + u % 10)).toNat - 48) = u
      have : (UInt8.ofNat (48 + u % 10)).toNat = (48 + u % 10) % 256 := by simp
      rw [this]; omega
theorem dec_inj {u v : Nat} (h : Lib.decDigits u = Lib.decDigits v) : u = v := by rw [← decV_dec u, ← decV_dec v, h]
theorem dec_ne (u : Nat) : ∃ x l, Lib.decDigits u = x :: l ∧ 48 ≤ x.toNat := by
  cases h : Lib.decDigits u with
  | nil =>
    have h1 : decV (Lib.decDigits u) = 0 := by rw [h]; rfl
    rw [decV_dec] at h1
    subst h1
    rw [Lib.decDigits, dif_pos (by omega)] at h
    cases h
  | cons x l => exact ⟨x, l, rfl, (dec_digit u x (by rw [h]; simp)).1⟩
theorem itoa_num (n : Int) : ∀ x ∈ Lib.itoa n, numC x := by
  intro x hx
  unfold Lib.itoa at hx
  split at hx
  · rcases List.mem_cons.1 hx with rfl | hx
    · exact .inl rfl
    · exact .inr (dec_digit _ x hx)
  · exact .inr (dec_digit _ x hx)
theorem itoa_head (n : Int) : ∃ x l, Lib.itoa n = x :: l ∧ numC x := by
  cases h : Lib.itoa n with
  | nil =>
    unfold Lib.itoa at h
    split at h
    · cases h
    · obtain ⟨x, l, e, _⟩ := dec_ne n.toNat
      rw [e] at h; cases h
  | cons x l => exact ⟨x, l, rfl, itoa_num n x (by rw [h]; simp)⟩
theorem itoa_inj {a b : Int} (h : Lib.itoa a = Lib.itoa b) : a = b := by
  unfold Lib.itoa at h
  split at h <;> split at h
  · injection h with _ h
    have := dec_inj h
    omega
  · obtain ⟨x, l, e, hx⟩ := dec_ne b.toNat
    rw [e] at h
    injection h with h1 _
    subst h1
    exact absurd hx (by decide)
  · obtain ⟨x, l, e, hx⟩ := dec_ne a.toNat
    rw [e] at h
    injection h with h1 _
    subst h1
    exact absurd hx (by decide)
  · have := dec_inj h
    omega
theorem span_eq {p : UInt8 → Prop} : ∀ {l l' r r' : List UInt8}, (∀ x ∈ l, p x) → (∀ x ∈ l', p x) → (∀ x t, r = x :: t → ¬ p x) → (∀ x t, r' = x :: t → ¬ p x) → l ++ r = l' ++ r' → l = l' ∧ r = r'
  | [], [], _, _, _, _, _, _, h => ⟨rfl, h⟩
  | [], y :: l', r, r', _, h2, h3, _, h => absurd (h2 y (by simp)) (h3 y _ (by simpa using h))
  | x :: l, [], r, r', h1, _, _, h4, h => absurd (h1 x (by simp)) (h4 x (l ++ r) (by simpa using h.symm))
  | x :: l, y :: l', r, r', h1, h2, h3, h4, h => by
    rw [List.cons_append, List.cons_append] at h
    injection h with e h
    obtain ⟨e1, e2⟩ := span_eq (fun z hz => h1 z (by simp [hz])) (fun z hz => h2 z (by simp [hz])) h3 h4 h
    exact ⟨by rw [e, e1], e2⟩
def Stop (r : List UInt8) : Prop := r = [] ∨ ∃ t, r = 32 :: t ∧ ∀ x u, t = x :: u → ¬ numC x
theorem not_num32 : ¬ numC 32 := fun h => by rcases h with h | h <;> revert h <;> decide
def wNums (l : List Int) : List UInt8 := l.flatMap fun v => 32 :: Lib.itoa v
theorem wNums_cons (v : Int) (l : List Int) (r : List UInt8) : wNums (v :: l) ++ r = 32 :: (Lib.itoa v ++ (wNums l ++ r)) := by simp [wNums]
theorem wNums_stop (l : List Int) {r : List UInt8} (h : Stop r) : ∀ x t, wNums l ++ r = x :: t → ¬ numC x := by
  intro x t e
  cases l with
  | nil =>
    rcases h with rfl | ⟨t', rfl, _⟩
    · cases e
    · have e : (32 : UInt8) :: t' = x :: t := e
      injection e with e _; subst e; exact not_num32
  | cons v l =>
    rw [wNums_cons] at e
    injection e with e _; subst e; exact not_num32
theorem wNums_inj : ∀ {l l' : List Int} {r r' : List UInt8}, Stop r → Stop r' → wNums l ++ r = wNums l' ++ r' → l = l' ∧ r = r'
  | [], [], _, _, _, _, h => ⟨rfl, h⟩
  | [], v :: l', r, r', h1, _, h => by
    rw [wNums_cons] at h
    have h : r = 32 :: (Lib.itoa v ++ (wNums l' ++ r')) := h
    obtain ⟨x, u, e, hx⟩ := itoa_head v
    rcases h1 with rfl | ⟨t, rfl, ht⟩
    · cases h
    · injection h with _ h
      exact absurd hx (ht x (u ++ (wNums l' ++ r')) (by rw [h, e]; rfl))
  | v :: l, [], r, r', _, h2, h => by
    rw [wNums_cons] at h
    have h : 32 :: (Lib.itoa v ++ (wNums l ++ r)) = r' := h
    obtain ⟨x, u, e, hx⟩ := itoa_head v
    rcases h2 with rfl | ⟨t, rfl, ht⟩
    · cases h
    · injection h with _ h
      exact absurd hx (ht x (u ++ (wNums l ++ r)) (by rw [← h, e]; rfl))
  | v :: l, v' :: l', r, r', h1, h2, h => by
    rw [wNums_cons, wNums_cons] at h
    injection h with _ h
    obtain ⟨e1, e2⟩ := span_eq (itoa_num v) (itoa_num v') (wNums_stop l h1) (wNums_stop l' h2) h
    obtain ⟨e3, e4⟩ := wNums_inj h1 h2 e2
    exact ⟨by rw [itoa_inj e1, e3], e4⟩
def wTexts (T : Lib.PrintTabs) (l : List ByteArray) : List UInt8 := l.flatMap fun s => 32 :: qB T s
theorem wTexts_cons (T : Lib.PrintTabs) (v : ByteArray) (l : List ByteArray) (r : List UInt8) : wTexts T (v :: l) ++ r = 32 :: (qB T v ++ (wTexts T l ++ r)) := by simp [wTexts]
theorem wTexts_inj (T : Lib.PrintTabs) : ∀ {l l' : List ByteArray} {r r' : List UInt8}, wTexts T l ++ 32 :: 47 :: r = wTexts T l' ++ 32 :: 47 :: r' → l = l' ∧ r = r'
  | [], [], r, r', h => by
    have h : 32 :: 47 :: r = 32 :: 47 :: r' := h
    injection h with _ h
    injection h with _ h
    exact ⟨rfl, h⟩
  | [], v :: l', r, r', h => by
    rw [wTexts_cons] at h
    have h : 32 :: 47 :: r = 32 :: (qB T v ++ (wTexts T l' ++ 32 :: 47 :: r')) := h
    obtain ⟨u, e⟩ := qB_head T v
    rw [e] at h
    injection h with _ h
    injection h with h _
    exact absurd h (by decide)
  | v :: l, [], r, r', h => by
    rw [wTexts_cons] at h
    have h : 32 :: (qB T v ++ (wTexts T l ++ 32 :: 47 :: r)) = 32 :: 47 :: r' := h
    obtain ⟨u, e⟩ := qB_head T v
    rw [e] at h
    injection h with _ h
    injection h with h _
    exact absurd h (by decide)
  | v :: l, v' :: l', r, r', h => by
    rw [wTexts_cons, wTexts_cons] at h
    injection h with _ h
    obtain ⟨e1, e2⟩ := qB_inj T h
    obtain ⟨e3, e4⟩ := wTexts_inj T e2
    exact ⟨by rw [e1, e3], e4⟩
theorem texts_stop (T : Lib.PrintTabs) (l : List ByteArray) (r : List UInt8) : Stop (wTexts T l ++ 32 :: 47 :: r) := by
  cases l with
  | nil => exact .inr ⟨47 :: r, rfl, fun x u e => by injection e with e _; subst e; intro h; rcases h with h | h <;> revert h <;> decide⟩
  | cons v l =>
    obtain ⟨u, e⟩ := qB_head T v
    refine .inr ⟨_, wTexts_cons T v l _, fun x u' e' => ?_⟩
    rw [e] at e'
    injection e' with e' _
    subst e'
    intro h; rcases h with h | h <;> revert h <;> decide
def wordL (T : Lib.PrintTabs) (kind : Int) (ints : List Int) (texts : List ByteArray) (kids : List Int) : List UInt8 :=
  Lib.itoa kind ++ (wNums ints ++ (wTexts T texts ++ 32 :: 47 :: wNums kids))
theorem word_inj (T : Lib.PrintTabs) {k k' : Int} {i i' : List Int} {t t' : List ByteArray} {q q' : List Int} : wordL T k i t q = wordL T k' i' t' q' ↔ (k = k' ∧ i = i' ∧ t = t' ∧ q = q') := by
  refine ⟨fun h => ?_, fun ⟨h1, h2, h3, h4⟩ => by rw [h1, h2, h3, h4]⟩
  unfold wordL at h
  obtain ⟨e1, h⟩ := span_eq (itoa_num k) (itoa_num k') (wNums_stop i (texts_stop T t _)) (wNums_stop i' (texts_stop T t' _)) h
  obtain ⟨e2, h⟩ := wNums_inj (texts_stop T t _) (texts_stop T t' _) h
  obtain ⟨e3, h⟩ := wTexts_inj T h
  obtain ⟨e4, _⟩ := wNums_inj (l := q) (l' := q') (r := []) (r' := []) (.inl rfl) (.inl rfl) (by rw [List.append_nil, List.append_nil]; exact h)
  exact ⟨itoa_inj e1, e2, e3, e4⟩
end Go.Proofs.YtggldnbhmebcpaaGreatDoor.L
end
section
namespace Go.Proofs.YtggldnbhmebcpaaGreatDoor.L
open Go.RowKit Go.ChangeShapes Go.WideShapes Go.Proofs.YtggldnbhmebcpaaGreatDoorW.PrintWords Go.Proofs.YtggldnbhmebcpaaGreatDoorW.PrintLast Go.Proofs.YtggldnbhmebcpaaGreatDoorW.PrintMore
attribute [local go_sem] max2_int min2_int max_two min_two max_three min_three max_four min_four
def kindW (n : Node) : List UInt8 := [107, 105, 110, 100] ++ wNums [n.kind, (n.ints.length : Int), (n.texts.length : Int)]
theorem kindW_inj {n m : Node} : kindW n = kindW m ↔ n.kind = m.kind ∧ n.ints.length = m.ints.length ∧ n.texts.length = m.texts.length := by
  refine ⟨fun h => ?_, fun ⟨h1, h2, h3⟩ => by unfold kindW; rw [h1, h2, h3]⟩
  have h1 := List.append_cancel_left (show [107, 105, 110, 100] ++ wNums [n.kind, (n.ints.length : Int), (n.texts.length : Int)] = [107, 105, 110, 100] ++ wNums [m.kind, (m.ints.length : Int), (m.texts.length : Int)] from h)
  have h2 := (wNums_inj (l := [n.kind, (n.ints.length : Int), (n.texts.length : Int)]) (l' := [m.kind, (m.ints.length : Int), (m.texts.length : Int)]) (r := []) (r' := []) (.inl rfl) (.inl rfl) (by rw [List.append_nil, List.append_nil]; exact h1)).1
  injection h2 with e1 h2
  injection h2 with e2 h2
  injection h2 with e3 _
  exact ⟨e1, by omega, by omega⟩
theorem kindW_num (n : Node) (z : Int) : kindW n ≠ Lib.itoa z := fun h => by
  obtain ⟨x, l, e, hx⟩ := itoa_head z
  have h2 : (107 : UInt8) :: ([105, 110, 100] ++ wNums [n.kind, (n.ints.length : Int), (n.texts.length : Int)]) = x :: l := by rw [← e]; exact h
  injection h2 with e1 _
  subst e1
  rcases hx with h | h <;> revert h <;> decide
def updR (r : List UInt8 → List Int) (q : List UInt8) (x : Int) : List UInt8 → List Int := fun p => if p = q then r q ++ [x] else r p
def openR (nums : List Int) (ns : List Node) : Nat → List UInt8 → List Int
  | 0 => fun _ => []
  | i + 1 => updR (updR (openR nums ns i) (Lib.itoa (rd nums (i : Int))) (i : Int)) (kindW (nd ns i)) (i : Int)
def sel (p : Nat → Bool) (n : Nat) : List Int := ((List.range n).filter p).map (fun k : Nat => (k : Int))
theorem sel_succ (p : Nat → Bool) (n : Nat) : sel p (n + 1) = if p n = true then sel p n ++ [(n : Int)] else sel p n := by
  unfold sel
  rw [List.range_succ, List.filter_append, List.map_append]
  by_cases h : p n = true
  · rw [if_pos h]; simp [h]
  · rw [if_neg h]; simp [h]
theorem openR_num (nums : List Int) (ns : List Node) (z : Int) : ∀ m : Nat, openR nums ns m (Lib.itoa z) = sel (fun i => decide (rd nums (i : Int) = z)) m
  | 0 => rfl
  | m + 1 => by
    have ih := openR_num nums ns z m
    rw [sel_succ]
    show updR (updR (openR nums ns m) (Lib.itoa (rd nums (m : Int))) (m : Int)) (kindW (nd ns m)) (m : Int) (Lib.itoa z) = _
    unfold updR
    rw [if_neg (fun e => kindW_num (nd ns m) z e.symm)]
    by_cases h : rd nums (m : Int) = z
    · rw [if_pos (by rw [h]), if_pos (decide_eq_true h), h, ih]
    · rw [if_neg (fun e => h (itoa_inj e).symm), if_neg (by simpa using h), ih]
theorem openR_kind (nums : List Int) (ns : List Node) (x : Node) : ∀ m : Nat, openR nums ns m (kindW x) = sel (fun i => decide (kindW (nd ns i) = kindW x)) m
  | 0 => rfl
  | m + 1 => by
    have ih := openR_kind nums ns x m
    rw [sel_succ]
    show updR (updR (openR nums ns m) (Lib.itoa (rd nums (m : Int))) (m : Int)) (kindW (nd ns m)) (m : Int) (kindW x) = _
    have hn : ∀ y : Node, updR (openR nums ns m) (Lib.itoa (rd nums (m : Int))) (m : Int) (kindW y) = openR nums ns m (kindW y) := fun y => by
      unfold updR
      rw [if_neg (kindW_num y _)]
    by_cases h : kindW (nd ns m) = kindW x
    · rw [if_pos (decide_eq_true h), h]
      show (if kindW x = kindW x then _ else _) = _
      rw [if_pos rfl, hn, ih]
    · rw [if_neg (by simpa using h)]
      show (if kindW x = kindW (nd ns m) then _ else _) = _
      rw [if_neg (fun e => h e.symm), hn, ih]
def firstL (l : List Int) (tk : List Int) : Int := (l.find? (fun k => !decide (k ∈ tk))).getD (-1)
theorem firstL_yes {x : Int} {l tk : List Int} (h : x ∉ tk) : firstL (x :: l) tk = x := by
  unfold firstL
  rw [List.find?_cons_of_pos (by simpa using h)]; rfl
theorem firstL_no {x : Int} {l tk : List Int} (h : x ∈ tk) : firstL (x :: l) tk = firstL l tk := by
  unfold firstL
  rw [List.find?_cons_of_neg (by simpa using h)]
theorem firstL_drop {tk : List Int} : ∀ {l : List Int} {d : Nat}, (∀ x ∈ l.take d, x ∈ tk) → firstL (l.drop d) tk = firstL l tk
  | [], d, _ => by simp
  | x :: l, 0, _ => rfl
  | x :: l, d + 1, h => by
    rw [firstL_no (h x (by simp))]
    exact firstL_drop (l := l) (d := d) (fun y hy => h y (by rw [List.take_succ_cons]; exact List.mem_cons_of_mem _ hy))
theorem find_map_filter {p : Nat → Bool} {q : Int → Bool} : ∀ l : List Nat, (((l.filter p).map (fun k : Nat => (k : Int))).find? q).getD (-1) = match l.find? (fun k => p k && q (k : Int)) with | some k => (k : Int) | none => -1
  | [] => rfl
  | x :: l => by
    by_cases hp : p x = true
    · by_cases hq : q (x : Int) = true
      · rw [List.filter_cons_of_pos hp, List.map_cons, List.find?_cons_of_pos hq, List.find?_cons_of_pos (by simp [hp, hq])]; rfl
      · rw [List.filter_cons_of_pos hp, List.map_cons, List.find?_cons_of_neg (by simpa using hq), List.find?_cons_of_neg (by simp [hq])]
        exact find_map_filter l
    · rw [List.filter_cons_of_neg hp, List.find?_cons_of_neg (by simp [hp])]
      exact find_map_filter l
theorem firstL_sel (p : Nat → Bool) (n : Nat) (tk : List Int) : firstL (sel p n) tk = firstF p tk n := by
  unfold firstL sel firstF
  exact find_map_filter _
theorem firstF_tk {p : Nat → Bool} {n : Nat} {tk us : List Int} (h : ∀ k : Nat, k < n → ((k : Int) ∈ tk ↔ (k : Int) ∈ us)) : firstF p tk n = firstF p us n := by
  rcases firstF_cases p tk n with ⟨e, h1⟩ | ⟨k, hk, e, hp, hn, h1⟩ <;> rcases firstF_cases p us n with ⟨e', h1'⟩ | ⟨k', hk', e', hp', hn', h1'⟩
  · rw [e, e']
  · exact absurd ((h k' hk').1 (h1 k' hk' hp')) hn'
  · exact absurd ((h k hk).2 (h1' k hk hp)) hn
  · rw [e, e']
    rcases Nat.lt_trichotomy k k' with g | g | g
    · exact absurd ((h k hk).2 (h1' k g hp)) hn
    · rw [g]
    · exact absurd ((h k' hk').1 (h1 k' g hp')) hn'
end Go.Proofs.YtggldnbhmebcpaaGreatDoor.L
end
section
namespace Go.Proofs.YtggldnbhmebcpaaGreatDoor.L
open Go.RowKit Go.ChangeShapes Go.WideShapes Go.Proofs.YtggldnbhmebcpaaGreatDoorW.PrintWords Go.Proofs.YtggldnbhmebcpaaGreatDoorW.PrintLast Go.Proofs.YtggldnbhmebcpaaGreatDoorW.PrintMore
attribute [local go_sem] max2_int min2_int max_two min_two max_three min_three max_four min_four
def nodeW (T : Lib.PrintTabs) (n : Node) (own : List Int) : List UInt8 := wordL T n.kind n.ints n.texts (n.kids.map (rd own))
theorem nodeW_inj (T : Lib.PrintTabs) {n m : Node} {o p : List Int} : nodeW T n o = nodeW T m p ↔ (n.kind = m.kind ∧ n.ints = m.ints ∧ n.texts = m.texts ∧ n.kids.map (rd o) = m.kids.map (rd p)) := by
  unfold nodeW
  exact word_inj T
def addW (vs : List (List UInt8)) (x : List UInt8) : List (List UInt8) := if x ∈ vs then vs else vs ++ [x]
theorem addW_in (vs : List (List UInt8)) (x : List UInt8) : x ∈ addW vs x := by
  unfold addW
  split
  · assumption
  · simp
theorem addW_pre (vs : List (List UInt8)) (x : List UInt8) : vs <+: addW vs x := by
  unfold addW
  split
  · exact List.prefix_refl _
  · exact List.prefix_append _ _
theorem addW_mem {vs : List (List UInt8)} {x y : List UInt8} (h : y ∈ addW vs x) : y ∈ vs ∨ y = x := by
  unfold addW at h
  split at h
  · exact .inl h
  · simpa using h
theorem addW_nodup {vs : List (List UInt8)} (h : vs.Nodup) (x : List UInt8) : (addW vs x).Nodup := by
  unfold addW
  split
  · exact h
  · rename_i hx
    refine List.nodup_append.2 ⟨h, by simp, fun a ha b hb => ?_⟩
    rw [List.mem_singleton.1 hb]
    exact fun e => hx (e ▸ ha)
theorem wix_pre {vs us : List (List UInt8)} {x : List UInt8} (h : vs <+: us) (hx : x ∈ vs) : us.idxOf x = vs.idxOf x := by
  obtain ⟨t, rfl⟩ := h
  rw [List.idxOf_append, if_pos hx]
theorem wix_lt {vs : List (List UInt8)} {x : List UInt8} (h : x ∈ vs) : vs.idxOf x < vs.length := List.idxOf_lt_length_iff.2 h
theorem wix_inj {vs : List (List UInt8)} {x y : List UInt8} (hx : x ∈ vs) (hy : y ∈ vs) (h : vs.idxOf x = vs.idxOf y) : x = y := by
  have h1 := List.getElem_idxOf (wix_lt hx)
  have h2 := List.getElem_idxOf (wix_lt hy)
  rw [← h1, ← h2]
  simp only [h]
def numStep (T : Lib.PrintTabs) (st : List (List UInt8) × List Int) (n : Node) : List (List UInt8) × List Int :=
  (addW st.1 (nodeW T n st.2), st.2 ++ [((addW st.1 (nodeW T n st.2)).idxOf (nodeW T n st.2) : Int)])
def ownS (T : Lib.PrintTabs) (vs : List (List UInt8)) (ns : List Node) : List (List UInt8) × List Int := ns.foldl (numStep T) (vs, [])
def allS (T : Lib.PrintTabs) (l : List Scene) : List (List UInt8) × List (List Int) := l.foldl (fun st s => ((ownS T st.1 s.nodes).1, st.2 ++ [(ownS T st.1 s.nodes).2])) ([], [])
def AheadN (ns : List Node) : Prop := ∀ p : Nat, p < ns.length → ∀ k ∈ (nd ns p).kids, 0 ≤ k ∧ k < (p : Int)
structure Numd (T : Lib.PrintTabs) (vs : List (List UInt8)) (ns : List Node) (own : List Int) : Prop where
  len : own.length = ns.length
  mem : ∀ j : Nat, j < ns.length → nodeW T (nd ns j) own ∈ vs
  num : ∀ j : Nat, j < ns.length → rd own (j : Int) = (vs.idxOf (nodeW T (nd ns j) own) : Int)
theorem Numd.pre {T : Lib.PrintTabs} {vs us : List (List UInt8)} {ns : List Node} {own : List Int} (h : Numd T vs ns own) (hp : vs <+: us) : Numd T us ns own :=
  ⟨h.len, fun j hj => hp.subset (h.mem j hj), fun j hj => by rw [h.num j hj, wix_pre hp (h.mem j hj)]⟩
theorem rd_app {a b : List Int} {k : Int} (h0 : 0 ≤ k) (h : k < (a.length : Int)) : rd (a ++ b) k = rd a k := by
  unfold rd
  rw [List.getD_eq_getElem?_getD, List.getD_eq_getElem?_getD, List.getElem?_append_left (by omega)]
theorem nodeW_app (T : Lib.PrintTabs) {n : Node} {a b : List Int} (h : ∀ k ∈ n.kids, 0 ≤ k ∧ k < (a.length : Int)) : nodeW T n (a ++ b) = nodeW T n a :=
  (nodeW_inj T).2 ⟨rfl, rfl, rfl, List.map_congr_left fun k hk => rd_app (h k hk).1 (h k hk).2⟩
theorem nd_snoc_lt {l : List Node} {x : Node} {j : Nat} (h : j < l.length) : nd (l ++ [x]) j = nd l j := by
  unfold nd
  rw [List.getD_eq_getElem?_getD, List.getD_eq_getElem?_getD, List.getElem?_append_left h]
theorem nd_snoc_eq {l : List Node} {x : Node} : nd (l ++ [x]) l.length = x := by
  unfold nd
  rw [List.getD_eq_getElem?_getD, List.getElem?_append_right (Nat.le_refl _)]
  simp
theorem rd_snoc_eq {l : List Int} {x : Int} : rd (l ++ [x]) (l.length : Int) = x := by
  unfold rd
  rw [Int.toNat_natCast, List.getD_eq_getElem?_getD, List.getElem?_append_right (Nat.le_refl _)]
  simp
theorem AheadN.init {l : List Node} {x : Node} (h : AheadN (l ++ [x])) : AheadN l := fun p hp k hk => h p (by rw [List.length_append]; omega) k (by rw [nd_snoc_lt hp]; exact hk)
structure OwnSpec (T : Lib.PrintTabs) (vs : List (List UInt8)) (ns : List Node) (r : List (List UInt8) × List Int) : Prop where
  pre : vs <+: r.1
  numd : Numd T r.1 ns r.2
  from_ : ∀ x ∈ r.1, x ∈ vs ∨ ∃ j : Nat, j < ns.length ∧ x = nodeW T (nd ns j) r.2
  nodup : vs.Nodup → r.1.Nodup
theorem own_specN (T : Lib.PrintTabs) (vs : List (List UInt8)) : ∀ (n : Nat) {ns : List Node}, ns.length = n → AheadN ns → OwnSpec T vs ns (ownS T vs ns) := by
  intro n
  induction n using Nat.strongRecOn with
  | _ n IH =>
  intro ns hn hA
  rcases snoc_cases ns with rfl | ⟨l, x, rfl⟩
  · exact ⟨List.prefix_refl _, ⟨rfl, fun j hj => absurd hj (Nat.not_lt_zero _), fun j hj => absurd hj (Nat.not_lt_zero _)⟩, fun x hx => .inl hx, fun h => h⟩
  · have ih := IH l.length (by simp at hn; omega) rfl hA.init
    have hk : ∀ k ∈ x.kids, 0 ≤ k ∧ k < ((ownS T vs l).2.length : Int) := fun k hk => by
      rw [ih.numd.len]
      have := hA l.length (by simp) k (by rw [nd_snoc_eq]; exact hk)
      exact this
    have e : ownS T vs (l ++ [x]) = numStep T (ownS T vs l) x := by
      show (l ++ [x]).foldl (numStep T) (vs, []) = _
      rw [List.foldl_append]; rfl
    rw [e]
    generalize ownS T vs l = st at ih hk ⊢
    obtain ⟨us, own⟩ := st
    have hlen : own.length = l.length := ih.numd.len
    have key : ∀ j : Nat, j < (l ++ [x]).length → nodeW T (nd (l ++ [x]) j) (own ++ [((addW us (nodeW T x own)).idxOf (nodeW T x own) : Int)]) = if j < l.length then nodeW T (nd l j) own else nodeW T x own := fun j hj => by
      by_cases h : j < l.length
      · rw [if_pos h, nd_snoc_lt h]
        refine nodeW_app T fun k hk' => ?_
        have := hA.init j h k hk'
        omega
      · have hj' : j = l.length := by simp at hj; omega
        subst hj'
        rw [if_neg h, nd_snoc_eq]
        exact nodeW_app T hk
    have hm : ∀ j : Nat, j < (l ++ [x]).length → (if j < l.length then nodeW T (nd l j) own else nodeW T x own) ∈ addW us (nodeW T x own) := fun j hj => by
      by_cases h : j < l.length
      · rw [if_pos h]; exact (addW_pre _ _).subset (ih.numd.mem j h)
      · rw [if_neg h]; exact addW_in _ _
    refine ⟨ih.pre.trans (addW_pre _ _), ⟨by show (own ++ [_]).length = _; simp [hlen], fun j hj => ?_, fun j hj => ?_⟩, fun y hy => ?_, fun h => addW_nodup (ih.nodup h) _⟩
    · show nodeW T _ (own ++ [_]) ∈ addW us (nodeW T x own)
      rw [key j hj]; exact hm j hj
    · show rd (own ++ [_]) (j : Int) = ((addW us (nodeW T x own)).idxOf (nodeW T _ (own ++ [_])) : Int)
      rw [key j hj]
      by_cases h : j < l.length
      · rw [if_pos h, rd_app (by omega) (by omega), wix_pre (addW_pre _ _) (ih.numd.mem j h)]
        exact ih.numd.num j h
      · have hj' : j = l.length := by simp at hj; omega
        subst hj'
        rw [if_neg h, ← hlen, rd_snoc_eq]
    · rcases addW_mem hy with hy | rfl
      · rcases ih.from_ y hy with hy | ⟨j, hj, rfl⟩
        · exact .inl hy
        · refine .inr ⟨j, by simp; omega, ?_⟩
          show _ = nodeW T _ (own ++ [_])
          rw [key j (by simp; omega), if_pos hj]
      · refine .inr ⟨l.length, by simp, ?_⟩
        show _ = nodeW T _ (own ++ [_])
        rw [key l.length (by simp), if_neg (by omega)]
theorem own_spec (T : Lib.PrintTabs) (vs : List (List UInt8)) {ns : List Node} (hA : AheadN ns) : OwnSpec T vs ns (ownS T vs ns) := own_specN T vs ns.length rfl hA
def alkC (a b : List Node) (out : List (List Bool)) (i j : Nat) : Bool :=
  decide ((nd a i).kind = (nd b j).kind ∧ (nd a i).ints = (nd b j).ints ∧ (nd a i).texts = (nd b j).texts ∧ (nd a i).kids.length = (nd b j).kids.length ∧
    ∀ k : Nat, k < (nd a i).kids.length → rd (nd a i).kids (k : Int) < (i : Int) ∧ rd (nd b j).kids (k : Int) < (j : Int) ∧ ((out.getD (rd (nd a i).kids (k : Int)).toNat []).getD (rd (nd b j).kids (k : Int)).toNat false) = true)
def alkT (a b : List Node) : Nat → List (List Bool)
  | 0 => []
  | i + 1 => alkT a b i ++ [(List.range b.length).map (alkC a b (alkT a b i) i)]
theorem alkT_len (a b : List Node) : ∀ n, (alkT a b n).length = n
  | 0 => rfl
  | n + 1 => by unfold alkT; rw [List.length_append, alkT_len a b n]; rfl
theorem alkT_row (a b : List Node) : ∀ {n i : Nat}, i < n → (alkT a b n).getD i [] = (List.range b.length).map (alkC a b (alkT a b i) i)
  | n + 1, i, h => by
    show (alkT a b n ++ [(List.range b.length).map (alkC a b (alkT a b n) n)]).getD i [] = _
    rw [List.getD_eq_getElem?_getD]
    by_cases hi : i < n
    · rw [List.getElem?_append_left (by rw [alkT_len]; exact hi), ← List.getD_eq_getElem?_getD]
      exact alkT_row a b hi
    · obtain rfl : i = n := by omega
      rw [List.getElem?_append_right (by rw [alkT_len]; exact Nat.le_refl _), alkT_len]
      simp
theorem alk_cell (a b : List Node) {n i j : Nat} (hi : i < n) (hj : j < b.length) : ((alkT a b n).getD i []).getD j false = alkC a b (alkT a b i) i j := by
  rw [alkT_row a b hi, List.getD_eq_getElem?_getD, List.getElem?_map, List.getElem?_range hj]
  rfl
theorem alk_num {T : Lib.PrintTabs} {vs : List (List UInt8)} {a b : List Node} {p q : List Int} (ha : AheadN a) (hb : AheadN b) (hp : Numd T vs a p) (hq : Numd T vs b q) :
    ∀ i j : Nat, i < a.length → j < b.length → (alkC a b (alkT a b i) i j = true ↔ rd p (i : Int) = rd q (j : Int)) := by
  intro i
  induction i using Nat.strongRecOn with
  | _ i ih =>
    intro j hi hj
    have hw : rd p (i : Int) = rd q (j : Int) ↔ nodeW T (nd a i) p = nodeW T (nd b j) q := by
      rw [hp.num i hi, hq.num j hj]
      refine ⟨fun h => wix_inj (hp.mem i hi) (hq.mem j hj) (by omega), fun h => by rw [h]⟩
    rw [hw, nodeW_inj]
    unfold alkC
    rw [decide_eq_true_iff]
    refine ⟨fun ⟨h1, h2, h3, h4, h5⟩ => ⟨h1, h2, h3, ?_⟩, fun ⟨h1, h2, h3, h4⟩ => ⟨h1, h2, h3, ?_, ?_⟩⟩
    · refine List.ext_getElem (by simpa using h4) fun k g1 g2 => ?_
      rw [List.getElem_map, List.getElem_map]
      rw [List.length_map] at g1 g2
      obtain ⟨e1, e2, e3⟩ := h5 k g1
      rw [rd_eq g1] at e1 e3
      rw [rd_eq g2] at e2 e3
      have hx := ha i hi _ (List.getElem_mem g1)
      have hy := hb j hj _ (List.getElem_mem g2)
      rw [alk_cell a b (by omega) (by omega)] at e3
      have := (ih _ (by omega) _ (by omega) (by omega)).1 e3
      rwa [Int.toNat_of_nonneg hx.1, Int.toNat_of_nonneg hy.1] at this
    · have := congrArg List.length h4
      simpa using this
    · intro k g1
      have hlen := congrArg List.length h4
      rw [List.length_map, List.length_map] at hlen
      have g2 : k < (nd b j).kids.length := by omega
      rw [rd_eq g1, rd_eq g2]
      have hx := ha i hi _ (List.getElem_mem g1)
      have hy := hb j hj _ (List.getElem_mem g2)
      refine ⟨hx.2, hy.2, ?_⟩
      rw [alk_cell a b (by omega) (by omega)]
      refine (ih _ (by omega) _ (by omega) (by omega)).2 ?_
      rw [Int.toNat_of_nonneg hx.1, Int.toNat_of_nonneg hy.1]
      have h6 : ((nd a i).kids.map (rd p))[k]'(by rw [List.length_map]; exact g1) = ((nd b j).kids.map (rd q))[k]'(by rw [List.length_map]; exact g2) := by simp only [h4]
      rwa [List.getElem_map, List.getElem_map] at h6
end Go.Proofs.YtggldnbhmebcpaaGreatDoor.L
end
section
namespace Go.Proofs.YtggldnbhmebcpaaGreatDoor.L
open Go.RowKit Go.ChangeShapes Go.WideShapes Go.Proofs.YtggldnbhmebcpaaGreatDoorW.PrintWords Go.Proofs.YtggldnbhmebcpaaGreatDoorW.PrintLast Go.Proofs.YtggldnbhmebcpaaGreatDoorW.PrintMore
attribute [local go_sem] max2_int min2_int max_two min_two max_three min_three max_four min_four
def cntF (own : List Int) (c : Nat) : Nat → Nat
  | 0 => c
  | i + 1 => if rd own (i : Int) = (cntF own c i : Int) then cntF own c i + 1 else cntF own c i
def Rise (own : List Int) (c n : Nat) : Prop := ∀ i : Nat, i < n → 0 ≤ rd own (i : Int) ∧ rd own (i : Int) ≤ (cntF own c i : Int)
theorem cnt_mono (own : List Int) (c : Nat) : ∀ {i j : Nat}, i ≤ j → cntF own c i ≤ cntF own c j
  | i, 0, h => by obtain rfl : i = 0 := by omega
                  exact Nat.le_refl _
  | i, j + 1, h => by
    by_cases e : i = j + 1
    · subst e; exact Nat.le_refl _
    · have := cnt_mono own c (i := i) (j := j) (by omega)
      show _ ≤ (if rd own (j : Int) = (cntF own c j : Int) then cntF own c j + 1 else cntF own c j)
      split <;> omega
theorem cnt_app {own t : List Int} {c : Nat} : ∀ {i : Nat}, i ≤ own.length → cntF (own ++ t) c i = cntF own c i
  | 0, _ => rfl
  | i + 1, h => by
    show (if rd (own ++ t) (i : Int) = (cntF (own ++ t) c i : Int) then cntF (own ++ t) c i + 1 else cntF (own ++ t) c i) = (if _ then _ else _)
    rw [cnt_app (by omega), rd_app (by omega) (by omega)]
theorem own_snoc (T : Lib.PrintTabs) (vs : List (List UInt8)) (l : List Node) (x : Node) : ownS T vs (l ++ [x]) = numStep T (ownS T vs l) x := by
  show (l ++ [x]).foldl (numStep T) (vs, []) = _
  rw [List.foldl_append]; rfl
theorem own_len (T : Lib.PrintTabs) (vs : List (List UInt8)) : ∀ (n : Nat) (ns : List Node), ns.length = n → (ownS T vs ns).2.length = n
  | n, ns, hn => by
    rcases snoc_cases ns with rfl | ⟨l, x, rfl⟩
    · exact hn
    · rw [own_snoc]
      match n, hn with
      | 0, hn => simp at hn
      | n + 1, hn =>
        have := own_len T vs n l (by simp at hn; exact hn)
        show ((ownS T vs l).2 ++ [_]).length = n + 1
        rw [List.length_append, this]; rfl
theorem own_riseN (T : Lib.PrintTabs) (vs : List (List UInt8)) : ∀ (n : Nat) {ns : List Node}, ns.length = n → Rise (ownS T vs ns).2 vs.length n ∧ cntF (ownS T vs ns).2 vs.length n = (ownS T vs ns).1.length
  | 0, ns, hn => by
    obtain rfl := List.eq_nil_of_length_eq_zero hn
    exact ⟨fun i hi => absurd hi (Nat.not_lt_zero _), rfl⟩
  | n + 1, ns, hn => by
    rcases snoc_cases ns with rfl | ⟨l, x, rfl⟩
    · simp at hn
    · have hl : l.length = n := by simpa using hn
      obtain ⟨ih, ic⟩ := own_riseN T vs n hl
      have hlen := own_len T vs n l hl
      rw [own_snoc]
      generalize ownS T vs l = st at ih ic hlen ⊢
      obtain ⟨us, own⟩ := st
      have hlen : own.length = n := hlen
      have ic : cntF own vs.length n = us.length := ic
      generalize hw : nodeW T x own = w
      have hv : rd (own ++ [((addW us w).idxOf w : Int)]) (n : Int) = ((addW us w).idxOf w : Int) := by rw [← hlen]; exact rd_snoc_eq
      have hc : ∀ i : Nat, i ≤ n → cntF (own ++ [((addW us w).idxOf w : Int)]) vs.length i = cntF own vs.length i := fun i hi => cnt_app (by omega)
      show Rise (own ++ [((addW us (nodeW T x own)).idxOf (nodeW T x own) : Int)]) vs.length (n + 1) ∧ cntF (own ++ [((addW us (nodeW T x own)).idxOf (nodeW T x own) : Int)]) vs.length (n + 1) = (addW us (nodeW T x own)).length
      rw [hw]
      by_cases hm : w ∈ us
      · have ea : addW us w = us := by unfold addW; rw [if_pos hm]
        have hlt := wix_lt hm
        rw [ea] at hv hc ⊢
        refine ⟨fun i hi => ?_, ?_⟩
        · rw [hc i (by omega)]
          by_cases h : i < n
          · rw [rd_app (by omega) (by omega)]; exact ih i h
          · obtain rfl : i = n := by omega
            rw [hv, ic]; omega
        · show (if _ then _ else _) = _
          rw [hc n (Nat.le_refl _), hv, ic, if_neg (by omega)]
      · have ea : addW us w = us ++ [w] := by unfold addW; rw [if_neg hm]
        have hix : (us ++ [w]).idxOf w = us.length := by
          rw [List.idxOf_append, if_neg hm]; simp
        rw [ea, hix] at hv hc ⊢
        refine ⟨fun i hi => ?_, ?_⟩
        · rw [hc i (by omega)]
          by_cases h : i < n
          · rw [rd_app (by omega) (by omega)]; exact ih i h
          · obtain rfl : i = n := by omega
            rw [hv, ic]; omega
        · show (if _ then _ else _) = _
          rw [hc n (Nat.le_refl _), hv, ic, if_pos rfl]; simp
end Go.Proofs.YtggldnbhmebcpaaGreatDoor.L
end
section
namespace Go.Proofs.YtggldnbhmebcpaaGreatDoor.L
open Go.RowKit Go.ChangeShapes Go.WideShapes Go.Proofs.YtggldnbhmebcpaaGreatDoorW.PrintWords Go.Proofs.YtggldnbhmebcpaaGreatDoorW.PrintLast Go.Proofs.YtggldnbhmebcpaaGreatDoorW.PrintMore
attribute [local go_sem] max2_int min2_int max_two min_two max_three min_three max_four min_four
def Like (a b : List Node) (i j : Nat) : Prop := alkC a b (alkT a b i) i j = true
theorem like_num {T : Lib.PrintTabs} {vs : List (List UInt8)} {a b : List Node} {p q : List Int} (ha : AheadN a) (hb : AheadN b) (hp : Numd T vs a p) (hq : Numd T vs b q) {i j : Nat} (hi : i < a.length) (hj : j < b.length) :
    Like a b i j ↔ rd p (i : Int) = rd q (j : Int) := alk_num ha hb hp hq i j hi hj
end Go.Proofs.YtggldnbhmebcpaaGreatDoor.L
end
section
namespace Go.Proofs.YtggldnbhmebcpaaGreatDoor.L
open Go.RowKit Go.ChangeShapes Go.WideShapes Go.Proofs.YtggldnbhmebcpaaGreatDoorW.PrintWords Go.Proofs.YtggldnbhmebcpaaGreatDoorW.PrintLast Go.Proofs.YtggldnbhmebcpaaGreatDoorW.PrintMore
attribute [local go_sem] max2_int min2_int max_two min_two max_three min_three max_four min_four
theorem firstF_congr {p q : Nat → Bool} (tk : List Int) {n : Nat} (h : ∀ k : Nat, k < n → p k = q k) : firstF p tk n = firstF q tk n := by
  rcases firstF_cases p tk n with ⟨e, h1⟩ | ⟨k, hk, e, hp, hn, h1⟩ <;> rcases firstF_cases q tk n with ⟨e', h1'⟩ | ⟨k', hk', e', hp', hn', h1'⟩
  · rw [e, e']
  · exact absurd (h1 k' hk' ((h k' hk').trans hp')) hn'
  · exact absurd (h1' k hk ((h k hk).symm.trans hp)) hn
  · rw [e, e']
    rcases Nat.lt_trichotomy k k' with g | g | g
    · exact absurd (h1' k g ((h k hk).symm.trans hp)) hn
    · rw [g]
    · exact absurd (h1 k' g ((h k' hk').trans hp')) hn'
theorem rndA_congr {P P' : Nat → Nat → Bool} {n : Nat} : ∀ {m : Nat}, (∀ i k : Nat, i < m → k < n → P i k = P' i k) → rndA P n m = rndA P' n m
  | 0, _ => rfl
  | m + 1, h => by
    show rndA P n m ++ [_] = rndA P' n m ++ [_]
    rw [rndA_congr (fun i k hi hk => h i k (by omega) hk), firstF_congr _ (fun k hk => h m k (by omega) hk)]
theorem rndB_congr {Q Q' : Nat → Nat → Bool} {n : Nat} {o : List Int} : ∀ {m : Nat}, (∀ i k : Nat, i < m → k < n → Q i k = Q' i k) → rndB Q n o m = rndB Q' n o m
  | 0, _ => rfl
  | m + 1, h => by
    show (rndB Q n o m).set m _ = (rndB Q' n o m).set m _
    rw [rndB_congr (fun i k hi hk => h i k (by omega) hk), firstF_congr _ (fun k hk => h m k (by omega) hk)]
theorem matP_congr {P P' Q Q' : Nat → Nat → Bool} {n m : Nat} (hP : ∀ i k : Nat, i < m → k < n → P i k = P' i k) (hQ : ∀ i k : Nat, i < m → k < n → Q i k = Q' i k) : matP P Q n m = matP P' Q' n m := by
  unfold matP
  rw [rndA_congr hP, rndB_congr hQ]
def PT (a t : List Node) (i k : Nat) : Bool := alkC t a (alkT t a i) i k
def PN (na nt : List Int) (i k : Nat) : Bool := decide (rd na (k : Int) = rd nt (i : Int))
def QK (a t : List Node) (i k : Nat) : Bool := decide (kindW (nd a k) = kindW (nd t i))
def matS (a t : List Node) : List Int := matP (PT a t) (QK a t) a.length t.length
theorem mat_num {T : Lib.PrintTabs} {vs : List (List UInt8)} {a t : List Node} {na nt : List Int} (ha : AheadN a) (ht : AheadN t) (hp : Numd T vs a na) (hq : Numd T vs t nt) : matP (PN na nt) (QK a t) a.length t.length = matS a t := by
  refine matP_congr (fun i k hi hk => ?_) (fun _ _ _ _ => rfl)
  have h := like_num ht ha hq hp hi hk
  unfold PN PT
  unfold Like at h
  by_cases e : rd na (k : Int) = rd nt (i : Int)
  · rw [decide_eq_true e, h.2 e.symm]
  · rw [decide_eq_false e]
    exact (Bool.eq_false_iff.2 (fun hh => e (h.1 hh).symm)).symm
theorem firstL_at {r tk : List Int} {d : Nat} (hd : d < r.length) (h : ∀ x ∈ r.take d, x ∈ tk) (hn : rd r (d : Int) ∉ tk) : firstL r tk = rd r (d : Int) := by
  rw [← firstL_drop h, List.drop_eq_getElem_cons hd, ← rd_eq hd, firstL_yes hn]
theorem firstL_end {r tk : List Int} (h : ∀ x ∈ r, x ∈ tk) : firstL r tk = -1 := by
  rw [← firstL_drop (l := r) (d := r.length) (fun x hx => h x (List.mem_of_mem_take hx)), List.drop_length]; rfl
theorem take_more {r tk : List Int} {d : Nat} (hd : d < r.length) (h : ∀ x ∈ r.take d, x ∈ tk) (hx : rd r (d : Int) ∈ tk) : ∀ x ∈ r.take (d + 1), x ∈ tk := fun x hh => by
  rw [List.take_succ_eq_append_getElem hd] at hh
  rcases List.mem_append.1 hh with h1 | h1
  · exact h x h1
  · rw [List.mem_singleton.1 h1, ← rd_eq hd]; exact hx
theorem take_put {r tk : List Int} {d : Nat} (hd : d < r.length) (h : ∀ x ∈ r.take d, x ∈ tk) : ∀ x ∈ r.take (d + 1), x ∈ rd r (d : Int) :: tk :=
  take_more hd (fun x hx => List.mem_cons_of_mem _ (h x hx)) (List.mem_cons_self ..)
theorem openR_mem {nums : List Int} {ns : List Node} {q : List UInt8} : ∀ {m : Nat}, ∀ x ∈ openR nums ns m q, 0 ≤ x ∧ x < (m : Int)
  | 0, x, h => by cases h
  | m + 1, x, h => by
    have ih : ∀ x ∈ openR nums ns m q, 0 ≤ x ∧ x < (m : Int) := fun x h => openR_mem x h
    have h : x ∈ updR (updR (openR nums ns m) (Lib.itoa (rd nums (m : Int))) (m : Int)) (kindW (nd ns m)) (m : Int) q := h
    have key : ∀ {r : List UInt8 → List Int} {p : List UInt8}, (∀ x ∈ r q, 0 ≤ x ∧ x < ((m + 1 : Nat) : Int)) → ∀ x ∈ updR r p (m : Int) q, 0 ≤ x ∧ x < ((m + 1 : Nat) : Int) := fun {r p} hr x hx => by
      unfold updR at hx
      split at hx
      · rename_i e
        rcases List.mem_append.1 hx with h1 | h1
        · exact hr x (e ▸ h1)
        · rw [List.mem_singleton] at h1; omega
      · exact hr x hx
    exact key (key (fun x hx => by have := ih x hx; omega)) x h
theorem openR_len {nums : List Int} {ns : List Node} {q : List UInt8} : ∀ {m : Nat}, (openR nums ns m q).length ≤ 2 * m
  | 0 => Nat.le_refl _
  | m + 1 => by
    have ih := openR_len (nums := nums) (ns := ns) (q := q) (m := m)
    show (updR (updR (openR nums ns m) (Lib.itoa (rd nums (m : Int))) (m : Int)) (kindW (nd ns m)) (m : Int) q).length ≤ _
    have key : ∀ {r : List UInt8 → List Int} {p : List UInt8}, (updR r p (m : Int) q).length ≤ (r q).length + 1 := fun {r p} => by
      unfold updR
      split
      · rename_i e; subst e; simp
      · omega
    have h1 := key (r := updR (openR nums ns m) (Lib.itoa (rd nums (m : Int))) (m : Int)) (p := kindW (nd ns m))
    have h2 := key (r := openR nums ns m) (p := Lib.itoa (rd nums (m : Int)))
    omega
theorem roundA {na nt : List Int} {ns : List Node} {n i : Nat} {tk : List Int} (htk : ∀ k : Nat, k < n → ((k : Int) ∈ tk ↔ (k : Int) ∈ rndA (PN na nt) n i)) :
    firstL (openR na ns n (Lib.itoa (rd nt (i : Int)))) tk = firstF (PN na nt i) (rndA (PN na nt) n i) n := by
  rw [openR_num, firstL_sel, firstF_tk htk]; rfl
theorem roundB {na : List Int} {a t : List Node} {o : List Int} {n i : Nat} {tk : List Int} (htk : ∀ k : Nat, k < n → ((k : Int) ∈ tk ↔ (k : Int) ∈ rndB (QK a t) n o i)) :
    firstL (openR na a n (kindW (nd t i))) tk = firstF (QK a t i) (rndB (QK a t) n o i) n := by
  rw [openR_kind, firstL_sel, firstF_tk htk]; rfl
theorem taken_app {tk o : List Int} {x : Int} {k : Nat} (h : (k : Int) ∈ tk ↔ (k : Int) ∈ o) : (k : Int) ∈ (if 0 ≤ x then x :: tk else tk) ↔ (k : Int) ∈ o ++ [x] := by
  by_cases hx : 0 ≤ x
  · rw [if_pos hx, List.mem_cons, List.mem_append, List.mem_singleton, h]
    exact Or.comm
  · rw [if_neg hx, List.mem_append, List.mem_singleton, h]
    exact ⟨.inl, fun hh => hh.elim id (fun e => absurd e (by omega))⟩
theorem taken_set {tk o : List Int} {x : Int} {i k : Nat} (hi : i < o.length) (hz : rd o (i : Int) < 0) (h : (k : Int) ∈ tk ↔ (k : Int) ∈ o) : (k : Int) ∈ (if 0 ≤ x then x :: tk else tk) ↔ (k : Int) ∈ o.set i x := by
  have e : (k : Int) ∈ o.set i x ↔ (k : Int) ∈ o ∨ (k : Int) = x := by
    refine ⟨fun hh => ?_, fun hh => ?_⟩
    · obtain ⟨j, hj, e⟩ := mem_rd hh
      rw [List.length_set] at hj
      by_cases hij : i = j
      · subst hij
        rw [rd_set1 hi] at e
        exact .inr e.symm
      · rw [rd_set2 hj hij] at e
        exact .inl (e ▸ rdm hj)
    · rcases hh with hh | hh
      · obtain ⟨j, hj, e⟩ := mem_rd hh
        have hij : i ≠ j := fun e2 => by subst e2; omega
        have := rdm (o := o.set i x) (i := j) (by simpa using hj)
        rwa [rd_set2 hj hij, e] at this
      · have := rdm (o := o.set i x) (i := i) (by simpa using hi)
        rw [rd_set1 hi] at this
        rw [hh]; exact this
  rw [e]
  by_cases hx : 0 ≤ x
  · rw [if_pos hx, List.mem_cons, h]
    exact Or.comm
  · rw [if_neg hx, h]
    exact ⟨.inl, fun hh => hh.elim id (fun e => absurd e (by omega))⟩
end Go.Proofs.YtggldnbhmebcpaaGreatDoor.L
end
section
namespace Go.Proofs.YtggldnbhmebcpaaGreatDoor.L
open Go.RowKit Go.ChangeShapes Go.WideShapes Go.Proofs.YtggldnbhmebcpaaGreatDoorW.PrintWords Go.Proofs.YtggldnbhmebcpaaGreatDoorW.PrintLast Go.Proofs.YtggldnbhmebcpaaGreatDoorW.PrintMore
attribute [local go_sem] max2_int min2_int max_two min_two max_three min_three max_four min_four
theorem szBld : (Tryz.prog.info? 164).map (·.size) = some 2 := by kernel_rfl
theorem liesBld : liesAt Tryz.prog Tryz.prog.depth 164 (2 / Tryz.prog.cellsOf 164) 0 164 1 = true := by kernel_rfl
theorem infoB : (Tryz.prog.info? 5).map (fun i => (i.zero, i.size, i.bytes)) = some (some (.int .u8 0), 1, 1) := by kernel_rfl
theorem neB5 : 164 ≠ 5 := by decide
set_option maxHeartbeats 1000000 in
set_option maxRecDepth 100000 in
theorem ccheck_used (b : Nat) (w : World) (h0 : w.cell? ⟨b, 0, none⟩ = some (.pointer (some ⟨b, 0, none⟩))) :
    Calls Tryz.prog 120 #[.pointer (some ⟨b, 0, none⟩)] w fun e w' => e = .returned (.tuple #[]) ∧ w' = w := by
  obtain ⟨j, hj, _⟩ := Option.map_eq_some_iff.1 szBld
  have t72 := Tryz.underlying164
  have t70 := Tryz.underlying161
  go_enter Tryz.func120, Tryz.ntmps120
  go_wp2
  rw [Lib.run_neq_ptr_same w _ Tryz.underlying161 hj]
  go_wp2
  go_end0
  exact ⟨rfl, rfl⟩
set_option maxHeartbeats 1000000 in
set_option maxRecDepth 100000 in
theorem ccheck_fresh (b : Nat) (w : World) (h0 : w.cell? ⟨b, 0, none⟩ = some (.pointer none)) (hsh : w.shape? b = some (164, 2)) (hfz : w.frozen? ⟨b, 0, none⟩ = false) :
    Calls Tryz.prog 120 #[.pointer (some ⟨b, 0, none⟩)] w fun e w' => e = .returned (.tuple #[]) ∧ w' = w.setCell ⟨b, 0, none⟩ (.pointer (some ⟨b, 0, none⟩)) := by
  obtain ⟨j, hj, hjs⟩ := Option.map_eq_some_iff.1 szBld
  have t72 := Tryz.underlying164
  have t70 := Tryz.underlying161
  go_enter Tryz.func120, Tryz.ntmps120
  go_wp2
  rw [Lib.run_to_unsafe w ⟨b, 0, none⟩ Tryz.underlying161 Tryz.underlying185 hj (by rw [hjs]; decide) hsh (Nat.zero_lt_succ 1)]
  simp only [Result.andThen]
  rw [Oper.upon_value]
  go_wp2
  rw [run_callFunc_extern Tryz.func127 (by kernel_rfl) (by kernel_rfl) (by kernel_rfl) (e := Extern.AbiNoEscape.same) (by kernel_rfl)]
  rw [Lib.run_noEscape]
  simp only [Result.andThen]
  rw [Oper.upon_value]
  go_wp2
  rw [Lib.run_from_unsafe w ⟨b, 0, none⟩ Tryz.underlying185 Tryz.underlying161 hj hsh liesBld]
  simp only [Result.andThen]
  rw [Oper.upon_value]
  go_wp2
  go_end0
  exact ⟨rfl, rfl⟩
theorem ccheck_any (B b : Nat) (bs : List Value) (w : World) (h : Lib.IsBuilder 164 5 B b bs w) :
    Calls Tryz.prog 120 #[.pointer (some ⟨b, 0, none⟩)] w fun e w' => e = .returned (.tuple #[]) ∧ (Lib.BuilderAt 164 5 B b (.pointer (some ⟨b, 0, none⟩)) bs w' ∧ Below B w w') := by
  rcases h with h | h
  · refine (ccheck_fresh b w h.cell0 h.shape h.frozen0).mono ?_
    rintro e w' ⟨rfl, rfl⟩
    exact ⟨rfl, h.used _, (Below.refl B w).setCell (p := ⟨b, 0, none⟩) h.1 _⟩
  · refine (ccheck_used b w h.cell0).mono ?_
    rintro e w' ⟨rfl, rfl⟩
    exact ⟨rfl, h, Below.refl B _⟩
set_option maxHeartbeats 2000000 in
set_option maxRecDepth 100000 in
theorem wstr_any (B b : Nat) (bs : List Value) (s : ByteArray) (w : World) (h : Lib.IsBuilder 164 5 B b bs w) (hlen : bs.length + s.size ≤ 140737488355328) (hBw : B ≤ w.heap.size) :
    Calls Tryz.prog 113 #[.pointer (some ⟨b, 0, none⟩), .string s] w fun e w' => e = .returned (.tuple #[.int .i64 s.size, .nilIface]) ∧ (Lib.BuilderAt 164 5 B b (.pointer (some ⟨b, 0, none⟩)) (bs ++ Lib.strCells s) w' ∧ Below B w w') := by
  obtain ⟨i0, hi, hz0, hz1, hz2⟩ := info_parts infoB
  have t72 := Tryz.underlying164
  have t70 := Tryz.underlying161
  have t37 := Tryz.underlying162
  have t5 := Tryz.underlying5
  go_enter Tryz.func113, Tryz.ntmps113
  go_wp2_with (go_at_call 120; refine (ccheck_any B b bs _ h).mono ?_)
  rintro e w1 ⟨rfl, h1, hb1⟩
  obtain ⟨hB, v, hbk, hown, hne⟩ := h1
  have c0 : w1.cell? ⟨b, 0, none⟩ = some (.pointer (some ⟨b, 0, none⟩)) := by rw [Lib.cell_of_heap hbk]; rfl
  have c1 : w1.cell? ⟨b, 1, none⟩ = some v := by rw [Lib.cell_of_heap hbk]; rfl
  go_wp2_with (at_builtin; refine Lib.wpList_append_own_string _ rfl _ _ 162 9 rfl B 5 i0 Tryz.underlying162 Tryz.underlying9 hi hz0 hz1 hz2 _ _ _ rfl hown s rfl ?c3 ?c4 ?c5 ?_)
  case c3 => unfold maxLen; omega
  case c4 => omega
  case c5 => have := hb1.size; omega
  intro v' w2 hown' hgrow _
  have hlt : b < w1.heap.size := by
    rcases Nat.lt_or_ge b w1.heap.size with h' | h'
    · exact h'
    · simp [Array.getElem?_eq_none h'] at hbk
  have hb2 : w2.heap[b]? = some (.cells #[.pointer (some ⟨b, 0, none⟩), v] 164 (0, 0)) := by
    rw [hgrow.block b hlt (fun e => hne e.symm)]
    exact hbk
  have d0 : w2.cell? ⟨b, 0, none⟩ = some (.pointer (some ⟨b, 0, none⟩)) := by rw [Lib.cell_of_heap hb2]; rfl
  have d1 : w2.cell? ⟨b, 1, none⟩ = some v := by rw [Lib.cell_of_heap hb2]; rfl
  have f1 : w2.frozen? ⟨b, 1, none⟩ = false := Lib.frozen_of_heap hb2 1
  obtain ⟨ao, n', cap, rfl⟩ : ∃ ao n' cap, v' = .slice ao n' cap := by
    rcases hown'.2 with ⟨hv, _⟩ | ⟨g, cap, cur, hv, _⟩
    · exact ⟨_, _, _, hv⟩
    · exact ⟨_, _, _, hv⟩
  go_wp2
  go_ret2
  refine ⟨rfl, ?_, ?_⟩
  · exact Lib.BuilderAt.put (T := 164) (e := 5) hB hb2 (bs' := bs ++ Lib.strCells s) (by simpa [Lib.strCells_length] using hown') neB5
  · exact (hb1.grown hgrow (by have := hb1.size; omega) (fun k hk => (hown.lt k hk).1)).setCell (p := ⟨b, 1, none⟩) hB _
end Go.Proofs.YtggldnbhmebcpaaGreatDoor.L
end
section
namespace Go.Proofs.YtggldnbhmebcpaaGreatDoor.L
open Go.RowKit Go.ChangeShapes Go.WideShapes Go.Proofs.YtggldnbhmebcpaaGreatDoorW.PrintWords Go.Proofs.YtggldnbhmebcpaaGreatDoorW.PrintLast Go.Proofs.YtggldnbhmebcpaaGreatDoorW.PrintMore
attribute [local go_sem] max2_int min2_int max_two min_two max_three min_three max_four min_four
structure QTabs (T : Lib.PrintTabs) (w : World) : Prop where
  utf : Tabs w
  prt : Lib.PrintTabsAt 5 6 7 8 T w
  pow : Lib.TabIs Tryz.prog w "internal/strconv.uint64pow10" .u64 Lib.pow10Tab
theorem tabSlice_below {g : Nat} {k : IntKind} {t : List Nat} {w w' : World} (h : Lib.TabSlice g k t w) (hb : Below w.heap.size w w') : Lib.TabSlice g k t w' := by
  obtain ⟨R, o, c, h1, h2⟩ := h
  exact ⟨R, o, c, pw_cell_below hb h1, fun j hj => pw_cell_below hb (h2 j hj)⟩
theorem QTabs.below {T : Lib.PrintTabs} {w w' : World} (h : QTabs T w) (hb : Below w.heap.size w w') : QTabs T w' := by
  obtain ⟨a, b, c, d, e⟩ := h.prt
  exact ⟨h.utf.below hb, ⟨tabSlice_below a hb, tabSlice_below b hb, tabSlice_below c hb, tabSlice_below d hb, e⟩, Lib.tabBelow_of_tabIs h.pow w' hb⟩
def I64 (x : Int) : Prop := -9223372036854775808 ≤ x ∧ x ≤ 9223372036854775807
structure NBd (n : Node) : Prop where
  kind : I64 n.kind
  ints : ∀ x ∈ n.ints, I64 x
theorem itoa_any (T : Lib.PrintTabs) (x : Int) (w : World) (hx : I64 x) (hT : QTabs T w) : Calls Tryz.prog 52 #[.int .i64 x] w fun e w' => e = .returned (.string ⟨(Lib.itoa x).toArray⟩) ∧ Below w.heap.size w w' := by
  refine (Tryz.strconv_Itoa x hx.1 hx.2 w hT.pow).mono ?_
  rintro e w' ⟨rfl, k, os, rfl⟩
  exact ⟨rfl, Lib.below_grow _ w (Nat.le_refl _) k os⟩
theorem fint_any (T : Lib.PrintTabs) (x : Int) (w : World) (hx : I64 x) (hT : QTabs T w) : Calls Tryz.prog 114 #[.int .i64 x, .int .i64 10] w fun e w' => e = .returned (.string ⟨(Lib.itoa x).toArray⟩) ∧ Below w.heap.size w w' := by
  refine (Tryz.strconv_FormatInt_10 x hx.1 hx.2 w hT.pow).mono ?_
  rintro e w' ⟨rfl, k, os, rfl⟩
  exact ⟨rfl, Lib.below_grow _ w (Nat.le_refl _) k os⟩
theorem quote_any (T : Lib.PrintTabs) (s : ByteArray) (w : World) (hs : s.size ≤ 1000000) (hT : QTabs T w) : Calls Tryz.prog 115 #[.string s] w fun e w' => e = .returned (.string ⟨(qB T s).toArray⟩) ∧ Below w.heap.size w w' := by
  refine (Tryz.strconv_Quote T s w (by omega) hT.prt hT.utf).mono ?_
  rintro e w' ⟨rfl, hb⟩
  exact ⟨rfl, hb⟩
theorem qB_len (T : Lib.PrintTabs) (s : ByteArray) : (qB T s).length ≤ 10 * s.size + 2 := by
  unfold qB
  rw [Lib.bytesOf_length]
  exact Lib.quoteZ_length_le T s
theorem itoa_len {x : Int} (h : I64 x) : (Lib.itoa x).length ≤ 21 := Lib.itoa_length_le x h.1 h.2
theorem wNums_len {l : List Int} (h : ∀ x ∈ l, I64 x) : (wNums l).length ≤ l.length * 22 := by
  induction l with
  | nil => exact Nat.zero_le _
  | cons v l ih =>
    have h1 := ih (fun x hx => h x (by simp [hx]))
    have h2 := itoa_len (h v (by simp))
    have e : wNums (v :: l) = 32 :: (Lib.itoa v ++ wNums l) := rfl
    rw [e, List.length_cons, List.length_append, List.length_cons, Nat.succ_mul]
    omega
theorem wTexts_len (T : Lib.PrintTabs) {l : List ByteArray} (h : ∀ x ∈ l, x.size ≤ 1000000) : (wTexts T l).length ≤ l.length * 10000003 := by
  induction l with
  | nil => exact Nat.zero_le _
  | cons v l ih =>
    have h1 := ih (fun x hx => h x (by simp [hx]))
    have h2 := qB_len T v
    have h3 := h v (by simp)
    have e : wTexts T (v :: l) = 32 :: (qB T v ++ wTexts T l) := rfl
    rw [e, List.length_cons, List.length_append, List.length_cons, Nat.succ_mul]
    omega
structure WRel (b : Nat) (w0 : World) (l : List UInt8) (W : World) : Prop where
  is : Lib.IsBuilder 164 5 b b (Lib.byteCells l) W
  below : Below b w0 W
  ge : b ≤ W.heap.size
theorem WRel.later {b : Nat} {w0 W W1 : World} {l : List UInt8} (h : WRel b w0 l W) (hb : Below W.heap.size W W1) : WRel b w0 l W1 := by
  have key : ∀ {p : Value}, Lib.BuilderAt 164 5 b b p (Lib.byteCells l) W → Lib.BuilderAt 164 5 b b p (Lib.byteCells l) W1 := by
    rintro p ⟨h1, v, h2, h3, h4⟩
    refine ⟨h1, v, (hb.block b (blk_lt h2)).trans h2, h3.kept (row := none) ⟨hb.os, hb.tape, hb.output, hb.size, fun i hi _ => hb.block i hi⟩ ?_, h4⟩
    cases v.ownBlock with
    | none => exact .inl rfl
    | some k => exact .inr (by simp)
  refine ⟨?_, h.below.trans (hb.mono h.ge), Nat.le_trans h.ge hb.size⟩
  rcases h.is with h | h
  · exact .inl (key h)
  · exact .inr (key h)
theorem WRel.wrote {b : Nat} {w0 W W1 : World} {l m : List UInt8} {s : ByteArray} (h : WRel b w0 l W) (hs : s.data.toList = m) (h1 : Lib.BuilderAt 164 5 b b (.pointer (some ⟨b, 0, none⟩)) (Lib.byteCells l ++ Lib.strCells s) W1) (hb : Below b W W1) : WRel b w0 (l ++ m) W1 := by
  refine ⟨.inr ?_, h.below.trans hb, Nat.le_trans h.ge hb.size⟩
  rw [Lib.strCells_eq, hs] at h1
  rwa [show Lib.byteCells (l ++ m) = Lib.byteCells l ++ Lib.byteCells m from List.map_append]
theorem M_slicesW {W : World} {B : Nat} {m : Node} {v1 v2 v3 : Value} (h : kNode.M W B (fun _ => True) m [.int .i64 m.kind, v1, v2, v3]) : ∃ A1 c1 A2 c2 A3 c3, v1 = .slice A1 m.ints.length c1 ∧ v2 = .slice A2 m.texts.length c2 ∧ v3 = .slice A3 m.kids.length c3 := by
  obtain ⟨x1, x2, x3, e, h1, h2, h3⟩ := kNode_openM h
  injection e with _ e
  injection e with e1 e
  injection e with e2 e
  injection e with e3 _
  subst e1 e2 e3
  obtain ⟨A1, c1, r1⟩ := Kd.R_slice h1
  obtain ⟨A2, c2, r2⟩ := Kd.R_slice h2
  obtain ⟨A3, c3, r3⟩ := Kd.R_slice h3
  exact ⟨A1, c1, A2, c2, A3, c3, r1, r2, r3⟩
end Go.Proofs.YtggldnbhmebcpaaGreatDoor.L
end
section
namespace Go.Proofs.YtggldnbhmebcpaaGreatDoor.L
open Go.RowKit Go.ChangeShapes Go.WideShapes Go.Proofs.YtggldnbhmebcpaaGreatDoorW.PrintWords Go.Proofs.YtggldnbhmebcpaaGreatDoorW.PrintLast Go.Proofs.YtggldnbhmebcpaaGreatDoorW.PrintMore
attribute [local go_sem] max2_int min2_int max_two min_two max_three min_three max_four min_four
theorem wTexts_snoc (T : Lib.PrintTabs) (l : List ByteArray) (x : ByteArray) : wTexts T (l ++ [x]) = wTexts T l ++ 32 :: qB T x := by simp [wTexts]
set_option maxRecDepth 100000 in
set_option maxHeartbeats 8000000 in
theorem word_any (T : Lib.PrintTabs) (n : Node) (A1 : Option Addr) (c1 : Nat) (A2 : Option Addr) (c2 : Nat) (A3 : Option Addr) (c3 : Nat) (Ao : Option Addr) (co : Nat) (own : List Int) (w : World) (h : NodeC w n A1 c1 A2 c2 A3 c3) (hs : Small n) (hts : ∀ x ∈ n.texts, x.size ≤ 1000000) (hn : NBd n)
  (ho : (Kd.int .i64).C w Ao own.length own) (hk : ∀ k ∈ n.kids, 0 ≤ k ∧ k < (own.length : Int)) (hoB : ∀ x ∈ own, I64 x) (hT : QTabs T w) :
  Calls Tryz.prog 93 #[.agg #[.int .i64 n.kind, .slice A1 n.ints.length c1, .slice A2 n.texts.length c2, .slice A3 n.kids.length c3], .slice Ao own.length co] w fun e w' => e = .returned (.string ⟨(nodeW T n own).toArray⟩) ∧ Below w.heap.size w w' := by
 have HN := Aside0.mk h
 have HS := Aside0.mk hs
 have HTS := Aside0.mk hts
 have HB := Aside0.mk hn
 have HO := Aside0.mk ho
 have HK := Aside0.mk hk
 have HOB := Aside0.mk hoB
 have HT := Aside0.mk hT
 have hun := Tryz.underlying42
 have hub := Tryz.underlying164
 have HA := Aside0.mk (below_alloc (Below.refl w.heap.size w) (.cells #[.int .i64 n.kind, .slice A1 n.ints.length c1, .slice A2 n.texts.length c2, .slice A3 n.kids.length c3] 42))
 clear h hs hts hn ho hk hoB hT
 go_enter Tryz.func93, Tryz.ntmps93
 go_wp2_with fail
 refine (copy_any n A1 c1 A2 c2 A3 c3 _ (HN.out.below HA.out) HS.out).mono ?_
 rintro e w1 ⟨v', rfl, ⟨v1, v2, v3, rfl, hM⟩, hB1⟩
 obtain ⟨A5, c5, A6, c6, A7, c7, rfl, rfl, rfl⟩ := M_slicesW hM
 have HN1 : Aside0 (NodeC w1 n A5 c5 A6 c6 A7 c7) := by
  obtain ⟨x1, x2, x3, e, h1, h2, h3⟩ := kNode_openM hM
  injection e with _ e
  injection e with e1 e
  injection e with e2 e
  injection e with e3 _
  subst e1 e2 e3
  have r1 := Kd.R_reads' h1
  have r2 := Kd.R_reads' h2
  have r3 := Kd.R_reads' h3
  exact ⟨r1.2.1, r2.2.1, r3.2.1, r1.2.2, r2.2.2, r3.2.2⟩
 have HB1 := Aside0.mk (below_step HA.out hB1)
 clear hM hB1 HN HA
 go_wp2_with fail
 have hA2 := below_alloc (Below.refl w1.heap.size w1) (.cells #[.int .i64 n.kind, .slice A5 n.ints.length c5, .slice A6 n.texts.length c6, .slice A7 n.kids.length c7] 42)
 have y1 := box_cell w1 _ rfl #[.int .i64 n.kind, .slice A5 n.ints.length c5, .slice A6 n.texts.length c6, .slice A7 n.kids.length c7] 42 1 (.slice A5 n.ints.length c5) rfl
 have y2 := box_cell w1 _ rfl #[.int .i64 n.kind, .slice A5 n.ints.length c5, .slice A6 n.texts.length c6, .slice A7 n.kids.length c7] 42 2 (.slice A6 n.texts.length c6) rfl
 have y3 := box_cell w1 _ rfl #[.int .i64 n.kind, .slice A5 n.ints.length c5, .slice A6 n.texts.length c6, .slice A7 n.kids.length c7] 42 3 (.slice A7 n.kids.length c7) rfl
 have HN2 := Aside0.mk (HN1.out.below hA2)
 have HB2 := Aside0.mk (below_step HB1.out hA2)
 have HO2 := Aside0.mk (Kd.C_below HO.out HB2.out)
 have HT2 := Aside0.mk (HT.out.below HB2.out)
 have hgx : w1.heap.size + 1 = (w1.alloc (.cells #[.int .i64 n.kind, .slice A5 n.ints.length c5, .slice A6 n.texts.length c6, .slice A7 n.kids.length c7] 42)).heap.size := by simp
 have HGx := Aside0.mk hgx
 rw [hgx]
 clear HN1 HB1 HO HT hA2 hgx
 generalize w1.alloc (.cells #[.int .i64 n.kind, .slice A5 n.ints.length c5, .slice A6 n.texts.length c6, .slice A7 n.kids.length c7] 42) = w2 at HN2 HB2 HO2 HT2 HGx y1 y2 y3 ⊢
 generalize w1.heap.size = gx at HGx y1 y2 y3 ⊢
 have HW2 : Aside0 (WRel w2.heap.size w2 [] (w2.alloc (.cells #[.pointer none, .slice none 0 0] 164))) :=
  ⟨Lib.fresh_isBuilder 164 5 w2, below_alloc (Below.refl _ _) _, by simp⟩
 have Y1 : ∀ W, Below w2.heap.size w2 W → W.cell? ⟨gx, 1, none⟩ = some (.slice A5 n.ints.length c5) := fun W h => pw_cell_below h y1
 have Y2 : ∀ W, Below w2.heap.size w2 W → W.cell? ⟨gx, 2, none⟩ = some (.slice A6 n.texts.length c6) := fun W h => pw_cell_below h y2
 have Y3 : ∀ W, Below w2.heap.size w2 W → W.cell? ⟨gx, 3, none⟩ = some (.slice A7 n.kids.length c7) := fun W h => pw_cell_below h y3
 have HY1 := Aside0.mk Y1
 have HY2 := Aside0.mk Y2
 have HY3 := Aside0.mk Y3
 clear y1 y2 y3 Y1 Y2 Y3
 have HLi := Aside0.mk (itoa_len HB.out.kind)
 refine (itoa_any T n.kind _ HB.out.kind (HT2.out.below (below_alloc (Below.refl _ _) _))).mono ?_
 rintro e w3 ⟨rfl, hB3⟩
 have HW3 := Aside0.mk (HW2.out.later hB3)
 clear HW2 hB3
 go_wp2_with fail
 refine (wstr_any _ _ _ _ _ HW3.out.is (by rw [Lib.byteCells_length]; show 0 + (Lib.itoa n.kind).length ≤ _; have := HLi.out; omega) HW3.out.ge).mono ?_
 rintro e w4 ⟨rfl, hw4, hB4⟩
 have HW4 := Aside0.mk (HW3.out.wrote (m := Lib.itoa n.kind) rfl hw4 hB4)
 have x1 := HY1.out _ HW4.out.below
 clear HW3 hw4 hB4
 go_wp2
 clear x1
 go_loopw [22] (fun v22 W => ∃ i : Nat, i ≤ n.ints.length ∧ v22 = .int .i64 i ∧ Aside0 (WRel w2.heap.size w2 (Lib.itoa n.kind ++ wNums (n.ints.take i)) W)) (fun v22 _ => n.ints.length - (intOf v22).toNat)
 case atStart => exact ⟨0, by omega, rfl, by rw [List.take_zero]; exact ⟨by have := HW4.out; simpa [wNums] using this⟩⟩
 case round =>
  clear HW4
  obtain ⟨i, hi, rfl, HI⟩ := hrel
  have hil : n.ints.length ≤ 1000000 := HS.out.1
  by_cases hlt : i < n.ints.length
  ·obtain ⟨ad, rfl, z0⟩ := at_nat (HN2.out.below HI.out.below).i i hlt
   have HX := Aside0.mk (HB.out.ints _ (rd_mem hlt))
   have HLx := Aside0.mk (itoa_len HX.out)
   have HTk := Aside0.mk (show wNums (n.ints.take (i + 1)) = wNums (n.ints.take i) ++ 32 :: Lib.itoa (rd n.ints (i : Int)) from by rw [take_succ_rd hlt]; simp [wNums])
   have HLp := Aside0.mk (wNums_len (l := n.ints.take i) (fun x hx => HB.out.ints x (List.mem_of_mem_take hx)))
   generalize rd n.ints (i : Int) = x at z0 HX HLx HTk
   have hlx := HLx.out
   go_wp2_with fail
   refine (fint_any T x _ HX.out (HT2.out.below HI.out.below)).mono ?_
   rintro e w6 ⟨rfl, hB6⟩
   have HW6 := Aside0.mk (HI.out.later hB6)
   clear hB6 z0
   go_wp2_with fail
   refine (wstr_any _ _ _ _ _ HW6.out.is (by
    rw [Lib.byteCells_length, List.length_append]
    have h1 := HLi.out
    have h2 := HLp.out
    have h3 : (n.ints.take i).length ≤ 1000000 := by rw [List.length_take]; omega
    have h4 : (⟨#[32]⟩ ++ ⟨(Lib.itoa x).toArray⟩ : ByteArray).size = 1 + (Lib.itoa x).length := by rw [ByteArray.size_append]; rfl
    rw [h4]; omega) HW6.out.ge).mono ?_
   rintro e w7 ⟨rfl, hw7, hB7⟩
   have HW7 := Aside0.mk (HW6.out.wrote (m := 32 :: Lib.itoa x) (by simp) hw7 hB7)
   clear HW6 hw7 hB7
   rw [List.append_assoc, ← HTk.out] at HW7
   go_wp2
   go_roundw
   case rel => exact ⟨i + 1, by omega, by go_num, HW7⟩
   case measure => simp [intOf]; omega
  ·obtain rfl : i = n.ints.length := by omega
   rw [List.take_length] at HI
   have x2 := HY2.out _ HI.out.below
   have HLp := Aside0.mk (wNums_len (l := n.ints) HB.out.ints)
   clear hlt hi
   go_wp2
   clear x2
   go_loopw [34] (fun v34 W => ∃ i : Nat, i ≤ n.texts.length ∧ v34 = .int .i64 i ∧ Aside0 (WRel w2.heap.size w2 (Lib.itoa n.kind ++ (wNums n.ints ++ wTexts T (n.texts.take i))) W)) (fun v34 _ => n.texts.length - (intOf v34).toNat)
   case atStart => exact ⟨0, by omega, rfl, by rw [List.take_zero]; exact ⟨by have := HI.out; simpa [wTexts] using this⟩⟩
   case round =>
    clear HI
    obtain ⟨i, hi, rfl, HI⟩ := hrel
    have htl : n.texts.length ≤ 1000000 := HS.out.2.1
    by_cases hlt : i < n.texts.length
    ·obtain ⟨ad, rfl, z0⟩ := at_str (HN2.out.below HI.out.below).t i hlt
     have HX := Aside0.mk (show (str n.texts i).size ≤ 1000000 from HTS.out _ (by
      have : str n.texts i = n.texts[i] := by unfold str; rw [List.getD_eq_getElem?_getD, List.getElem?_eq_getElem hlt]; rfl
      rw [this]; exact List.getElem_mem hlt))
     have HTk := Aside0.mk (show wTexts T (n.texts.take (i + 1)) = wTexts T (n.texts.take i) ++ 32 :: qB T (str n.texts i) from by
      have : str n.texts i = n.texts[i] := by unfold str; rw [List.getD_eq_getElem?_getD, List.getElem?_eq_getElem hlt]; rfl
      rw [List.take_succ_eq_append_getElem hlt, this, wTexts_snoc])
     have HLt := Aside0.mk (wTexts_len T (l := n.texts.take i) (fun x hx => HTS.out x (List.mem_of_mem_take hx)))
     generalize str n.texts i = x at z0 HX HTk
     have hlx := qB_len T x
     have hx1 := HX.out
     go_wp2_with fail
     refine (quote_any T x _ HX.out (HT2.out.below HI.out.below)).mono ?_
     rintro e w6 ⟨rfl, hB6⟩
     have HW6 := Aside0.mk (HI.out.later hB6)
     clear hB6 z0
     go_wp2_with fail
     refine (wstr_any _ _ _ _ _ HW6.out.is (by
      rw [Lib.byteCells_length, List.length_append, List.length_append]
      have h1 := HLi.out
      have h2 := HLp.out
      have h2' := HLt.out
      have h5 : n.ints.length ≤ 1000000 := HS.out.1
      have h3 : (n.texts.take i).length ≤ 1000000 := by rw [List.length_take]; omega
      have h4 : (⟨#[32]⟩ ++ ⟨(qB T x).toArray⟩ : ByteArray).size = 1 + (qB T x).length := by rw [ByteArray.size_append]; rfl
      rw [h4]; omega) HW6.out.ge).mono ?_
     rintro e w7 ⟨rfl, hw7, hB7⟩
     have HW7 := Aside0.mk (HW6.out.wrote (m := 32 :: qB T x) (by simp) hw7 hB7)
     clear HW6 hw7 hB7
     rw [List.append_assoc, List.append_assoc, ← HTk.out] at HW7
     go_wp2
     go_roundw
     case rel => exact ⟨i + 1, by omega, by go_num, HW7⟩
     case measure => simp [intOf]; omega
    ·obtain rfl : i = n.texts.length := by omega
     rw [List.take_length] at HI
     have HLt := Aside0.mk (wTexts_len T (l := n.texts) HTS.out)
     clear hlt hi
     go_wp2_with fail
     refine (wstr_any _ _ _ _ _ HI.out.is (by
      rw [Lib.byteCells_length, List.length_append, List.length_append]
      have h1 := HLi.out
      have h2 := HLp.out
      have h2' := HLt.out
      have h5 : n.ints.length ≤ 1000000 := HS.out.1
      show _ + 2 ≤ _
      omega) HI.out.ge).mono ?_
     rintro e w8 ⟨rfl, hw8, hB8⟩
     have HW8 := Aside0.mk (HI.out.wrote (m := [32, 47]) rfl hw8 hB8)
     clear HI hw8 hB8
     have x3 := HY3.out _ HW8.out.below
     go_wp2
     clear x3
     go_loopw [47] (fun v47 W => ∃ i : Nat, i ≤ n.kids.length ∧ v47 = .int .i64 i ∧ Aside0 (WRel w2.heap.size w2 (Lib.itoa n.kind ++ (wNums n.ints ++ (wTexts T n.texts ++ 32 :: 47 :: wNums ((n.kids.take i).map (rd own))))) W)) (fun v47 _ => n.kids.length - (intOf v47).toNat)
     case atStart => exact ⟨0, by omega, rfl, by rw [List.take_zero]; exact ⟨by have := HW8.out; simpa [wNums] using this⟩⟩
     case round =>
      clear HW8
      obtain ⟨i, hi, rfl, HI⟩ := hrel
      have hkl : n.kids.length ≤ 1000000 := HS.out.2.2
      by_cases hlt : i < n.kids.length
      ·obtain ⟨ad, rfl, z0⟩ := at_nat (HN2.out.below HI.out.below).k i hlt
       have HQ := Aside0.mk (HK.out _ (rd_mem hlt))
       have HTk := Aside0.mk (show (n.kids.take (i + 1)).map (rd own) = (n.kids.take i).map (rd own) ++ [rd own (rd n.kids (i : Int))] from by rw [take_succ_rd hlt, List.map_append]; rfl)
       obtain ⟨k, hk⟩ : ∃ k : Nat, rd n.kids (i : Int) = (k : Int) := ⟨(rd n.kids (i : Int)).toNat, by have := HQ.out.1; omega⟩
       have hkn : k < own.length := by have := HQ.out.2; omega
       rw [hk] at z0 HTk
       obtain ⟨ao, rfl, z1⟩ := at_nat (Kd.C_below HO2.out HI.out.below) k hkn
       have HX := Aside0.mk (HOB.out _ (rd_mem hkn))
       have HLp2 := Aside0.mk (wNums_len (l := (n.kids.take i).map (rd own)) (fun x hx => by
        obtain ⟨q, hq, rfl⟩ := List.mem_map.1 hx
        have h1 := HK.out q (List.mem_of_mem_take hq)
        obtain ⟨p, rfl⟩ : ∃ p : Nat, q = (p : Int) := ⟨q.toNat, by omega⟩
        exact HOB.out _ (rd_mem (by omega))))
       have HTk2 := Aside0.mk (show wNums ((n.kids.take (i + 1)).map (rd own)) = wNums ((n.kids.take i).map (rd own)) ++ 32 :: Lib.itoa (rd own (k : Int)) from by rw [HTk.out]; simp [wNums])
       clear hk HTk HQ
       generalize rd own (k : Int) = x at z1 HX HTk2
       have HLx := Aside0.mk (itoa_len HX.out)
       have hlx := HLx.out
       go_wp2_with fail
       refine (itoa_any T x _ HX.out (HT2.out.below HI.out.below)).mono ?_
       rintro e w6 ⟨rfl, hB6⟩
       have HW6 := Aside0.mk (HI.out.later hB6)
       clear hB6 z0 z1
       go_wp2_with fail
       refine (wstr_any _ _ _ _ _ HW6.out.is (by
        rw [Lib.byteCells_length, List.length_append, List.length_append, List.length_append, List.length_cons, List.length_cons]
        have h1 := HLi.out
        have h2 := HLp.out
        have h2' := HLt.out
        have h2'' := HLp2.out
        have h5 : n.ints.length ≤ 1000000 := HS.out.1
        have h6 : n.texts.length ≤ 1000000 := HS.out.2.1
        have h3 : ((n.kids.take i).map (rd own)).length ≤ 1000000 := by rw [List.length_map, List.length_take]; omega
        have h4 : (⟨#[32]⟩ ++ ⟨(Lib.itoa x).toArray⟩ : ByteArray).size = 1 + (Lib.itoa x).length := by rw [ByteArray.size_append]; rfl
        rw [h4]; omega) HW6.out.ge).mono ?_
       rintro e w7 ⟨rfl, hw7, hB7⟩
       have HW7 := Aside0.mk (HW6.out.wrote (m := 32 :: Lib.itoa x) (by simp) hw7 hB7)
       clear HW6 hw7 hB7
       rw [show ∀ a b c d e : List UInt8, a ++ (b ++ (c ++ 32 :: 47 :: d)) ++ e = a ++ (b ++ (c ++ 32 :: 47 :: (d ++ e))) from fun a b c d e => by simp, ← HTk2.out] at HW7
       go_wp2
       go_roundw
       case rel => exact ⟨i + 1, by omega, by go_num, HW7⟩
       case measure => simp [intOf]; omega
      ·obtain rfl : i = n.kids.length := by omega
       rw [List.take_length] at HI
       clear hlt hi
       go_wp2_with fail
       refine (Tryz.Builder_String_any _ _ _ _ HI.out.is HI.out.ge).mono ?_
       rintro e w9 ⟨rfl, hB9⟩
       have HB9 := Aside0.mk (HB2.out.trans ((HI.out.below.trans hB9).mono HB2.out.size))
       clear hB9 HI
       go_wp2
       go_ret
       exact ⟨rfl, HB9.out⟩
end Go.Proofs.YtggldnbhmebcpaaGreatDoor.L
end
section
namespace Go.Proofs.YtggldnbhmebcpaaGreatDoor.L
open Go.RowKit Go.ChangeShapes Go.WideShapes Go.Proofs.YtggldnbhmebcpaaGreatDoorW.PrintWords Go.Proofs.YtggldnbhmebcpaaGreatDoorW.PrintLast Go.Proofs.YtggldnbhmebcpaaGreatDoorW.PrintMore
attribute [local go_sem] max2_int min2_int max_two min_two max_three min_three max_four min_four
theorem all_snoc (T : Lib.PrintTabs) (l : List Scene) (s : Scene) : allS T (l ++ [s]) = ((ownS T (allS T l).1 s.nodes).1, (allS T l).2 ++ [(ownS T (allS T l).1 s.nodes).2]) := by
  unfold allS
  rw [List.foldl_append]; rfl
structure AllSpec (T : Lib.PrintTabs) (l : List Scene) (r : List (List UInt8) × List (List Int)) : Prop where
  len : r.2.length = l.length
  numd : ∀ i : Nat, i < l.length → Numd T r.1 (l.getD i ⟨[], 0⟩).nodes (r.2.getD i [])
  from_ : ∀ x ∈ r.1, ∃ i j : Nat, i < l.length ∧ j < (l.getD i ⟨[], 0⟩).nodes.length ∧ x = nodeW T (nd (l.getD i ⟨[], 0⟩).nodes j) (r.2.getD i [])
  nodup : r.1.Nodup
theorem getD_snoc_lt {α : Type} {l : List α} {x d : α} {i : Nat} (h : i < l.length) : (l ++ [x]).getD i d = l.getD i d := by
  rw [List.getD_eq_getElem?_getD, List.getD_eq_getElem?_getD, List.getElem?_append_left h]
theorem getD_snoc_eq {α : Type} {l : List α} {x d : α} : (l ++ [x]).getD l.length d = x := by
  rw [List.getD_eq_getElem?_getD, List.getElem?_append_right (Nat.le_refl _)]
  simp
theorem all_specN (T : Lib.PrintTabs) : ∀ (n : Nat) {l : List Scene}, l.length = n → (∀ s ∈ l, AheadN s.nodes) → AllSpec T l (allS T l)
  | 0, l, hn, _ => by
    obtain rfl := List.eq_nil_of_length_eq_zero hn
    exact ⟨rfl, fun i hi => absurd hi (Nat.not_lt_zero _), fun x hx => by simp [allS] at hx, by simp [allS]⟩
  | n + 1, l, hn, hA => by
    rcases snoc_cases l with rfl | ⟨l, s, rfl⟩
    · simp at hn
    · have ih := all_specN T n (l := l) (by simpa using hn) (fun s hs => hA s (by simp [hs]))
      have hs := own_spec T (allS T l).1 (hA s (by simp))
      rw [all_snoc]
      generalize allS T l = st at ih hs ⊢
      obtain ⟨vs, outs⟩ := st
      have hlen : outs.length = l.length := ih.len
      generalize ownS T vs s.nodes = r at hs ⊢
      obtain ⟨us, own⟩ := r
      have hs : OwnSpec T vs s.nodes (us, own) := hs
      refine ⟨by show (outs ++ [own]).length = _; simp [hlen], fun i hi => ?_, fun x hx => ?_, hs.nodup ih.nodup⟩
      · show Numd T us ((l ++ [s]).getD i ⟨[], 0⟩).nodes ((outs ++ [own]).getD i [])
        by_cases h : i < l.length
        · rw [getD_snoc_lt h, getD_snoc_lt (by omega)]
          exact (ih.numd i h).pre hs.pre
        · have : i = l.length := by simp at hi; omega
          subst this
          rw [getD_snoc_eq]
          conv => arg 4; rw [← hlen]
          rw [getD_snoc_eq]
          exact hs.numd
      · rcases hs.from_ x hx with hx | ⟨j, hj, rfl⟩
        · obtain ⟨i, j, hi, hj, e⟩ := ih.from_ x hx
          refine ⟨i, j, by simp; omega, by rw [getD_snoc_lt hi]; exact hj, ?_⟩
          show x = nodeW T (nd ((l ++ [s]).getD i ⟨[], 0⟩).nodes j) ((outs ++ [own]).getD i [])
          rw [getD_snoc_lt hi, getD_snoc_lt (by omega)]
          exact e
        · refine ⟨l.length, j, by simp, by rw [getD_snoc_eq]; exact hj, ?_⟩
          show _ = nodeW T (nd ((l ++ [s]).getD l.length ⟨[], 0⟩).nodes j) ((outs ++ [own]).getD l.length [])
          rw [getD_snoc_eq]
          conv => rhs; arg 3; rw [← hlen]
          rw [getD_snoc_eq]
theorem all_spec (T : Lib.PrintTabs) {l : List Scene} (hA : ∀ s ∈ l, AheadN s.nodes) : AllSpec T l (allS T l) := all_specN T l.length rfl hA
end Go.Proofs.YtggldnbhmebcpaaGreatDoor.L
end
section
namespace Go.Proofs.YtggldnbhmebcpaaGreatDoor.L
open Go.RowKit Go.ChangeShapes Go.WideShapes Go.Proofs.YtggldnbhmebcpaaGreatDoorW.PrintWords Go.Proofs.YtggldnbhmebcpaaGreatDoorW.PrintLast Go.Proofs.YtggldnbhmebcpaaGreatDoorW.PrintMore
attribute [local go_sem] max2_int min2_int max_two min_two max_three min_three max_four min_four
structure Iso (ns ms : List Node) (f : Int → Int) : Prop where
  len : ns.length = ms.length
  pl : ∀ x, Pl ms x → Pl ns (f x)
  inj : ∀ x y, Pl ms x → Pl ms y → f x = f y → x = y
  nd : ∀ x, Pl ms x → nd ns (f x).toNat = ⟨(nd ms x.toNat).kind, (nd ms x.toNat).ints, (nd ms x.toNat).texts, (kids ms x).map f⟩
theorem Iso.kids {ns ms : List Node} {f : Int → Int} (h : Iso ns ms f) {x : Int} (hx : Pl ms x) : L.kids ns (f x) = (L.kids ms x).map f := by
  show (L.nd ns (f x).toNat).kids = _
  rw [h.nd x hx]
theorem Iso.mem {ns ms : List Node} {f : Int → Int} (h : Iso ns ms f) {x : Int} (hx : Pl ms x) {l : List Int} (hl : ∀ y ∈ l, Pl ms y) : f x ∈ l.map f ↔ x ∈ l := by
  refine ⟨fun hm => ?_, fun hm => List.mem_map_of_mem hm⟩
  obtain ⟨y, hy, e⟩ := List.mem_map.1 hm
  rw [h.inj x y hx (hl y hy) e.symm]; exact hy
theorem kids_pl {ms : List Node} (hP : Places ms) {x : Int} (hx : Pl ms x) : ∀ k ∈ kids ms x, Pl ms k := fun k hk => hP x.toNat (by have := hx.1; have := hx.2; omega) k hk
theorem Iso.meet {ns ms : List Node} {f : Int → Int} (h : Iso ns ms f) (hP : Places ms) : ∀ (m : Nat) (a : Int) (met : List Int), Pl ms a → (∀ x ∈ met, Pl ms x) →
    L.meet ns m (f a) (met.map f) = (L.meet ms m a met).map f ∧ ∀ x ∈ L.meet ms m a met, Pl ms x
  | 0, a, met, _, hm => ⟨rfl, hm⟩
  | m + 1, a, met, ha, hm => by
    unfold L.meet
    by_cases hin : a ∈ met
    · rw [if_pos hin, if_pos ((h.mem ha hm).2 hin)]
      exact ⟨rfl, hm⟩
    · rw [if_neg hin, if_neg (fun e => hin ((h.mem ha hm).1 e)), h.kids ha, List.foldl_map]
      have key : ∀ (l met : List Int), (∀ k ∈ l, Pl ms k) → (∀ x ∈ met, Pl ms x) →
          l.foldl (fun v k => L.meet ns m (f k) v) (met.map f) = (l.foldl (fun v k => L.meet ms m k v) met).map f ∧ ∀ x ∈ l.foldl (fun v k => L.meet ms m k v) met, Pl ms x := by
        intro l
        induction l with
        | nil => intro met _ hm; exact ⟨rfl, hm⟩
        | cons k l ih =>
          intro met hl hm
          obtain ⟨e1, e2⟩ := Iso.meet h hP m k met (hl k (by simp)) hm
          rw [List.foldl_cons, List.foldl_cons, e1]
          exact ih _ (fun y hy => hl y (by simp [hy])) e2
      obtain ⟨e1, e2⟩ := key (L.kids ms a) met (kids_pl hP ha) hm
      refine ⟨?_, fun x hx => ?_⟩
      · rw [List.map_append, ← e1]; rfl
      · rcases List.mem_append.1 hx with hx | hx
        · exact e2 x hx
        · rw [List.mem_singleton.1 hx]; exact ha
theorem Iso.rch {ns ms : List Node} {f : Int → Int} (h : Iso ns ms f) (hP : Places ms) {l : List Int} (hl : ∀ k ∈ l, Pl ms k) {x : Int} (hr : Rch ms l x) : Rch ns (l.map f) (f x) ∧ Pl ms x := by
  induction hr with
  | base hk => exact ⟨.base (List.mem_map_of_mem hk), hl _ hk⟩
  | step _ hk ih => exact ⟨.step ih.1 (by rw [h.kids ih.2]; exact List.mem_map_of_mem hk), kids_pl hP ih.2 _ hk⟩
theorem Iso.ord {s t : Scene} {f : Int → Int} (h : Iso s.nodes t.nodes f) (hP : Places t.nodes) (hr : Pl t.nodes t.root) (he : s.root = f t.root) : L.ord s = (L.ord t).map f ∧ ∀ x ∈ L.ord t, Pl t.nodes x := by
  unfold L.ord M
  rw [he, h.len]
  exact h.meet hP _ _ [] hr (fun x hx => by simp at hx)
theorem Shut.len {ns : List Node} {m : List Int} (h : Shut ns m) : m.length ≤ ns.length := nodup_len h.nd h.pl
theorem shut_next {ns : List Node} {met : List Int} (hs : Shut ns met) (a : Int) : ∀ x ∈ met, ¬ Rch ns (kids ns x) a ∨ a ∈ met := fun x hx => by
  by_cases hr : Rch ns (kids ns x) a
  · right
    have : ∀ y, Rch ns (kids ns x) y → y ∈ met := fun y hy => by
      induction hy with
      | base hb => exact hs.kids x hx _ hb
      | step _ hb ih => exact hs.kids _ ih _ hb
    exact this a hr
  · exact .inl hr
theorem ord_met' {s : Scene} (hd : Dag s.nodes) (hr : Pl s.nodes s.root) : Met s.nodes s.root [] (ord s) := M_met hd _ _ _ (Nat.lt_succ_self _) hr (Shut.nil _) (fun x hx => by simp at hx)
end Go.Proofs.YtggldnbhmebcpaaGreatDoor.L
end
section
namespace Go.Proofs.YtggldnbhmebcpaaGreatDoor.L
open Go.RowKit Go.ChangeShapes Go.WideShapes Go.Proofs.YtggldnbhmebcpaaGreatDoorW.PrintWords Go.Proofs.YtggldnbhmebcpaaGreatDoorW.PrintLast Go.Proofs.YtggldnbhmebcpaaGreatDoorW.PrintMore
attribute [local go_sem] max2_int min2_int max_two min_two max_three min_three max_four min_four
theorem canon_iso {s : Scene} (h : Right s) : Iso (canonL s) s.nodes (fun x => (idx s x : Int)) := by
  have hlen : (canonL s).length = s.nodes.length := by
    have := ord_len h
    simp [canonL, this]
  refine ⟨hlen, fun x hx => ?_, fun x y hx hy he => ?_, fun x hx => ?_⟩
  · obtain ⟨q, rfl⟩ : ∃ q : Nat, x = (q : Int) := ⟨x.toNat, by have := hx.1; omega⟩
    have := (at_idx h (p := q) (by have := hx.2; omega)).1
    exact ⟨by omega, by omega⟩
  · obtain ⟨q, rfl⟩ : ∃ q : Nat, x = (q : Int) := ⟨x.toNat, by have := hx.1; omega⟩
    obtain ⟨r, rfl⟩ : ∃ r : Nat, y = (r : Int) := ⟨y.toNat, by have := hy.1; omega⟩
    have := idx_inj h (p := q) (q := r) (by have := hx.2; omega) (by have := hy.2; omega) (by
      have he' : (idx s (q : Int) : Int) = (idx s (r : Int) : Int) := he
      omega)
    rw [this]
  · obtain ⟨q, rfl⟩ : ∃ q : Nat, x = (q : Int) := ⟨x.toNat, by have := hx.1; omega⟩
    obtain ⟨h1, h2⟩ := at_idx h (p := q) (by have := hx.2; omega)
    show nd (canonL s) ((idx s (q : Int) : Int)).toNat = _
    rw [Int.toNat_natCast]
    have hl : idx s (q : Int) < (ord s).length := by rw [ord_len h]; exact h1
    unfold canonL
    unfold nd
    rw [List.getD_eq_getElem?_getD, List.getElem?_map, List.getElem?_eq_getElem hl]
    have h3 : (ord s)[idx s (q : Int)] = (q : Int) := (rd_eq hl).symm.trans h2
    rw [h3]
    rfl
theorem canon_root {s : Scene} (h : Right s) : (s.nodes.length : Int) - 1 = (idx s s.root : Int) := by
  have hpl : Pl s.nodes s.root := ⟨h.r0, h.r1⟩
  have ho : ord s = ML s.nodes (kids s.nodes s.root) [] ++ [s.root] := by
    show M s.nodes s.root [] = _
    exact M_out h.dag hpl (by simp)
  have hl := ord_len h
  have hnd := ord_nodup h
  rw [ho] at hl hnd
  rw [List.length_append, List.length_singleton] at hl
  have hni : ¬ s.root ∈ ML s.nodes (kids s.nodes s.root) [] := fun hm => by
    exact (List.nodup_append.1 hnd).2.2 s.root hm s.root (by simp) rfl
  unfold idx
  rw [ho, List.idxOf_append, if_neg hni]
  simp
  omega
theorem canon_right {s : Scene} (h : Right s) : Right ⟨canonL s, (s.nodes.length : Int) - 1⟩ := by
  have hi := canon_iso h
  have hlen : (canonL s).length = s.nodes.length := hi.len
  have hn : 0 < s.nodes.length := by have := h.r0; have := h.r1; omega
  have hsur : ∀ m : Nat, m < (canonL s).length → ∃ q : Nat, q < s.nodes.length ∧ (m : Int) = (idx s (q : Int) : Int) := fun m hm => by
    obtain ⟨q, hq, hqn⟩ := ord_at h (m := m) (by omega)
    refine ⟨q, hqn, ?_⟩
    have := idx_at h (m := m) (by omega)
    rw [hq] at this
    rw [this]
  refine ⟨by show 0 ≤ (s.nodes.length : Int) - 1; omega, by show (s.nodes.length : Int) - 1 < ((canonL s).length : Int); omega, fun m hm k hk => ?_, fun m hm hc => ?_, fun m hm => ?_⟩
  · obtain ⟨q, hq, e⟩ := hsur m hm
    have hkk : k ∈ kids (canonL s) (idx s (q : Int) : Int) := by rw [← e]; unfold kids; rw [Int.toNat_natCast]; exact hk
    rw [hi.kids ⟨by omega, by omega⟩] at hkk
    obtain ⟨x, hx, rfl⟩ := List.mem_map.1 hkk
    exact hi.pl x (kids_pl h.pl ⟨by omega, by omega⟩ x hx)
  · obtain ⟨q, hq, e⟩ := hsur m hm
    have hqp : Pl s.nodes (q : Int) := ⟨by omega, by omega⟩
    have back : ∀ (l : List Int), (∀ k ∈ l, Pl s.nodes k) → ∀ y, Rch (canonL s) (l.map (fun x => (idx s x : Int))) y → ∃ x, Pl s.nodes x ∧ y = (idx s x : Int) ∧ Rch s.nodes l x := fun l hl y hy => by
      induction hy with
      | base hk =>
        obtain ⟨x, hx, rfl⟩ := List.mem_map.1 hk
        exact ⟨x, hl x hx, rfl, .base hx⟩
      | step _ hk ih =>
        obtain ⟨x, hx, rfl, hrx⟩ := ih
        rw [hi.kids hx] at hk
        obtain ⟨z, hz, rfl⟩ := List.mem_map.1 hk
        exact ⟨z, kids_pl h.pl hx z hz, rfl, .step hrx hz⟩
    have hc' : Rch (canonL s) (kids (canonL s) (m : Int)) (m : Int) := hc
    rw [e, hi.kids hqp] at hc'
    obtain ⟨x, hx, ex, hrx⟩ := back _ (kids_pl h.pl hqp) _ hc'
    have := hi.inj _ _ hqp hx ex
    rw [← this] at hrx
    exact h.cyc q hq hrx
  · obtain ⟨q, hq, e⟩ := hsur m hm
    rw [e]
    have h1 := (hi.rch h.pl (l := [s.root]) (fun k hk => by rw [List.mem_singleton.1 hk]; exact ⟨h.r0, h.r1⟩) (h.all q hq)).1
    show Rch (canonL s) [(s.nodes.length : Int) - 1] _
    rw [canon_root h]
    exact h1
end Go.Proofs.YtggldnbhmebcpaaGreatDoor.L
end
section
namespace Go.Proofs.YtggldnbhmebcpaaGreatDoor.L
open Go.RowKit Go.ChangeShapes Go.WideShapes Go.Proofs.YtggldnbhmebcpaaGreatDoorW.PrintWords Go.Proofs.YtggldnbhmebcpaaGreatDoorW.PrintLast Go.Proofs.YtggldnbhmebcpaaGreatDoorW.PrintMore
attribute [local go_sem] max2_int min2_int max_two min_two max_three min_three max_four min_four
theorem isC_right {s : Scene} (h : isC s = true) : Right s := by
  have h1 := (of_decide_eq_true h).2
  refine gcheck_right.1 (Classical.byContradiction fun hn => ?_)
  unfold nums at h1
  rw [if_neg hn] at h1
  simp at h1
theorem ord_iota {s : Scene} (h : Right s) : (ord s).map (fun x => (idx s x : Int)) = iota s.nodes.length := by
  have hl := ord_len h
  refine List.ext_getElem (by rw [List.length_map, hl, iota_len]) (fun m h1 h2 => ?_)
  rw [List.length_map] at h1
  rw [List.getElem_map]
  have h3 := idx_at h (m := m) (by omega)
  rw [rd_eq h1] at h3
  rw [h3]
  have h4 := iota_rd s.nodes.length m (by omega)
  rw [rd_eq h2] at h4
  exact h4.symm
theorem canon_ord {s : Scene} (h : Right s) : ord ⟨canonL s, (s.nodes.length : Int) - 1⟩ = iota s.nodes.length := by
  have hi := canon_iso h
  have := (hi.ord (s := ⟨canonL s, (s.nodes.length : Int) - 1⟩) h.pl ⟨h.r0, h.r1⟩ (canon_root h)).1
  rw [this]
  exact ord_iota h
theorem idxOf_iota (n p : Nat) (h : p < n) : (iota n).idxOf (p : Int) = p := by
  have hp : p < (iota n).length := by rw [iota_len]; exact h
  have hnd : (iota n).Nodup := by
    unfold iota
    refine List.pairwise_map.2 (List.Pairwise.imp ?_ List.nodup_range)
    intro a b hab e
    exact hab (by omega)
  have e : (iota n)[p] = (p : Int) := by have := iota_rd n p h; rwa [rd_eq hp] at this
  have := hnd.idxOf_getElem p hp
  rwa [e] at this
theorem canon_isC {s : Scene} (h : Right s) : isC ⟨canonL s, (s.nodes.length : Int) - 1⟩ = true := by
  have hr := canon_right h
  have hlen : (canonL s).length = s.nodes.length := (canon_iso h).len
  have hn : 0 < s.nodes.length := by have := h.r0; have := h.r1; omega
  have hnum : nums ⟨canonL s, (s.nodes.length : Int) - 1⟩ = iota s.nodes.length := by
    unfold nums
    rw [if_pos (gcheck_right.2 hr)]
    unfold numsL
    show (List.range (canonL s).length).map _ = _
    rw [hlen]
    unfold iota
    refine List.map_congr_left (fun p hp => ?_)
    unfold idx
    rw [canon_ord h, idxOf_iota _ _ (List.mem_range.1 hp)]
  refine decide_eq_true ?_
  rw [hnum, iota_len]
  exact ⟨rfl, hn⟩
theorem isC_idx {s : Scene} (h : Right s) (hc : isC s = true) {p : Nat} (hp : p < s.nodes.length) : idx s (p : Int) = p := by
  have h1 := (of_decide_eq_true hc).1
  have h2 : nums s = numsL s := by unfold nums; rw [if_pos (gcheck_right.2 h)]
  rw [h2, numsL_len] at h1
  have h3 := numsL_rd s p hp
  rw [h1, iota_rd _ _ hp] at h3
  omega
theorem isC_eq {s : Scene} (h : Right s) (hc : isC s = true) : s = ⟨canonL s, (s.nodes.length : Int) - 1⟩ := by
  have hlen : (canonL s).length = s.nodes.length := (canon_iso h).len
  have hroot : s.root = (s.nodes.length : Int) - 1 := by
    have h1 := canon_root h
    obtain ⟨r, hr⟩ : ∃ r : Nat, s.root = (r : Int) := ⟨s.root.toNat, by have := h.r0; omega⟩
    rw [hr] at h1
    rw [isC_idx h hc (p := r) (by have := h.r1; omega)] at h1
    omega
  have hnodes : s.nodes = canonL s := by
    refine List.ext_getElem hlen.symm (fun p h1 h2 => ?_)
    have h3 := (canon_iso h).nd (p : Int) ⟨by omega, by omega⟩
    rw [isC_idx h hc h1, Int.toNat_natCast] at h3
    unfold nd kids nd at h3
    rw [Int.toNat_natCast, getD_eq _ h2, getD_eq _ h1] at h3
    rw [h3]
    generalize hx : s.nodes[p] = x
    have hk : ∀ k ∈ x.kids, Pl s.nodes k := fun k hk => h.pl p h1 k (by unfold nd; rw [getD_eq _ h1, hx]; exact hk)
    have e : x.kids.map (fun x => (idx s x : Int)) = x.kids := by
      conv => rhs; rw [← List.map_id x.kids]
      refine List.map_congr_left (fun k hkk => ?_)
      have hkp := hk k hkk
      obtain ⟨q, rfl⟩ : ∃ q : Nat, k = (q : Int) := ⟨k.toNat, by have := hkp.1; omega⟩
      show ((idx s (q : Int) : Nat) : Int) = _
      rw [isC_idx h hc (by have := hkp.2; omega)]
      rfl
    cases x
    simp only at e ⊢
    rw [e]
  cases s
  simp only at hnodes hroot ⊢
  congr 1
theorem isC_iff {s : Scene} (h : Right s) : isC s = true ↔ (⟨canonL s, (s.nodes.length : Int) - 1⟩ : Scene) = s :=
  ⟨fun hc => (isC_eq h hc).symm, fun e => by have := canon_isC h; rwa [e] at this⟩
end Go.Proofs.YtggldnbhmebcpaaGreatDoor.L
end
section
namespace Go.Proofs.YtggldnbhmebcpaaGreatDoor.L
open Go.RowKit Go.ChangeShapes Go.WideShapes Go.Proofs.YtggldnbhmebcpaaGreatDoorW.PrintWords Go.Proofs.YtggldnbhmebcpaaGreatDoorW.PrintLast Go.Proofs.YtggldnbhmebcpaaGreatDoorW.PrintMore
attribute [local go_sem] max2_int min2_int max_two min_two max_three min_three max_four min_four
def PO (ns : List Node) (m : List Int) : Prop := ∀ (a : List Int) (x : Int) (b : List Int), m = a ++ x :: b → ∀ k ∈ kids ns x, k ∈ a
theorem PO.nil (ns : List Node) : PO ns [] := fun a x b e => by
  have := congrArg List.length e
  simp at this
theorem PO.snoc {ns : List Node} {m : List Int} {x : Int} (h : PO ns m) (hk : ∀ k ∈ kids ns x, k ∈ m) : PO ns (m ++ [x]) := fun a y b e => by
  rcases snoc_cases b with rfl | ⟨b', z, rfl⟩
  · have e1 : m ++ [x] = a ++ [y] := e
    obtain ⟨rfl, e2⟩ := List.append_inj' e1 rfl
    injection e2 with e2
    subst e2
    exact hk
  · have e1 : m ++ [x] = (a ++ y :: b') ++ [z] := by rw [e]; simp
    obtain ⟨e2, _⟩ := List.append_inj' e1 rfl
    exact h a y b' e2
theorem M_po {ns : List Node} (h : Dag ns) : ∀ (N : Nat) (a : Int) (met : List Int), reachN ns a < N → Pl ns a → Shut ns met → PO ns met → PO ns (M ns a met)
  | 0, _, _, hN, _, _, _ => by omega
  | N + 1, a, met, hN, ha, hs, hp => by
    by_cases hm : a ∈ met
    · rw [M_in h ha hm]; exact hp
    · rw [M_out h ha hm]
      have key : ∀ (l met : List Int), (∀ k ∈ l, k ∈ kids ns a) → Shut ns met → PO ns met → (PO ns (ML ns l met) ∧ (∀ x ∈ met, x ∈ ML ns l met) ∧ ∀ k ∈ l, k ∈ ML ns l met) := by
        intro l
        induction l with
        | nil => intro met _ hs hp; exact ⟨hp, fun x hx => hx, fun k hk => by simp at hk⟩
        | cons k l ih =>
          intro met hl hs hp
          have hk := hl k (by simp)
          have hN' : reachN ns k < N := by have := h.lower ha hk; omega
          have m1 := M_met h N k met hN' (h.kid ha hk) hs (shut_next hs k)
          have p1 := M_po h N k met hN' (h.kid ha hk) hs hp
          obtain ⟨r1, e1, _⟩ := m1.ext
          obtain ⟨p2, i2, k2⟩ := ih (M ns k met) (fun y hy => hl y (by simp [hy])) m1.shut p1
          rw [ML_cons]
          refine ⟨p2, fun x hx => i2 x (by rw [e1]; exact List.mem_append_left _ hx), fun y hy => ?_⟩
          rcases List.mem_cons.1 hy with rfl | hy
          · exact i2 _ m1.here
          · exact k2 y hy
      obtain ⟨p2, _, k2⟩ := key (kids ns a) met (fun _ hk => hk) hs hp
      exact p2.snoc k2
theorem ord_po {s : Scene} (h : Right s) : PO s.nodes (ord s) := M_po h.dag _ _ _ (Nat.lt_succ_self _) ⟨h.r0, h.r1⟩ (Shut.nil _) (PO.nil _)
theorem idx_kid {s : Scene} (h : Right s) {p : Nat} (hp : p < s.nodes.length) {k : Int} (hk : k ∈ (nd s.nodes p).kids) : idx s k < idx s (p : Int) := by
  obtain ⟨a, b, e⟩ := List.append_of_mem (ord_all h p hp)
  have hka : k ∈ a := ord_po h a (p : Int) b e k (by rw [kids_nat]; exact hk)
  have hnd := ord_nodup h
  have hpa : ¬ (p : Int) ∈ a := fun hm => by
    rw [e] at hnd
    exact (List.nodup_append.1 hnd).2.2 _ hm _ (by simp) rfl
  unfold idx
  rw [e, List.idxOf_append, if_pos hka, List.idxOf_append, if_neg hpa]
  have := List.idxOf_lt_length_of_mem hka
  omega
theorem isC_ahead {s : Scene} (h : Right s) (hc : isC s = true) {p : Nat} (hp : p < s.nodes.length) {k : Int} (hk : k ∈ (nd s.nodes p).kids) : 0 ≤ k ∧ k < (p : Int) := by
  have hpl := h.pl p hp k hk
  obtain ⟨q, rfl⟩ : ∃ q : Nat, k = (q : Int) := ⟨k.toNat, by omega⟩
  have h1 := idx_kid h hp hk
  rw [isC_idx h hc (by omega), isC_idx h hc hp] at h1
  omega
end Go.Proofs.YtggldnbhmebcpaaGreatDoor.L
end
