/- Part 5 of the texts that the rows of this seat rest on, joined by a program: what its functions come to. Conditions: those that each theorem states. -/
import Derived.Test.YtggldnbhmebcpaaDoorQhd
import Derived.BigQuiet
import Derived.Test.YtggldnbhmebcpaaDoorCards
import Derived.Test.YtggldnbhmebcpaaDoorTie
import Derived.OpenShut
import Derived.ChangeOld
import Derived.SizedLaws
import Derived.LaidMore
import Derived.Lay
import Derived.SevenTiedAt
import Derived.Stop.Joined
import Derived.Lib.LaidU8
import Derived.Lib.LaidPrint
import Derived.Lib.LaidTab
set_option linter.unusedVariables false
set_option linter.unusedSimpArgs false
section
namespace Go.Proofs.YtggldnbhmebcpaaDoor.L
open Go.RowKit Go.ChangeShapes Go.WideShapes Go.Proofs.YtggldnbhmebcpaaDoorW.PrintWords Go.Proofs.YtggldnbhmebcpaaDoorW.PrintLast Go.Proofs.YtggldnbhmebcpaaDoorW.PrintMore
attribute [local go_sem] max2_int min2_int max_two min_two max_three min_three max_four min_four
theorem match_ok (T : Lib.PrintTabs) (A : Option Addr) (c : Nat) (a : Scene) (B : Option Addr) (d : Nat) (t : Scene) (w : World) (h : kNode.C w A a.nodes.length a.nodes) (hc : a.nodes.length ≤ c) (h' : kNode.C w B t.nodes.length t.nodes) (hd : t.nodes.length ≤ d)
    (hBa : ScBd a) (hBt : ScBd t) (hT : QTabs T w) (hi : (isC a && isC t) = true) :
    Calls Tryd.prog 10 #[.agg #[.slice A a.nodes.length c, .int .i64 a.root], .agg #[.slice B t.nodes.length d, .int .i64 t.root]] w fun e w' => ∃ A c, e = .returned (.tuple #[.slice A t.nodes.length c, .int .i64 0]) ∧ (Kd.int .i64).C w' A t.nodes.length (matS a.nodes t.nodes) ∧ Below w.heap.size w w' := by
  refine (match_any T A c a B d t w h hc h' hd hBa hBt hT).mono ?_
  rintro e w' (⟨-, -, Ao, co, rfl, hR, hB⟩ | ⟨hb, -⟩)
  · exact ⟨Ao, co, rfl, (by have := (Kd.R_reads' hR).2.2; rwa [show (matS a.nodes t.nodes).length = t.nodes.length from mat_len] at this), hB⟩
  · rw [hi] at hb; cases hb
theorem match_bad (T : Lib.PrintTabs) (A : Option Addr) (c : Nat) (a : Scene) (B : Option Addr) (d : Nat) (t : Scene) (w : World) (h : kNode.C w A a.nodes.length a.nodes) (hc : a.nodes.length ≤ c) (h' : kNode.C w B t.nodes.length t.nodes) (hd : t.nodes.length ≤ d)
    (hBa : ScBd a) (hBt : ScBd t) (hT : QTabs T w) (hi : (isC a && isC t) = false) :
    Calls Tryd.prog 10 #[.agg #[.slice A a.nodes.length c, .int .i64 a.root], .agg #[.slice B t.nodes.length d, .int .i64 t.root]] w fun e w' => e = .returned (.tuple #[.slice none 0 0, .int .i64 16]) ∧ Below w.heap.size w w' := by
  refine (match_any T A c a B d t w h hc h' hd hBa hBt hT).mono ?_
  rintro e w' (⟨h1, h2, -⟩ | ⟨-, rfl, hB⟩)
  · rw [h1, h2] at hi; cases hi
  · exact ⟨rfl, hB⟩
set_option maxRecDepth 100000 in
set_option maxHeartbeats 8000000 in
theorem matchPairs_any (T : Lib.PrintTabs) (A : Option Addr) (c : Nat) (a : Scene) (B : Option Addr) (d : Nat) (t : Scene) (w : World) (h : kNode.C w A a.nodes.length a.nodes) (hc : a.nodes.length ≤ c) (h' : kNode.C w B t.nodes.length t.nodes) (hd : t.nodes.length ≤ d)
    (hNa : ∀ i : Nat, i < a.nodes.length → NBd (nd a.nodes i)) (hNt : ∀ i : Nat, i < t.nodes.length → NBd (nd t.nodes i)) (hT : QTabs T w) :
    Calls Tryd.prog 3 #[.agg #[.slice A a.nodes.length c, .int .i64 a.root], .agg #[.slice B t.nodes.length d, .int .i64 t.root]] w fun e w' => e = .returned (.bool true) ∧ Below w.heap.size w w' := by
  have HR := Aside0.mk h
  have HR' := Aside0.mk h'
  have HT := Aside0.mk hT
  have HNa := Aside0.mk hNa
  have HNt := Aside0.mk hNt
  have hA0 := below_alloc (Below.refl w.heap.size w) (.cells #[.slice A a.nodes.length c, .int .i64 a.root] 24)
  have hA1 := below_alloc (Below.refl (w.alloc (.cells #[.slice A a.nodes.length c, .int .i64 a.root] 24)).heap.size (w.alloc (.cells #[.slice A a.nodes.length c, .int .i64 a.root] 24))) (.cells #[.slice B t.nodes.length d, .int .i64 t.root] 24)
  have HB := Aside0.mk (below_step hA0 hA1)
  have k0 := pw_cell_below hA1 (box_cell w _ rfl #[.slice A a.nodes.length c, .int .i64 a.root] 24 0 (.slice A a.nodes.length c) rfl)
  have k1 := pw_cell_below hA1 (box_cell w _ rfl #[.slice A a.nodes.length c, .int .i64 a.root] 24 1 (.int .i64 a.root) rfl)
  have q0 := box_cell (w.alloc (.cells #[.slice A a.nodes.length c, .int .i64 a.root] 24)) (w.heap.size + 1) (by simp) #[.slice B t.nodes.length d, .int .i64 t.root] 24 0 (.slice B t.nodes.length d) rfl
  have q1 := box_cell (w.alloc (.cells #[.slice A a.nodes.length c, .int .i64 a.root] 24)) (w.heap.size + 1) (by simp) #[.slice B t.nodes.length d, .int .i64 t.root] 24 1 (.int .i64 t.root) rfl
  have hu := Tryd.underlying24
  clear h h' hT hNa hNt hA0 hA1
  go_enter Tryd.func3, Tryd.ntmps3
  go_wp2_with fail
  generalize (w.alloc (.cells #[.slice A a.nodes.length c, .int .i64 a.root] 24)).alloc (.cells #[.slice B t.nodes.length d, .int .i64 t.root] 24) = w0 at HB k0 k1 q0 q1 ⊢
  refine (mawake_any T _ (HT.out.below HB.out)).mono ?_
  rintro e w1 ⟨rfl, hB1⟩
  replace k0 := pw_cell_below hB1 k0
  replace k1 := pw_cell_below hB1 k1
  replace q0 := pw_cell_below hB1 q0
  replace q1 := pw_cell_below hB1 q1
  have HB1 := Aside0.mk (below_step HB.out hB1)
  clear hB1 HB
  go_wp2_with fail
  refine (great21_any A c a B d t _ (Kd.C_below HR.out HB1.out) (Kd.C_below HR'.out HB1.out)).mono ?_
  rintro e w2 ⟨rfl, hB2⟩
  replace k0 := pw_cell_below hB2 k0
  replace k1 := pw_cell_below hB2 k1
  replace q0 := pw_cell_below hB2 q0
  replace q1 := pw_cell_below hB2 q1
  have HB2 := Aside0.mk (below_step HB1.out hB2)
  clear hB2 HB1
  cases hg : great21 a t with
  | true =>
    clear hg k0 k1 q0 q1
    go_wp2_with fail
    refine (mawake_any T _ (HT.out.below HB2.out)).mono ?_
    rintro e w3 ⟨rfl, hB3⟩
    have HB3 := Aside0.mk (below_step HB2.out hB3)
    clear hB3
    go_wp2
    go_ret
    exact ⟨rfl, HB3.out⟩
  | false =>
    obtain ⟨g1, g2, g3, g4⟩ := great21_no hg
    have HFa := Aside0.mk (fit_of_great g1 HNa.out)
    have HFt := Aside0.mk (fit_of_great g2 HNt.out)
    have HLn := Aside0.mk (And.intro g3 g4)
    clear hg g1 g2 g3 g4
    go_wp2
    have N0 : ∀ W, Below w2.heap.size w2 W → W.cell? ⟨w.heap.size, 0, none⟩ = some (.slice A a.nodes.length c) := fun W h => pw_cell_below h k0
    have N1 : ∀ W, Below w2.heap.size w2 W → W.cell? ⟨w.heap.size, 1, none⟩ = some (.int .i64 a.root) := fun W h => pw_cell_below h k1
    have N2 : ∀ W, Below w2.heap.size w2 W → W.cell? ⟨w.heap.size + 1, 0, none⟩ = some (.slice B t.nodes.length d) := fun W h => pw_cell_below h q0
    have N3 : ∀ W, Below w2.heap.size w2 W → W.cell? ⟨w.heap.size + 1, 1, none⟩ = some (.int .i64 t.root) := fun W h => pw_cell_below h q1
    have HCa := Aside0.mk (fun (W : World) (hW : Below w2.heap.size w2 W) => scopy_any A c a W (Kd.C_below HR.out (below_step HB2.out hW)) hc (by have := HLn.out.1; omega) HFa.out.small)
    have HCt := Aside0.mk (fun (W : World) (hW : Below w2.heap.size w2 W) => scopy_any B d t W (Kd.C_below HR'.out (below_step HB2.out hW)) hd (by have := HLn.out.2; omega) HFt.out.small)
    have HTw := Aside0.mk (fun (W : World) (hW : Below w2.heap.size w2 W) => HT.out.below (below_step HB2.out hW))
    clear k0 k1 q0 q1
    cases hcc : (isC a && isC t) with
    | false =>
      have HCC := Aside0.mk hcc
      clear hcc
      go_region_held3 (fun W => Below w2.heap.size w2 W)
        (repeat' (first
          | with_reducible assumption
          | with_reducible exact Below.refl _ _
          | with_reducible refine below_drew ?_))
        (first
          | (go_at_call 11; (first | (with_reducible refine (HCa.out w2.drew (below_drew (Below.refl _ _))).mono ?_) | (with_reducible refine (HCa.out w2 (Below.refl _ _)).mono ?_)); rintro e wa ⟨A5, c5, rfl, hla, hRa, hBa⟩; have hSa := (show Below w2.heap.size w2 wa from by first | exact below_step (below_drew (Below.refl w2.heap.size w2)) hBa | exact hBa); have hKa := And.intro hRa hla)
          | (go_at_call 11; (first | (with_reducible refine (HCt.out w2.drew (below_drew (Below.refl _ _))).mono ?_) | (with_reducible refine (HCt.out w2 (Below.refl _ _)).mono ?_)); rintro e wt ⟨A6, c6, rfl, hlt, hRt, hBt⟩; have hSt := (show Below w2.heap.size w2 wt from by first | exact below_step (below_drew (Below.refl w2.heap.size w2)) hBt | exact hBt); have hKt := And.intro hRt hlt)
          | (go_at_call 11; (with_reducible refine (HCa.out wt hSt).mono ?_); rintro e wa ⟨A5, c5, rfl, hla, hRa, hBa⟩; have hSa := below_step hSt hBa; have hKa := And.intro hRa hla; have hKt := And.intro (Kd.C_below hKt.1 hBa) hKt.2; have hSx := hSa)
          | (go_at_call 11; (with_reducible refine (HCt.out wa hSa).mono ?_); rintro e wt ⟨A6, c6, rfl, hlt, hRt, hBt⟩; have hSt := below_step hSa hBt; have hKt := And.intro hRt hlt; have hKa := And.intro (Kd.C_below hKa.1 hBt) hKa.2; have hSx := hSt)
          | (go_at_call 10; refine (match_bad T A5 c5 a A6 c6 t _ hKa.1 hKa.2 hKt.1 hKt.2 HFa.out.bd HFt.out.bd (HTw.out _ hSx) HCC.out).mono ?_; rintro e wm ⟨rfl, hBm⟩; have hSm := below_step hSx hBm))
      all_goals
        have k0 := N0 _ hSm
        have k1 := N1 _ hSm
        have q0 := N2 _ hSm
        have q1 := N3 _ hSm
        have HBm := Aside0.mk (below_step HB2.out hSm)
        clear N0 N1 N2 N3 hKa hKt hSa hSt hSx hSm
        (try clear hBm)
        go_wp2_with fail
        refine (ris_any A c a _ (Kd.C_below HR.out HBm.out) hc (Nat.le_trans HFa.out.rows (by omega)) HFa.out.small).mono ?_
        rintro e w7 ⟨rfl, hB7⟩
        replace k0 := pw_cell_below hB7 k0
        replace k1 := pw_cell_below hB7 k1
        replace q0 := pw_cell_below hB7 q0
        replace q1 := pw_cell_below hB7 q1
        have HB7 := Aside0.mk (below_step HBm.out hB7)
        clear hB7 HBm
        cases hia : isC a with
        | false =>
          go_wp2
          go_ret
          exact ⟨rfl, HB7.out⟩
        | true =>
          have HIt := Aside0.mk (show isC t = false from by have h1 := HCC.out; rw [hia, Bool.true_and] at h1; exact h1)
          go_wp2_with fail
          refine (ris_any B d t _ (Kd.C_below HR'.out HB7.out) hd (Nat.le_trans HFt.out.rows (by omega)) HFt.out.small).mono ?_
          rintro e w8 ⟨rfl, hB8⟩
          have HB8 := Aside0.mk (below_step HB7.out hB8)
          rw [HIt.out]
          clear hB8
          go_wp2
          go_ret
          exact ⟨rfl, HB8.out⟩
    | true =>
      have HCC := Aside0.mk hcc
      clear hcc
      go_region_held3 (fun W => Below w2.heap.size w2 W)
        (repeat' (first
          | with_reducible assumption
          | with_reducible exact Below.refl _ _
          | with_reducible refine below_drew ?_))
        (first
          | (go_at_call 11; (first | (with_reducible refine (HCa.out w2.drew (below_drew (Below.refl _ _))).mono ?_) | (with_reducible refine (HCa.out w2 (Below.refl _ _)).mono ?_)); rintro e wa ⟨A5, c5, rfl, hla, hRa, hBa⟩; have hSa := (show Below w2.heap.size w2 wa from by first | exact below_step (below_drew (Below.refl w2.heap.size w2)) hBa | exact hBa); have hKa := And.intro hRa hla)
          | (go_at_call 11; (first | (with_reducible refine (HCt.out w2.drew (below_drew (Below.refl _ _))).mono ?_) | (with_reducible refine (HCt.out w2 (Below.refl _ _)).mono ?_)); rintro e wt ⟨A6, c6, rfl, hlt, hRt, hBt⟩; have hSt := (show Below w2.heap.size w2 wt from by first | exact below_step (below_drew (Below.refl w2.heap.size w2)) hBt | exact hBt); have hKt := And.intro hRt hlt)
          | (go_at_call 11; (with_reducible refine (HCa.out wt hSt).mono ?_); rintro e wa ⟨A5, c5, rfl, hla, hRa, hBa⟩; have hSa := below_step hSt hBa; have hKa := And.intro hRa hla; have hKt := And.intro (Kd.C_below hKt.1 hBa) hKt.2; have hSx := hSa)
          | (go_at_call 11; (with_reducible refine (HCt.out wa hSa).mono ?_); rintro e wt ⟨A6, c6, rfl, hlt, hRt, hBt⟩; have hSt := below_step hSa hBt; have hKt := And.intro hRt hlt; have hKa := And.intro (Kd.C_below hKa.1 hBt) hKa.2; have hSx := hSt)
          | (go_at_call 10; refine (match_ok T A5 c5 a A6 c6 t _ hKa.1 hKa.2 hKt.1 hKt.2 HFa.out.bd HFt.out.bd (HTw.out _ hSx) HCC.out).mono ?_; rintro e wm ⟨Am, cm, rfl, hLm, hBm⟩; have hSm := below_step hSx hBm))
      all_goals
        have k0 := N0 _ hSm
        have k1 := N1 _ hSm
        have q0 := N2 _ hSm
        have q1 := N3 _ hSm
        have HBm := Aside0.mk (below_step HB2.out hSm)
        have HLm := Aside0.mk hLm
        clear hLm N0 N1 N2 N3 hKa hKt hSa hSt hSx hSm
        (try clear hBm)
        go_wp2_with fail
        refine (ris_any A c a _ (Kd.C_below HR.out HBm.out) hc (Nat.le_trans HFa.out.rows (by omega)) HFa.out.small).mono ?_
        rintro e w7 ⟨rfl, hB7⟩
        replace k0 := pw_cell_below hB7 k0
        replace k1 := pw_cell_below hB7 k1
        replace q0 := pw_cell_below hB7 q0
        replace q1 := pw_cell_below hB7 q1
        have HB7 := Aside0.mk (below_step HBm.out hB7)
        have HL7 := Aside0.mk (Kd.C_below HLm.out hB7)
        have HIa := Aside0.mk (show isC a = true ∧ isC t = true from by have h1 := HCC.out; rwa [Bool.and_eq_true] at h1)
        rw [HIa.out.1]
        clear hB7 HBm HLm
        go_wp2_with fail
        refine (ris_any B d t _ (Kd.C_below HR'.out HB7.out) hd (Nat.le_trans HFt.out.rows (by omega)) HFt.out.small).mono ?_
        rintro e w8 ⟨rfl, hB8⟩
        replace k0 := pw_cell_below hB8 k0
        replace k1 := pw_cell_below hB8 k1
        replace q0 := pw_cell_below hB8 q0
        replace q1 := pw_cell_below hB8 q1
        have HB8 := Aside0.mk (below_step HB7.out hB8)
        have HL8 := Aside0.mk (Kd.C_below HL7.out hB8)
        rw [HIa.out.2]
        clear hB8 HB7 HL7
        go_wp2_with fail
        refine (rmatch_any A c a B d t _ (Kd.C_below HR.out HB8.out) hc (Kd.C_below HR'.out HB8.out) hd HFt.out.small (fun p hp q hq => (isC_ahead (isC_right HIa.out.1) HIa.out.1 hp hq).1) (fun p hp q hq => (isC_ahead (isC_right HIa.out.2) HIa.out.2 hp hq).1) (by have := HLn.out.1; omega) (by have := HLn.out.2; omega)).mono ?_
        rintro e w9 ⟨A9, c9, rfl, hR9, hB9⟩
        have HB9 := Aside0.mk (below_step HB8.out hB9)
        have HL9 := Aside0.mk (Kd.C_below HL8.out hB9)
        have HM9 := Aside0.mk (Kd.R_reads' hR9).2.2
        have HMl := Aside0.mk (show (matS a.nodes t.nodes).length = t.nodes.length from mat_len)
        clear hR9 hB9 HB8 HL8 k0 k1 q0 q1
        generalize matS a.nodes t.nodes = M at HL9 HM9 HMl
        rw [← HMl.out] at HL9 ⊢
        go_wp2_with fail
        refine (ints_any Am cm M A9 c9 M _ HL9.out HM9.out).mono ?_
        rintro e w10 ⟨rfl, hB10⟩
        have HB10 := Aside0.mk (below_step HB9.out hB10)
        rw [decide_eq_true (rfl : M = M)]
        clear hB10
        go_wp2
        go_ret
        exact ⟨rfl, HB10.out⟩
end Go.Proofs.YtggldnbhmebcpaaDoor.L
end
section
namespace Go.Proofs.YtggldnbhmebcpaaDoor.L
open Go.RowKit Go.ChangeShapes Go.WideShapes Go.Proofs.YtggldnbhmebcpaaDoorW.PrintWords Go.Proofs.YtggldnbhmebcpaaDoorW.PrintLast Go.Proofs.YtggldnbhmebcpaaDoorW.PrintMore
attribute [local go_sem] max2_int min2_int max_two min_two max_three min_three max_four min_four
section
variable {P : Program} {α β : Type}
def Opens (P : Program) (k : Kd α) (t : TypeId) (good : α → Prop) : Prop :=
  ∀ (H : Type) (enc : TypeId × Value → H) (w : World) (base : Nat) (spare : Nat → Bool) (held : Bool) (fuel : Nat) (cs : List Value) (x : DataW H × List MemPlace), DataW.trod enc P w base spare held fuel t cs = some x → ∃ v, k.K w v cs ∧ good v
theorem opens_int {t : TypeId} {k : IntKind} (ht : P.underlying t = some (.int k)) : Opens P (Kd.int k) t (fun n => (Lit.int k n).wf = true) := by
  intro H enc w base spare held fuel cs x h
  obtain ⟨n, rfl, _, hw⟩ := DataW.trod_int ht h
  exact ⟨n, rfl, hw⟩
theorem opens_string {t : TypeId} (ht : P.underlying t = some .string) : Opens P Kd.string t (fun s => s.size ≤ maxLen) := by
  intro H enc w base spare held fuel cs x h
  obtain ⟨s, rfl, _, hs⟩ := DataW.trod_string ht h
  exact ⟨s, rfl, hs⟩
theorem list_of {R : Nat → α → Prop} : ∀ n, (∀ i, i < n → ∃ p, R i p) → ∃ xs : List α, xs.length = n ∧ ∀ j p, xs[j]? = some p → R j p := by
  intro n
  induction n with
  | zero => intro _; exact ⟨[], rfl, fun j p h => by simp at h⟩
  | succ n ih =>
    intro h
    obtain ⟨xs, hl, hx⟩ := ih (fun i hi => h i (by omega))
    obtain ⟨p, hp⟩ := h n (by omega)
    refine ⟨xs ++ [p], by simp [hl], fun j q hq => ?_⟩
    rw [List.getElem?_append] at hq
    split at hq
    · exact hx j q hq
    · have hj : j = n := by
        have := (List.getElem?_eq_some_iff.1 hq).1
        simp at this
        omega
      subst hj
      rw [hl, Nat.sub_self] at hq
      simp at hq
      subst hq
      exact hp
theorem opens_slice {d : Kd α} {t e e' : TypeId} {good : α → Prop} (ht : P.underlying t = some (.slice e)) (hc : P.cellsOf e = d.sz) (hd : Opens P d e good) : Opens P (Kd.slice e' d) t (fun xs => xs.length ≤ maxLen ∧ ∀ x ∈ xs, good x) := by
  intro H enc w base spare held fuel cs x h
  rcases Deep.open_slice ht h with ⟨rfl, _⟩ | ⟨a, len, cap, m, n, D, Pl, rfl, _, hl, hm, hmm, _, hx⟩
  · exact ⟨[], ⟨none, 0, rfl, Nat.le_refl _, rfl, by simp, fun h => by simp at h⟩, by simp, by simp⟩
  · have hlm : len ≤ m := by rw [hmm]; split <;> omega
    rw [hc] at hx
    obtain ⟨xs, hxl, hxs⟩ := list_of (R := fun i p => (∃ c, c.length = d.sz ∧ d.K w p c ∧ ∀ j u, c[j]? = some u → w.cell? (a.add (i * d.sz + j)) = some u) ∧ good p) len (fun i hi => by
      obtain ⟨cs', h1, h2⟩ := hx i (by omega)
      obtain ⟨_, hcl, hat⟩ := World.cells?_some h1
      obtain ⟨p, hK, hg⟩ := hd H enc w base spare held n cs' _ h2
      refine ⟨p, ⟨cs', hcl, hK, fun j u hu => ?_⟩, hg⟩
      have hj : j < d.sz := by rw [← hcl]; exact (List.getElem?_eq_some_iff.1 hu).1
      rw [← Deep.add_add, hat j hj, hu])
    subst hxl
    refine ⟨xs, ⟨some a, cap, rfl, hl, rfl, by unfold maxLen at hm; omega, fun _ => ⟨a, rfl, fun j p hp => (hxs j p hp).1⟩⟩, by omega, fun x hx => ?_⟩
    obtain ⟨j, hj⟩ := List.getElem?_of_mem hx
    exact (hxs j x hj).2
def OpensL (P : Program) (k : Kd α) (fs : List Field) (off : Nat) (good : α → Prop) : Prop :=
  ∀ (H : Type) (enc : TypeId × Value → H) (w : World) (base : Nat) (spare : Nat → Bool) (held : Bool) (n : Nat) (cs : List Value), cs.length = k.sz → (∀ f ∈ fs, ∃ x, DataW.trod enc P w base spare held n f.type ((cs.drop (f.offset - off)).take (P.cellsOf f.type)) = some x) → ∃ v, k.K w v cs ∧ good v
theorem opensL_one {k : Kd α} {f : Field} {off : Nat} {good : α → Prop} (ho : f.offset = off) (hc : P.cellsOf f.type = k.sz) (h : Opens P k f.type good) : OpensL P k [f] off good := by
  intro H enc w base spare held n cs hl hf
  obtain ⟨x, hx⟩ := hf f (by simp)
  rw [ho, Nat.sub_self, List.drop_zero, hc, ← hl, List.take_length] at hx
  exact h H enc w base spare held n cs x hx
theorem opensL_cons {a : Kd α} {b : Kd β} {f : Field} {fs : List Field} {off : Nat} {ga : α → Prop} {gb : β → Prop} (ho : f.offset = off) (hc : P.cellsOf f.type = a.sz) (h : Opens P a f.type ga) (hoff : ∀ g ∈ fs, off + a.sz ≤ g.offset) (hs : OpensL P b fs (off + a.sz) gb) :
    OpensL P (Kd.pair a b) (f :: fs) off (fun x => ga x.1 ∧ gb x.2) := by
  intro H enc w base spare held n cs hl hf
  have hl' : cs.length = a.sz + b.sz := hl
  obtain ⟨x, hx⟩ := hf f (by simp)
  rw [ho, Nat.sub_self, List.drop_zero, hc] at hx
  obtain ⟨v, hv, hg⟩ := h H enc w base spare held n _ x hx
  obtain ⟨u, hu, hg'⟩ := hs H enc w base spare held n (cs.drop a.sz) (by rw [List.length_drop]; omega) (fun g hg => by
    obtain ⟨y, hy⟩ := hf g (by simp [hg])
    have := hoff g hg
    refine ⟨y, ?_⟩
    rw [List.drop_drop, show a.sz + (g.offset - (off + a.sz)) = g.offset - off from by omega]
    exact hy)
  exact ⟨(v, u), ⟨_, _, (List.take_append_drop a.sz cs).symm, hv, hu⟩, hg, hg'⟩
theorem opens_struct {k : Kd α} {t : TypeId} {fs : Array Field} {good : α → Prop} (ht : P.underlying t = some (.struct fs)) (hc : P.cellsOf t = k.sz) (h : OpensL P k fs.toList 0 good) : Opens P k t good := by
  intro H enc w base spare held fuel cs x hx
  obtain ⟨xs, n, _, _, hl, hxl, hf⟩ := DataW.trod_struct ht hx
  refine h H enc w base spare held n cs (hl.trans hc) (fun f hfm => ?_)
  obtain ⟨i, hi⟩ := List.getElem?_of_mem hfm
  have hi' : fs[i]? = some f := by simpa using hi
  have hil : i < xs.length := by rw [hxl]; exact (Array.getElem?_eq_some_iff.1 hi').1
  exact ⟨xs[i]'hil, by rw [Nat.sub_zero, hf i f hi', List.getElem?_eq_getElem hil]⟩
theorem opens_iso {d : Kd α} {f : β → α} {t : TypeId} {good : α → Prop} (hf : ∀ v, ∃ x, f x = v) (h : Opens P d t good) : Opens P (Kd.iso d f) t (fun x => good (f x)) := by
  intro H enc w base spare held fuel cs x hx
  obtain ⟨v, hv, hg⟩ := h H enc w base spare held fuel cs x hx
  obtain ⟨y, rfl⟩ := hf v
  exact ⟨y, hv, hg⟩
theorem Opens.arg_struct {k : Kd α} {H : Type} {enc : TypeId × Value → H} {W : World} {b0 base : Nat} {r : Reach} {spare : Nat → Bool} {held : Bool} {t : TypeId} {fs : Array Field} {good : α → Prop} {v : Value} {q : DataW H} {p : List MemPlace} (hs : P.underlying t = some (.struct fs)) (ho : Opens P k t good)
    (hv : Value.okWide P W r b0 t v) (h : DataW.Trod enc P W base spare held t v q p) : ∃ x cs, v = .agg cs ∧ k.K W x cs.toList ∧ good x := by
  obtain ⟨cs, rfl, _⟩ := okWide_struct hs hv
  obtain ⟨fuel, hf⟩ := h
  obtain ⟨x, hK, hg⟩ := ho H enc W base spare held fuel _ _ hf
  exact ⟨x, cs, rfl, by simpa [Value.cells] using hK, hg⟩
end
end Go.Proofs.YtggldnbhmebcpaaDoor.L
end
section
namespace Go.Proofs.YtggldnbhmebcpaaDoor.L
open Go.RowKit Go.ChangeShapes Go.WideShapes Go.Proofs.YtggldnbhmebcpaaDoorW.PrintWords Go.Proofs.YtggldnbhmebcpaaDoorW.PrintLast Go.Proofs.YtggldnbhmebcpaaDoorW.PrintMore
attribute [local go_sem] max2_int min2_int max_two min_two max_three min_three max_four min_four
open Go.ChangeShapes Go.WideShapes Go.ChangeAt Go.RowKit
theorem own : ownKnob Tryd.prog.godebug = none := by kernel_rfl
theorem laidOut : laidOutB Tryd.prog = true := by kernel_rfl
def rowLaid : List (String × DataW Unit) := [("math/bits.deBruijn32tab", Rows.laid_math_bits_deBruijn32tab), ("math/bits.deBruijn64tab", Rows.laid_math_bits_deBruijn64tab), ("internal/strconv.uint64pow10", Rows.laid_internal_strconv_uint64pow10), ("unicode/utf8.acceptRanges", Rows.laid_unicode_utf8_acceptRanges), ("strconv.isGraphic", Rows.laid_strconv_isGraphic), ("strconv.isNotPrint16", Rows.laid_strconv_isNotPrint16), ("strconv.isNotPrint32", Rows.laid_strconv_isNotPrint32), ("strconv.isPrint16", Rows.laid_strconv_isPrint16), ("strconv.isPrint32", Rows.laid_strconv_isPrint32), ("unicode/utf8.first", Rows.laid_unicode_utf8_first)]
theorem firstD : Go.Pinned.utf8First = Lib.firstData := by kernel_rfl
theorem acceptD : (Rows.laid_unicode_utf8_acceptRanges : DataW Unit) = Lib.acceptData := by kernel_rfl
theorem p16D : Go.Pinned.isPrint16 = Lib.sliceData .u16 Lib.goPrintTabs.p16 := by kernel_rfl
theorem n16D : Go.Pinned.isNotPrint16 = Lib.sliceData .u16 Lib.goPrintTabs.n16 := by kernel_rfl
theorem p32D : Go.Pinned.isPrint32 = Lib.sliceData .u32 Lib.goPrintTabs.p32 := by kernel_rfl
theorem n32D : Go.Pinned.isNotPrint32 = Lib.sliceData .u16 Lib.goPrintTabs.n32 := by kernel_rfl
theorem utf_of_laid {W : World} (h : laidMet Tryd.prog rowLaid W) : Tabs W :=
  utf8Tabs_of_reads Tryd.lays260 ⟨by kernel_rfl, by kernel_rfl, by kernel_rfl, by kernel_rfl, by kernel_rfl, by kernel_rfl, by kernel_rfl⟩
    (firstD ▸ (Lib.laidMet.reads h (show ("unicode/utf8.first", Go.Pinned.utf8First) ∈ rowLaid from (.tail _ (.tail _ (.tail _ (.tail _ (.tail _ (.tail _ (.tail _ (.tail _ (.tail _ (.head _))))))))))))) (acceptD ▸ (Lib.laidMet.reads h (show ("unicode/utf8.acceptRanges", Rows.laid_unicode_utf8_acceptRanges) ∈ rowLaid from (.tail _ (.tail _ (.tail _ (.head _)))))))
theorem prt_of_laid {W : World} (h : laidMet Tryd.prog rowLaid W) : Lib.PrintTabsAt 5 6 7 8 Lib.goPrintTabs W :=
  printTabs_of_reads Tryd.lays339 ⟨by kernel_rfl, by kernel_rfl, by kernel_rfl, by kernel_rfl, by kernel_rfl, by kernel_rfl, by kernel_rfl, by kernel_rfl, by kernel_rfl, by kernel_rfl⟩
    (p16D ▸ (Lib.laidMet.reads h (show ("strconv.isPrint16", Go.Pinned.isPrint16) ∈ rowLaid from (.tail _ (.tail _ (.tail _ (.tail _ (.tail _ (.tail _ (.tail _ (.head _))))))))))) (n16D ▸ (Lib.laidMet.reads h (show ("strconv.isNotPrint16", Go.Pinned.isNotPrint16) ∈ rowLaid from (.tail _ (.tail _ (.tail _ (.tail _ (.tail _ (.head _))))))))) (p32D ▸ (Lib.laidMet.reads h (show ("strconv.isPrint32", Go.Pinned.isPrint32) ∈ rowLaid from (.tail _ (.tail _ (.tail _ (.tail _ (.tail _ (.tail _ (.tail _ (.tail _ (.head _)))))))))))) (n32D ▸ (Lib.laidMet.reads h (show ("strconv.isNotPrint32", Go.Pinned.isNotPrint32) ∈ rowLaid from (.tail _ (.tail _ (.tail _ (.tail _ (.tail _ (.tail _ (.head _))))))))))
theorem powD : (Rows.laid_internal_strconv_uint64pow10 : DataW Unit) = Lib.tabData .u64 Lib.pow10Tab := by kernel_rfl
theorem tabIs_reads {P : Program} {W : World} {name : String} {k : IntKind} {zs : List Int} {g : Nat} {t e : TypeId} {n : Nat}
    (hg : P.globalNamed name = some g) (hty : (P.globals[g]?).map (·.type) = some t) (ht : P.underlying t = some (.array n e)) (he : P.underlying e = some (.int k)) (hce : P.cellsOf e = 1) (hct : P.cellsOf t = n)
    (h : Lib.VarReads P W name (Lib.tabData k zs)) : Lib.TabIs P W name k zs := by
  obtain ⟨g', t', cs, fuel, p, hg', ht', hvar, hd⟩ := h
  obtain rfl := Option.some.inj (hg.symm.trans hg')
  obtain rfl := Option.some.inj (hty.symm.trans ht')
  unfold Lib.TabIs
  rw [hvar, ← Lib.cells_of_tab ht he hce hct hd]
theorem pow_of_laid {W : World} (h : laidMet Tryd.prog rowLaid W) : Lib.TabIs Tryd.prog W "internal/strconv.uint64pow10" .u64 Lib.pow10Tab :=
  tabIs_reads (g := 0) (t := (((Tryd.prog.globals[0]?).map (·.type)).getD 0)) (e := 104) (n := 20) (by kernel_rfl) (by kernel_rfl) (by kernel_rfl) (by kernel_rfl) (by kernel_rfl) (by kernel_rfl) (powD ▸ (Lib.laidMet.reads h (show ("internal/strconv.uint64pow10", Rows.laid_internal_strconv_uint64pow10) ∈ rowLaid from .tail _ (.tail _ (.head _)))))
theorem qtabs_of_laid {W : World} (h : laidMetH Tryd.prog rowLaid W) : QTabs Lib.goPrintTabs W := by
  rw [MakeChecks.laidMetH_plain _ _ _ (by kernel_rfl)] at h
  exact ⟨utf_of_laid h, prt_of_laid h, pow_of_laid h⟩
theorem laid_met (os : Os) (args : Array Value) : laidMetH Tryd.prog rowLaid ((World.laidAll Tryd.prog os rowLaid).forCall (fun _ _ => 0) ⟨#[], args, []⟩).memory := by
  rw [MakeChecks.laidMetH_plain _ _ _ (by kernel_rfl)]
  exact laidMet_laidAll _ (by kernel_rfl) (by kernel_rfl)
theorem opensL_imp {P : Program} {α : Type} {k : Kd α} {fs : List Field} {off : Nat} {good good' : α → Prop} (h : OpensL P k fs off good) (hi : ∀ v, good v → good' v) : OpensL P k fs off good' := by
  intro H enc w base spare held n cs hl hf
  obtain ⟨v, hv, hg⟩ := h H enc w base spare held n cs hl hf
  exact ⟨v, hv, hi v hg⟩
theorem opens_nodeB : Opens Tryd.prog kNode 46 NBd := by
  unfold kNode
  refine opens_iso (good := fun x : Int × List Int × List ByteArray × List Int => NBd ⟨x.1, x.2.1, x.2.2.1, x.2.2.2⟩) (fun v => ⟨⟨v.1, v.2.1, v.2.2.1, v.2.2.2⟩, rfl⟩) (opens_struct Tryd.underlying46 (by kernel_rfl) ?_)
  refine opensL_imp (opensL_cons rfl (by kernel_rfl) (opens_int Tryd.underlying3) (by decide)
    (opensL_cons rfl (by kernel_rfl) (opens_slice Tryd.underlying43 (by kernel_rfl) (opens_int Tryd.underlying2)) (by decide)
    (opensL_cons rfl (by kernel_rfl) (opens_slice Tryd.underlying44 (by kernel_rfl) (opens_string Tryd.underlying9)) (by decide)
    (opensL_one rfl (by kernel_rfl) (opens_slice Tryd.underlying27 (by kernel_rfl) (opens_int Tryd.underlying3)))))) ?_
  rintro ⟨k, i, t, q⟩ ⟨h1, h2, _⟩
  exact ⟨wf_i64 h1, fun x hx => wf_i64 (h2.2 x hx)⟩
theorem opens_sceneB : Opens Tryd.prog kScene 24 (fun s => ∀ i : Nat, i < s.nodes.length → NBd (nd s.nodes i)) := by
  unfold kScene
  refine opens_iso (good := fun x : List Node × Int => ∀ i : Nat, i < x.1.length → NBd (nd x.1 i)) (fun v => ⟨⟨v.1, v.2⟩, rfl⟩) (opens_struct Tryd.underlying24 (by kernel_rfl) ?_)
  refine opensL_imp (opensL_cons rfl (by kernel_rfl) (opens_slice Tryd.underlying22 (by kernel_rfl) opens_nodeB) (by decide)
    (opensL_one rfl (by kernel_rfl) (opens_int Tryd.underlying3))) ?_
  rintro ⟨ns, r⟩ ⟨h1, _⟩ i hi
  refine h1.2 _ ?_
  show nd ns i ∈ ns
  unfold nd
  rw [getD_eq _ hi]
  exact List.getElem_mem hi
end Go.Proofs.YtggldnbhmebcpaaDoor.L
end
