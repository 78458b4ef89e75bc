/- Part 5 of the texts that the rows of this seat rest on, joined by a program: what its functions come to. Conditions: those that each theorem states. -/
import Derived.Test.YtggldnbhmebcpaaDoorQid
import Derived.BigQuiet
import Derived.Test.YtggldnbhmebcpaaDoorCards
import Derived.Test.YtggldnbhmebcpaaDoorTie
import Derived.OpenShut
import Derived.ChangeOld
import Derived.SizedLaws
import Derived.LaidMore
import Derived.Lay
import Derived.SevenTiedAt
import Derived.Stop.Joined
import Derived.Lib.LaidU8
import Derived.Lib.LaidPrint
import Derived.Lib.LaidTab
set_option linter.unusedVariables false
set_option linter.unusedSimpArgs false
section
namespace Go.Proofs.YtggldnbhmebcpaaDoor.L
open Go.RowKit Go.ChangeShapes Go.WideShapes Go.Proofs.YtggldnbhmebcpaaDoorW.PrintWords Go.Proofs.YtggldnbhmebcpaaDoorW.PrintLast Go.Proofs.YtggldnbhmebcpaaDoorW.PrintMore
attribute [local go_sem] max2_int min2_int max_two min_two max_three min_three max_four min_four
theorem diff_al {b : Bool} (x y : Node) (A1 : Option Addr) (c1 : Nat) (A2 : Option Addr) (c2 : Nat) (A3 : Option Addr) (c3 : Nat) (B1 : Option Addr) (d1 : Nat) (B2 : Option Addr) (d2 : Nat) (B3 : Option Addr) (d3 : Nat) (w : World) (h : NodeC w x A1 c1 A2 c2 A3 c3) (h' : NodeC w y B1 d1 B2 d2 B3 d3) (hs : Small x) (hb : alike x y = b) :
    Calls Tryd.prog 17 #[.agg #[.int .i64 x.kind, .slice A1 x.ints.length c1, .slice A2 x.texts.length c2, .slice A3 x.kids.length c3], .agg #[.int .i64 y.kind, .slice B1 y.ints.length d1, .slice B2 y.texts.length d2, .slice B3 y.kids.length d3]] w fun e w' => ∃ v, e = .returned (.tuple #[v, .bool b]) ∧ Below w.heap.size w w' := by
  refine (diff_any x y A1 c1 A2 c2 A3 c3 B1 d1 B2 d2 B3 d3 w h h' hs).mono ?_
  rintro e w' ⟨A, c, rfl, -, hB⟩
  exact ⟨_, by rw [hb], hB⟩
theorem PT_alike {a t : List Node} {i k : Nat} (h : PT a t i k = true) : alike (nd a k) (nd t i) = true := by
  have h := of_decide_eq_true h
  exact decide_eq_true ⟨h.1.symm, by rw [h.2.1], by rw [h.2.2.1]⟩
theorem mat_alike {a t : List Node} {i k : Nat} (hi : i < t.length) (h : rd (matS a t) (i : Int) = (k : Int)) : k < a.length ∧ alike (nd a k) (nd t i) = true := by
  obtain ⟨k', hk, e, hp⟩ := mat_pos (P := PT a t) (Q := QK a t) (n := a.length) (m := t.length) hi (by show 0 ≤ rd (matS a t) (i : Int); omega)
  have e : rd (matS a t) (i : Int) = (k' : Int) := e
  obtain rfl : k = k' := by omega
  exact ⟨hk, hp.elim PT_alike (fun h => QK_iff.1 h)⟩
theorem mat_free {a t : List Node} {i j : Nat} (hi : i < t.length) (h : rd (matS a t) (i : Int) < 0) (hj : j < a.length) (ha : alike (nd a j) (nd t i) = true) : (j : Int) ∈ matS a t :=
  mat_none (P := PT a t) (Q := QK a t) (n := a.length) (m := t.length) hi h hj (QK_iff.2 ha)
theorem mat_bd {a t : List Node} {i : Nat} (hi : i < t.length) : rd (matS a t) (i : Int) = -1 ∨ ∃ k : Nat, k < a.length ∧ rd (matS a t) (i : Int) = (k : Int) := by
  rcases (mat_once (P := PT a t) (Q := QK a t) (n := a.length) (m := t.length)).pl i (by rw [mat_len]; exact hi) with h | ⟨h1, h2⟩
  · exact .inl h
  · exact .inr ⟨(rd (matS a t) (i : Int)).toNat, by have : (0 : Int) ≤ rd (matS a t) (i : Int) := h1; have : rd (matS a t) (i : Int) < (a.length : Int) := h2; omega, by have : (0 : Int) ≤ rd (matS a t) (i : Int) := h1; omega⟩
def TkM (M : List Int) (w5 : World) (mb i : Nat) (W : World) : Prop := ∃ tk, (∀ x, x ∈ tk ↔ x ∈ M.take i) ∧ MapF Tryd.prog 3 W mb i (visF tk) ∧ Below w5.heap.size w5 W ∧ w5.heap.size ≤ mb
theorem TkM.later {M : List Int} {w5 : World} {mb i : Nat} {W W1 : World} (h : TkM M w5 mb i W) (hb : Below W.heap.size W W1) : TkM M w5 mb i W1 := by
  obtain ⟨tk, h1, h2, h3, h4⟩ := h
  exact ⟨tk, h1, h2.below hb, below_step h3 hb, h4⟩
theorem visF_iff {tk : List Int} {k : Int} {b : Bool} (h : decide (k ∈ tk) = b) : (visF tk (.int .i64 k)).getD (.bool false) = .bool b := by
  rw [visF_at, h]
set_option maxRecDepth 100000 in
set_option maxHeartbeats 8000000 in
theorem matchKinds_any (T : Lib.PrintTabs) (A : Option Addr) (c : Nat) (a : Scene) (B : Option Addr) (d : Nat) (t : Scene) (w : World) (h : kNode.C w A a.nodes.length a.nodes) (hc : a.nodes.length ≤ c) (h' : kNode.C w B t.nodes.length t.nodes) (hd : t.nodes.length ≤ d)
    (hNa : ∀ i : Nat, i < a.nodes.length → NBd (nd a.nodes i)) (hNt : ∀ i : Nat, i < t.nodes.length → NBd (nd t.nodes i)) (hT : QTabs T w) :
    Calls Tryd.prog 5 #[.agg #[.slice A a.nodes.length c, .int .i64 a.root], .agg #[.slice B t.nodes.length d, .int .i64 t.root]] w fun e w' => e = .returned (.bool true) ∧ Below w.heap.size w w' := by
  have HR := Aside0.mk h
  have HR' := Aside0.mk h'
  have HT := Aside0.mk hT
  have HNa := Aside0.mk hNa
  have HNt := Aside0.mk hNt
  have hA0 := below_alloc (Below.refl w.heap.size w) (.cells #[.slice A a.nodes.length c, .int .i64 a.root] 24)
  have hA1 := below_alloc (Below.refl (w.alloc (.cells #[.slice A a.nodes.length c, .int .i64 a.root] 24)).heap.size (w.alloc (.cells #[.slice A a.nodes.length c, .int .i64 a.root] 24))) (.cells #[.slice B t.nodes.length d, .int .i64 t.root] 24)
  have HB := Aside0.mk (below_step hA0 hA1)
  have k0 := pw_cell_below hA1 (box_cell w _ rfl #[.slice A a.nodes.length c, .int .i64 a.root] 24 0 (.slice A a.nodes.length c) rfl)
  have k1 := pw_cell_below hA1 (box_cell w _ rfl #[.slice A a.nodes.length c, .int .i64 a.root] 24 1 (.int .i64 a.root) rfl)
  have q0 := box_cell (w.alloc (.cells #[.slice A a.nodes.length c, .int .i64 a.root] 24)) (w.heap.size + 1) (by simp) #[.slice B t.nodes.length d, .int .i64 t.root] 24 0 (.slice B t.nodes.length d) rfl
  have q1 := box_cell (w.alloc (.cells #[.slice A a.nodes.length c, .int .i64 a.root] 24)) (w.heap.size + 1) (by simp) #[.slice B t.nodes.length d, .int .i64 t.root] 24 1 (.int .i64 t.root) rfl
  have hu := Tryd.underlying24
  have hun := Tryd.underlying46
  have hmm := @run_makeMap Tryd.prog
  have HZ := Aside0.mk (show ((w.alloc (.cells #[.slice A a.nodes.length c, .int .i64 a.root] 24)).alloc (.cells #[.slice B t.nodes.length d, .int .i64 t.root] 24)).heap.size = w.heap.size + 1 + 1 from by simp)
  clear h h' hT hNa hNt hA0 hA1
  go_enter Tryd.func5, Tryd.ntmps5
  go_wp2_with fail
  generalize (w.alloc (.cells #[.slice A a.nodes.length c, .int .i64 a.root] 24)).alloc (.cells #[.slice B t.nodes.length d, .int .i64 t.root] 24) = w0 at HB HZ k0 k1 q0 q1 ⊢
  refine (mawake_any T _ (HT.out.below HB.out)).mono ?_
  rintro e w1 ⟨rfl, hB1⟩
  replace k0 := pw_cell_below hB1 k0
  replace k1 := pw_cell_below hB1 k1
  replace q0 := pw_cell_below hB1 q0
  replace q1 := pw_cell_below hB1 q1
  have HB1 := Aside0.mk (below_step HB.out hB1)
  have HZ1 := Aside0.mk (show w.heap.size + 1 < w1.heap.size from by have := hB1.size; have := HZ.out; omega)
  clear hB1 HB HZ
  go_wp2_with fail
  refine (great21_any A c a B d t _ (Kd.C_below HR.out HB1.out) (Kd.C_below HR'.out HB1.out)).mono ?_
  rintro e w2 ⟨rfl, hB2⟩
  replace k0 := pw_cell_below hB2 k0
  replace k1 := pw_cell_below hB2 k1
  replace q0 := pw_cell_below hB2 q0
  replace q1 := pw_cell_below hB2 q1
  have HB2 := Aside0.mk (below_step HB1.out hB2)
  have HZ2 := Aside0.mk (show w.heap.size + 1 < w2.heap.size from Nat.lt_of_lt_of_le HZ1.out hB2.size)
  clear hB2 HB1 HZ1
  cases hg : great21 a t with
  | true =>
    clear hg
    go_wp2_with fail
    refine (mawake_any T _ (HT.out.below HB2.out)).mono ?_
    rintro e w9 ⟨rfl, hB9⟩
    have HB9 := Aside0.mk (below_step HB2.out hB9)
    clear hB9 k0 k1 q0 q1
    go_wp2
    go_ret
    exact ⟨rfl, HB9.out⟩
  | false =>
    obtain ⟨g1, g2, g3, g4⟩ := great21_no hg
    have HFa := Aside0.mk (fit_of_great g1 HNa.out)
    have HFt := Aside0.mk (fit_of_great g2 HNt.out)
    have HLn := Aside0.mk (And.intro g3 g4)
    clear hg g1 g2 g3 g4
    go_wp2_with fail
    refine (ris_any A c a _ (Kd.C_below HR.out HB2.out) hc (Nat.le_trans HFa.out.rows (by omega)) HFa.out.small).mono ?_
    rintro e w3 ⟨rfl, hB3⟩
    replace k0 := pw_cell_below hB3 k0
    replace k1 := pw_cell_below hB3 k1
    replace q0 := pw_cell_below hB3 q0
    replace q1 := pw_cell_below hB3 q1
    have HB3 := Aside0.mk (below_step HB2.out hB3)
    have HZ3 := Aside0.mk (show w.heap.size + 1 < w3.heap.size from Nat.lt_of_lt_of_le HZ2.out hB3.size)
    clear hB3 HB2 HZ2
    cases hia : isC a with
    | false =>
      clear hia
      go_wp2_with fail
      refine (mawake_any T _ (HT.out.below HB3.out)).mono ?_
      rintro e w9 ⟨rfl, hB9⟩
      have HB9 := Aside0.mk (below_step HB3.out hB9)
      clear hB9 k0 k1 q0 q1
      go_wp2
      go_ret
      exact ⟨rfl, HB9.out⟩
    | true =>
      go_wp2_with fail
      refine (ris_any B d t _ (Kd.C_below HR'.out HB3.out) hd (Nat.le_trans HFt.out.rows (by omega)) HFt.out.small).mono ?_
      rintro e w4 ⟨rfl, hB4⟩
      replace k0 := pw_cell_below hB4 k0
      replace k1 := pw_cell_below hB4 k1
      replace q0 := pw_cell_below hB4 q0
      replace q1 := pw_cell_below hB4 q1
      have HB4 := Aside0.mk (below_step HB3.out hB4)
      have HZ4 := Aside0.mk (show w.heap.size + 1 < w4.heap.size from Nat.lt_of_lt_of_le HZ3.out hB4.size)
      clear hB4 HB3 HZ3
      cases hit : isC t with
      | false =>
        clear hit hia
        go_wp2_with fail
        refine (mawake_any T _ (HT.out.below HB4.out)).mono ?_
        rintro e w9 ⟨rfl, hB9⟩
        have HB9 := Aside0.mk (below_step HB4.out hB9)
        clear hB9 k0 k1 q0 q1
        go_wp2
        go_ret
        exact ⟨rfl, HB9.out⟩
      | true =>
        have HIs := Aside0.mk (And.intro hia hit)
        clear hia hit
        go_wp2_with fail
        refine (match_ok T A c a B d t _ (Kd.C_below HR.out HB4.out) hc (Kd.C_below HR'.out HB4.out) hd HFa.out.bd HFt.out.bd (HT.out.below HB4.out) (by rw [HIs.out.1, HIs.out.2]; rfl)).mono ?_
        rintro e w5 ⟨Am, cm, rfl, hLm, hB5⟩
        have HL5 := Aside0.mk hLm
        replace k0 := pw_cell_below hB5 k0
        replace k1 := pw_cell_below hB5 k1
        replace q0 := pw_cell_below hB5 q0
        replace q1 := pw_cell_below hB5 q1
        have HB5 := Aside0.mk (below_step HB4.out hB5)
        have HZ5 := Aside0.mk (show w.heap.size + 1 < w5.heap.size from Nat.lt_of_lt_of_le HZ4.out hB5.size)
        clear hLm hB5 HB4 HZ4
        have HMl := Aside0.mk (show (matS a.nodes t.nodes).length = t.nodes.length from mat_len)
        have HMb := Aside0.mk (fun (i : Nat) (hi : i < t.nodes.length) => mat_bd (a := a.nodes) hi)
        have HMa := Aside0.mk (fun (i k : Nat) (hi : i < t.nodes.length) (h : rd (matS a.nodes t.nodes) (i : Int) = (k : Int)) => mat_alike hi h)
        have HMf := Aside0.mk (fun (i j : Nat) (hi : i < t.nodes.length) (h : rd (matS a.nodes t.nodes) (i : Int) < 0) (hj : j < a.nodes.length) (ha : alike (nd a.nodes j) (nd t.nodes i) = true) => mat_free hi h hj ha)
        have hnA := HLn.out.1
        have hnT := HLn.out.2
        generalize matS a.nodes t.nodes = M at HL5 HMl HMb HMa HMf
        have hz1 := HZ5.out
        have hz2 : w.heap.size < w5.heap.size := by omega
        have n1 : ((t.nodes.length : Int) != (t.nodes.length : Int)) = false := by simp
        have HK := Aside0.mk (And.intro k0 (And.intro k1 (And.intro q0 q1)))
        have HT0 : Aside0 (TkM M w5 w5.heap.size 0 (w5.alloc (.map #[] 0))) := ⟨[], fun x => by rw [List.take_zero], by rw [visF_nil]; exact MapF.made _ _ _, below_alloc (Below.refl _ _) _, Nat.le_refl _⟩
        go_wp2
        clear k0 k1 q0 q1 n1 hmm hz1 hz2
        generalize w5.alloc (.map #[] 0) = w6 at HT0 ⊢
        generalize hmb : w5.heap.size = mb at HT0 ⊢
        go_loopw [55] (fun v55 W => ∃ i : Nat, i ≤ t.nodes.length ∧ v55 = .int .i64 i ∧ Aside0 (TkM M w5 mb i W)) (fun v55 _ => t.nodes.length - (intOf v55).toNat)
        case atStart => exact ⟨0, by omega, rfl, HT0⟩
        case round =>
          clear HT0
          obtain ⟨i, hi, rfl, HO⟩ := hrel
          obtain ⟨tk, htk, hm, hbw, hge⟩ := HO.out
          have HM := Aside0.mk hm
          have HTk := Aside0.mk htk
          have HBw := Aside0.mk hbw
          have HGe := Aside0.mk hge
          clear htk hm hbw hge HO
          by_cases hlt : i < t.nodes.length
          · obtain ⟨ad, rfl, x0⟩ := at_i HL5.out i hlt
            have x0 := pw_cell_below HBw.out x0
            have HKI := Aside0.mk (keyI_of (x := rd M (i : Int)) (by rcases HMb.out i hlt with h | ⟨k, h1, h2⟩ <;> omega) (by have := HLn.out.1; rcases HMb.out i hlt with h | ⟨k, h1, h2⟩ <;> omega))
            have hnl : t.nodes.length ≤ 40 := HLn.out.2
            have hcM : i < maxLen := by unfold maxLen; omega
            have HTs := Aside0.mk (show M.take (i + 1) = M.take i ++ [rd M (i : Int)] from take_succ_rd (by rw [HMl.out]; exact hlt))
            generalize rd M (i : Int) = z at x0 HKI HTs
            go_wp2_with (at_mapUpdate; refine wpList_update_F _ rfl (.tmp 59) (.tmp 60) _ 37 rfl 3 4 keyI Tryd.underlying37 mb i (visF tk) rfl HM.out hcM (.int .i64 z) (.bool true) (.int .i64 z) rfl rfl HKI.out ?_; intro w7 hM7 hg7; have HT7 := Aside0.mk (show TkM M w5 mb (i + 1) w7 from ⟨z :: tk, fun x => by rw [HTs.out, List.mem_cons, List.mem_append, List.mem_singleton, HTk.out x]; exact Or.comm, by rw [← visF_put]; exact hM7, below_map HBw.out HBw.out.size hg7 HGe.out, HGe.out⟩); clear hM7 hg7)
            go_roundw
            case rel => exact ⟨i + 1, by omega, by go_num, HT7⟩
            case measure => simp [intOf]; omega
          · obtain rfl : i = t.nodes.length := by omega
            have HTkM := Aside0.mk (show ∀ x, x ∈ tk ↔ x ∈ M from fun x => by rw [HTk.out x, ← HMl.out, List.take_length])
            have HO1 : Aside0 (MapF Tryd.prog 3 wr mb t.nodes.length (visF tk) ∧ Below w5.heap.size w5 wr) := ⟨HM.out, HBw.out⟩
            clear HTk HM HBw
            go_wp2
            go_loopw [64] (fun v64 W => ∃ i : Nat, i ≤ t.nodes.length ∧ v64 = .int .i64 i ∧ Aside0 (MapF Tryd.prog 3 W mb t.nodes.length (visF tk) ∧ Below w5.heap.size w5 W)) (fun v64 _ => t.nodes.length - (intOf v64).toNat)
            case atStart => exact ⟨0, by omega, rfl, HO1⟩
            case round =>
              clear HO1
              obtain ⟨i, hi, rfl, HO⟩ := hrel
              have hz1 := HZ5.out
              have hzw := HO.out.2.size
              have hb0 : w.heap.size < wr.heap.size := by omega
              have hb1 : w.heap.size + 1 < wr.heap.size := by omega
              clear hz1 hzw
              by_cases hlt : i < t.nodes.length
              · obtain ⟨ad, rfl, x0⟩ := at_i HL5.out i hlt
                have x0 := pw_cell_below HO.out.2 x0
                have k0 := pw_cell_below HO.out.2 HK.out.1
                have k1 := pw_cell_below HO.out.2 HK.out.2.1
                have q0 := pw_cell_below HO.out.2 HK.out.2.2.1
                obtain ⟨bn, B1, d1, B2, d2, B3, d3, rfl, y0, y1, y2, y3, hM⟩ := at_node HR'.out i hlt
                have HW := Aside0.mk (below_step HB5.out HO.out.2)
                replace y0 := pw_cell_below HW.out y0
                replace y1 := pw_cell_below HW.out y1
                replace y2 := pw_cell_below HW.out y2
                replace y3 := pw_cell_below HW.out y3
                have HM := Aside0.mk hM
                clear hM
                rcases HMb.out i hlt with hneg | ⟨kk, hkl, hkk⟩
                · have HFr := Aside0.mk (fun (j : Nat) (hj : j < a.nodes.length) (ha : alike (nd a.nodes j) (nd t.nodes i) = true) => HMf.out i j hlt (by omega) hj ha)
                  rw [hneg] at x0
                  clear hneg
                  go_wp2_with fail
                  refine (place_any A c a.nodes.length a.root (-1) wr).mono ?_
                  rintro e w7 ⟨rfl, hB7⟩
                  rw [show isPl a.nodes.length (-1) = false from decide_eq_false (by omega)]
                  replace k0 := pw_cell_below hB7 k0
                  have HQ0 := Aside0.mk (pw_cell_below hB7 q0)
                  have HY := Aside0.mk (And.intro (pw_cell_below hB7 y0) (And.intro (pw_cell_below hB7 y1) (And.intro (pw_cell_below hB7 y2) (pw_cell_below hB7 y3))))
                  have HO7 : Aside0 (MapF Tryd.prog 3 w7 mb t.nodes.length (visF tk) ∧ Below w7.heap.size w7 w7) := ⟨HO.out.1.below hB7, Below.refl _ _⟩
                  have HB7 := Aside0.mk (below_step HO.out.2 hB7)
                  have hb07 : w.heap.size < w7.heap.size := Nat.lt_of_lt_of_le hb0 hB7.size
                  have hb17 : w.heap.size + 1 < w7.heap.size := Nat.lt_of_lt_of_le hb1 hB7.size
                  have HZ7 := Aside0.mk hb17
                  clear k1 q0 y0 y1 y2 y3 hB7 x0 hb0 hb1 HO
                  go_wp2
                  clear k0 hb07 hb17
                  go_loopw [91] (fun v91 W => ∃ j : Nat, j ≤ a.nodes.length ∧ v91 = .int .i64 j ∧ Aside0 (MapF Tryd.prog 3 W mb t.nodes.length (visF tk) ∧ Below w7.heap.size w7 W)) (fun v91 _ => a.nodes.length - (intOf v91).toNat)
                  case atStart => exact ⟨0, by omega, rfl, HO7⟩
                  case round =>
                    clear HO7
                    obtain ⟨j, hj, rfl, HO⟩ := hrel
                    by_cases hjl : j < a.nodes.length
                    · obtain ⟨an, A1, c1, A2, c2, A3, c3, rfl, z0, z1, z2, z3, hN⟩ := at_node HR.out j hjl
                      have HWj := Aside0.mk (below_step HB5.out (below_step HB7.out HO.out.2))
                      replace z0 := pw_cell_below HWj.out z0
                      replace z1 := pw_cell_below HWj.out z1
                      replace z2 := pw_cell_below HWj.out z2
                      replace z3 := pw_cell_below HWj.out z3
                      have hA := below_alloc (Below.refl wr.heap.size wr) (.cells #[.int .i64 (nd a.nodes j).kind, .slice A1 (nd a.nodes j).ints.length c1, .slice A2 (nd a.nodes j).texts.length c2, .slice A3 (nd a.nodes j).kids.length c3] 46)
                      have v0 := box_cell wr _ rfl #[.int .i64 (nd a.nodes j).kind, .slice A1 (nd a.nodes j).ints.length c1, .slice A2 (nd a.nodes j).texts.length c2, .slice A3 (nd a.nodes j).kids.length c3] 46 0 _ rfl
                      have v1 := box_cell wr _ rfl #[.int .i64 (nd a.nodes j).kind, .slice A1 (nd a.nodes j).ints.length c1, .slice A2 (nd a.nodes j).texts.length c2, .slice A3 (nd a.nodes j).kids.length c3] 46 1 _ rfl
                      have v2 := box_cell wr _ rfl #[.int .i64 (nd a.nodes j).kind, .slice A1 (nd a.nodes j).ints.length c1, .slice A2 (nd a.nodes j).texts.length c2, .slice A3 (nd a.nodes j).kids.length c3] 46 2 _ rfl
                      have v3 := box_cell wr _ rfl #[.int .i64 (nd a.nodes j).kind, .slice A1 (nd a.nodes j).ints.length c1, .slice A2 (nd a.nodes j).texts.length c2, .slice A3 (nd a.nodes j).kids.length c3] 46 3 _ rfl
                      have u0 := pw_cell_below hA (pw_cell_below HO.out.2 HQ0.out)
                      have y0 := pw_cell_below hA (pw_cell_below HO.out.2 HY.out.1)
                      have y1 := pw_cell_below hA (pw_cell_below HO.out.2 HY.out.2.1)
                      have y2 := pw_cell_below hA (pw_cell_below HO.out.2 HY.out.2.2.1)
                      have y3 := pw_cell_below hA (pw_cell_below HO.out.2 HY.out.2.2.2)
                      have HO8 := Aside0.mk (And.intro (HO.out.1.below hA) (below_step HO.out.2 hA))
                      have HN8 := Aside0.mk (hN.below (below_step HWj.out hA))
                      have HM8 := Aside0.mk (HM.out.below (below_step HB5.out (below_step HB7.out HO8.out.2)))
                      have HSm := Aside0.mk (HFa.out.small j hjl)
                      have HFr2 := Aside0.mk (HFr.out j hjl)
                      have HKI := Aside0.mk (keyI_of (x := (j : Int)) (by omega) (by have := HLn.out.1; omega))
                      go_wp2
                      clear hN hA z0 z1 z2 z3
                      generalize wr.alloc (.cells #[.int .i64 (nd a.nodes j).kind, .slice A1 (nd a.nodes j).ints.length c1, .slice A2 (nd a.nodes j).texts.length c2, .slice A3 (nd a.nodes j).kids.length c3] 46) = w8 at v0 v1 v2 v3 u0 y0 y1 y2 y3 HO8 HN8 HM8 ⊢
                      generalize hn : nd a.nodes j = n at v0 v1 v2 v3 HN8 HSm HFr2
                      generalize hm : nd t.nodes i = m at y0 y1 y2 y3 HM8 HFr2
                      clear hn hm
                      generalize wr.heap.size = gb at v0 v1 v2 v3 ⊢
                      have R0 : ∀ W, Below w8.heap.size w8 W → W.cell? ⟨gb, 0, none⟩ = some (.int .i64 n.kind) := fun W h => pw_cell_below h v0
                      have R1 : ∀ W, Below w8.heap.size w8 W → W.cell? ⟨gb, 1, none⟩ = some (.slice A1 n.ints.length c1) := fun W h => pw_cell_below h v1
                      have R2 : ∀ W, Below w8.heap.size w8 W → W.cell? ⟨gb, 2, none⟩ = some (.slice A2 n.texts.length c2) := fun W h => pw_cell_below h v2
                      have R3 : ∀ W, Below w8.heap.size w8 W → W.cell? ⟨gb, 3, none⟩ = some (.slice A3 n.kids.length c3) := fun W h => pw_cell_below h v3
                      have R4 : ∀ W, Below w8.heap.size w8 W → W.cell? ⟨w.heap.size + 1, 0, none⟩ = some (.slice (some bn) t.nodes.length d) := fun W h => pw_cell_below h u0
                      have R5 : ∀ W, Below w8.heap.size w8 W → W.cell? (bn.add (i * 4)) = some (.int .i64 m.kind) := fun W h => pw_cell_below h y0
                      have R6 : ∀ W, Below w8.heap.size w8 W → W.cell? ⟨(bn.add (i * 4)).block, (bn.add (i * 4)).off + 1, none⟩ = some (.slice B1 m.ints.length d1) := fun W h => pw_cell_below h y1
                      have R7 : ∀ W, Below w8.heap.size w8 W → W.cell? ⟨(bn.add (i * 4)).block, (bn.add (i * 4)).off + 2, none⟩ = some (.slice B2 m.texts.length d2) := fun W h => pw_cell_below h y2
                      have R8 : ∀ W, Below w8.heap.size w8 W → W.cell? ⟨(bn.add (i * 4)).block, (bn.add (i * 4)).off + 3, none⟩ = some (.slice B3 m.kids.length d3) := fun W h => pw_cell_below h y3
                      clear v0 v1 v2 v3 u0 y0 y1 y2 y3
                      cases hal : alike n m with
                      | false =>
                        have HD := Aside0.mk (fun (W : World) (hW : Below w8.heap.size w8 W) => diff_al n m A1 c1 A2 c2 A3 c3 B1 d1 B2 d2 B3 d3 W (HN8.out.below hW) (HM8.out.below hW) HSm.out hal)
                        clear hal
                        go_region_held3 (fun W => Below w8.heap.size w8 W)
                          (repeat' (first | with_reducible assumption | with_reducible exact Below.refl _ _ | with_reducible refine below_drew ?_))
                          (first | (go_at_call 17; refine (HD.out w8.drew (below_drew (Below.refl _ _))).mono ?_; rintro e w10 ⟨v, rfl, hB10⟩; have hS10 := below_step (below_drew (Below.refl w8.heap.size w8)) hB10; have HO10 := Aside0.mk (And.intro (HO8.out.1.below hS10) (below_step HO8.out.2 hS10))))
                        clear R0 R1 R2 R3 R4 R5 R6 R7 R8 hS10
                        (try clear hB10)
                        go_wp2
                        go_roundw
                        case rel => exact ⟨j + 1, by omega, by go_num, ⟨HO10.out.1, HO10.out.2⟩⟩
                        case measure => simp [intOf]; omega
                      | true =>
                        have HD := Aside0.mk (fun (W : World) (hW : Below w8.heap.size w8 W) => diff_al n m A1 c1 A2 c2 A3 c3 B1 d1 B2 d2 B3 d3 W (HN8.out.below hW) (HM8.out.below hW) HSm.out hal)
                        have HVi := Aside0.mk (visF_iff (tk := tk) (k := (j : Int)) (decide_eq_true ((HTkM.out _).2 (HFr2.out hal))))
                        clear hal
                        go_region_held3 (fun W => Below w8.heap.size w8 W)
                          (repeat' (first | with_reducible assumption | with_reducible exact Below.refl _ _ | with_reducible refine below_drew ?_))
                          (first | (go_at_call 17; refine (HD.out w8.drew (below_drew (Below.refl _ _))).mono ?_; rintro e w10 ⟨v, rfl, hB10⟩; have hS10 := below_step (below_drew (Below.refl w8.heap.size w8)) hB10; have HO10 := Aside0.mk (And.intro (HO8.out.1.below hS10) (below_step HO8.out.2 hS10))))
                        clear R0 R1 R2 R3 R4 R5 R6 R7 R8 hS10
                        (try clear hB10)
                        go_wp2_with (refine gate_guard (by rfl) ?_; dsimp only; refine wpList_lookup_F _ rfl (.tmp 108) (.tmp 109) 37 rfl 3 4 keyI Tryd.underlying37 (zeroB _) mb t.nodes.length (visF tk) rfl HO10.out.1 (.int .i64 (j : Int)) (.int .i64 (j : Int)) rfl HKI.out (.bool true) HVi.out ?_)
                        go_roundw
                        case rel => exact ⟨j + 1, by omega, by go_num, ⟨HO10.out.1, HO10.out.2⟩⟩
                        case measure => simp [intOf]; omega
                    · obtain rfl : j = a.nodes.length := by omega
                      go_wp2
                      go_roundw
                      case rel => exact ⟨i + 1, by omega, by go_num, ⟨HO.out.1, below_step HB7.out HO.out.2⟩⟩
                      case measure => simp [intOf]; omega
                · obtain ⟨-, hal⟩ := HMa.out i kk hlt hkk
                  rw [hkk] at x0
                  clear hkk
                  go_wp2_with fail
                  refine (place_any A c a.nodes.length a.root (kk : Int) wr).mono ?_
                  rintro e w7 ⟨rfl, hB7⟩
                  rw [show isPl a.nodes.length (kk : Int) = true from decide_eq_true ⟨by omega, by omega⟩]
                  obtain ⟨an, A1, c1, A2, c2, A3, c3, rfl, z0, z1, z2, z3, hN⟩ := at_node HR.out kk hkl
                  replace k0 := pw_cell_below hB7 k0
                  replace q0 := pw_cell_below hB7 q0
                  replace y0 := pw_cell_below hB7 y0
                  replace y1 := pw_cell_below hB7 y1
                  replace y2 := pw_cell_below hB7 y2
                  replace y3 := pw_cell_below hB7 y3
                  replace z0 := pw_cell_below hB7 (pw_cell_below HW.out z0)
                  replace z1 := pw_cell_below hB7 (pw_cell_below HW.out z1)
                  replace z2 := pw_cell_below hB7 (pw_cell_below HW.out z2)
                  replace z3 := pw_cell_below hB7 (pw_cell_below HW.out z3)
                  have HN7 := Aside0.mk (hN.below (below_step HW.out hB7))
                  have HM7 := Aside0.mk (HM.out.below (below_step HW.out hB7))
                  have HO7 := Aside0.mk (And.intro (HO.out.1.below hB7) (below_step HO.out.2 hB7))
                  have HSm := Aside0.mk (HFa.out.small kk hkl)
                  go_wp2
                  clear hN x0 k1 hb0 hb1 hB7 HO
                  generalize hn : nd a.nodes kk = n at z0 z1 z2 z3 HN7 HSm hal
                  generalize hm : nd t.nodes i = m at y0 y1 y2 y3 HM7 hal
                  clear hn hm
                  have R0 : ∀ W, Below w7.heap.size w7 W → W.cell? (an.add (kk * 4)) = some (.int .i64 n.kind) := fun W h => pw_cell_below h z0
                  have R1 : ∀ W, Below w7.heap.size w7 W → W.cell? ⟨(an.add (kk * 4)).block, (an.add (kk * 4)).off + 1, none⟩ = some (.slice A1 n.ints.length c1) := fun W h => pw_cell_below h z1
                  have R2 : ∀ W, Below w7.heap.size w7 W → W.cell? ⟨(an.add (kk * 4)).block, (an.add (kk * 4)).off + 2, none⟩ = some (.slice A2 n.texts.length c2) := fun W h => pw_cell_below h z2
                  have R3 : ∀ W, Below w7.heap.size w7 W → W.cell? ⟨(an.add (kk * 4)).block, (an.add (kk * 4)).off + 3, none⟩ = some (.slice A3 n.kids.length c3) := fun W h => pw_cell_below h z3
                  have R4 : ∀ W, Below w7.heap.size w7 W → W.cell? ⟨w.heap.size + 1, 0, none⟩ = some (.slice (some bn) t.nodes.length d) := fun W h => pw_cell_below h q0
                  have R5 : ∀ W, Below w7.heap.size w7 W → W.cell? (bn.add (i * 4)) = some (.int .i64 m.kind) := fun W h => pw_cell_below h y0
                  have R6 : ∀ W, Below w7.heap.size w7 W → W.cell? ⟨(bn.add (i * 4)).block, (bn.add (i * 4)).off + 1, none⟩ = some (.slice B1 m.ints.length d1) := fun W h => pw_cell_below h y1
                  have R7 : ∀ W, Below w7.heap.size w7 W → W.cell? ⟨(bn.add (i * 4)).block, (bn.add (i * 4)).off + 2, none⟩ = some (.slice B2 m.texts.length d2) := fun W h => pw_cell_below h y2
                  have R8 : ∀ W, Below w7.heap.size w7 W → W.cell? ⟨(bn.add (i * 4)).block, (bn.add (i * 4)).off + 3, none⟩ = some (.slice B3 m.kids.length d3) := fun W h => pw_cell_below h y3
                  have R9 : ∀ W, Below w7.heap.size w7 W → W.cell? ⟨w.heap.size, 0, none⟩ = some (.slice (some an) a.nodes.length c) := fun W h => pw_cell_below h k0
                  have HD := Aside0.mk (fun (W : World) (hW : Below w7.heap.size w7 W) => diff_al n m A1 c1 A2 c2 A3 c3 B1 d1 B2 d2 B3 d3 W (HN7.out.below hW) (HM7.out.below hW) HSm.out hal)
                  clear hal k0 q0 y0 y1 y2 y3 z0 z1 z2 z3
                  go_region_held3 (fun W => Below w7.heap.size w7 W)
                    (repeat' (first | with_reducible assumption | with_reducible exact Below.refl _ _ | with_reducible refine below_drew ?_))
                    (first | (go_at_call 17; refine (HD.out w7.drew (below_drew (Below.refl _ _))).mono ?_; rintro e w10 ⟨v, rfl, hB10⟩; have hS10 := below_step (below_drew (Below.refl w7.heap.size w7)) hB10; have HO10 := Aside0.mk (And.intro (HO7.out.1.below hS10) (below_step HO7.out.2 hS10))))
                  clear R0 R1 R2 R3 R4 R5 R6 R7 R8 R9 hS10
                  (try clear hB10)
                  go_wp2
                  go_roundw
                  case rel => exact ⟨i + 1, by omega, by go_num, HO10⟩
                  case measure => simp [intOf]; omega
              · obtain rfl : i = t.nodes.length := by omega
                go_wp2
                go_ret
                exact ⟨rfl, below_step HB5.out HO.out.2⟩
end Go.Proofs.YtggldnbhmebcpaaDoor.L
end
section
namespace Go.Proofs.YtggldnbhmebcpaaDoor.L
open Go.RowKit Go.ChangeShapes Go.WideShapes Go.Proofs.YtggldnbhmebcpaaDoorW.PrintWords Go.Proofs.YtggldnbhmebcpaaDoorW.PrintLast Go.Proofs.YtggldnbhmebcpaaDoorW.PrintMore
attribute [local go_sem] max2_int min2_int max_two min_two max_three min_three max_four min_four
section
variable {P : Program} {α β : Type}
def Opens (P : Program) (k : Kd α) (t : TypeId) (good : α → Prop) : Prop :=
  ∀ (H : Type) (enc : TypeId × Value → H) (w : World) (base : Nat) (spare : Nat → Bool) (held : Bool) (fuel : Nat) (cs : List Value) (x : DataW H × List MemPlace), DataW.trod enc P w base spare held fuel t cs = some x → ∃ v, k.K w v cs ∧ good v
theorem opens_int {t : TypeId} {k : IntKind} (ht : P.underlying t = some (.int k)) : Opens P (Kd.int k) t (fun n => (Lit.int k n).wf = true) := by
  intro H enc w base spare held fuel cs x h
  obtain ⟨n, rfl, _, hw⟩ := DataW.trod_int ht h
  exact ⟨n, rfl, hw⟩
theorem opens_string {t : TypeId} (ht : P.underlying t = some .string) : Opens P Kd.string t (fun s => s.size ≤ maxLen) := by
  intro H enc w base spare held fuel cs x h
  obtain ⟨s, rfl, _, hs⟩ := DataW.trod_string ht h
  exact ⟨s, rfl, hs⟩
theorem list_of {R : Nat → α → Prop} : ∀ n, (∀ i, i < n → ∃ p, R i p) → ∃ xs : List α, xs.length = n ∧ ∀ j p, xs[j]? = some p → R j p := by
  intro n
  induction n with
  | zero => intro _; exact ⟨[], rfl, fun j p h => by simp at h⟩
  | succ n ih =>
    intro h
    obtain ⟨xs, hl, hx⟩ := ih (fun i hi => h i (by omega))
    obtain ⟨p, hp⟩ := h n (by omega)
    refine ⟨xs ++ [p], by simp [hl], fun j q hq => ?_⟩
    rw [List.getElem?_append] at hq
    split at hq
    · exact hx j q hq
    · have hj : j = n := by
        have := (List.getElem?_eq_some_iff.1 hq).1
        simp at this
        omega
      subst hj
      rw [hl, Nat.sub_self] at hq
      simp at hq
      subst hq
      exact hp
theorem opens_slice {d : Kd α} {t e e' : TypeId} {good : α → Prop} (ht : P.underlying t = some (.slice e)) (hc : P.cellsOf e = d.sz) (hd : Opens P d e good) : Opens P (Kd.slice e' d) t (fun xs => xs.length ≤ maxLen ∧ ∀ x ∈ xs, good x) := by
  intro H enc w base spare held fuel cs x h
  rcases Deep.open_slice ht h with ⟨rfl, _⟩ | ⟨a, len, cap, m, n, D, Pl, rfl, _, hl, hm, hmm, _, hx⟩
  · exact ⟨[], ⟨none, 0, rfl, Nat.le_refl _, rfl, by simp, fun h => by simp at h⟩, by simp, by simp⟩
  · have hlm : len ≤ m := by rw [hmm]; split <;> omega
    rw [hc] at hx
    obtain ⟨xs, hxl, hxs⟩ := list_of (R := fun i p => (∃ c, c.length = d.sz ∧ d.K w p c ∧ ∀ j u, c[j]? = some u → w.cell? (a.add (i * d.sz + j)) = some u) ∧ good p) len (fun i hi => by
      obtain ⟨cs', h1, h2⟩ := hx i (by omega)
      obtain ⟨_, hcl, hat⟩ := World.cells?_some h1
      obtain ⟨p, hK, hg⟩ := hd H enc w base spare held n cs' _ h2
      refine ⟨p, ⟨cs', hcl, hK, fun j u hu => ?_⟩, hg⟩
      have hj : j < d.sz := by rw [← hcl]; exact (List.getElem?_eq_some_iff.1 hu).1
      rw [← Deep.add_add, hat j hj, hu])
    subst hxl
    refine ⟨xs, ⟨some a, cap, rfl, hl, rfl, by unfold maxLen at hm; omega, fun _ => ⟨a, rfl, fun j p hp => (hxs j p hp).1⟩⟩, by omega, fun x hx => ?_⟩
    obtain ⟨j, hj⟩ := List.getElem?_of_mem hx
    exact (hxs j x hj).2
def OpensL (P : Program) (k : Kd α) (fs : List Field) (off : Nat) (good : α → Prop) : Prop :=
  ∀ (H : Type) (enc : TypeId × Value → H) (w : World) (base : Nat) (spare : Nat → Bool) (held : Bool) (n : Nat) (cs : List Value), cs.length = k.sz → (∀ f ∈ fs, ∃ x, DataW.trod enc P w base spare held n f.type ((cs.drop (f.offset - off)).take (P.cellsOf f.type)) = some x) → ∃ v, k.K w v cs ∧ good v
theorem opensL_one {k : Kd α} {f : Field} {off : Nat} {good : α → Prop} (ho : f.offset = off) (hc : P.cellsOf f.type = k.sz) (h : Opens P k f.type good) : OpensL P k [f] off good := by
  intro H enc w base spare held n cs hl hf
  obtain ⟨x, hx⟩ := hf f (by simp)
  rw [ho, Nat.sub_self, List.drop_zero, hc, ← hl, List.take_length] at hx
  exact h H enc w base spare held n cs x hx
theorem opensL_cons {a : Kd α} {b : Kd β} {f : Field} {fs : List Field} {off : Nat} {ga : α → Prop} {gb : β → Prop} (ho : f.offset = off) (hc : P.cellsOf f.type = a.sz) (h : Opens P a f.type ga) (hoff : ∀ g ∈ fs, off + a.sz ≤ g.offset) (hs : OpensL P b fs (off + a.sz) gb) :
    OpensL P (Kd.pair a b) (f :: fs) off (fun x => ga x.1 ∧ gb x.2) := by
  intro H enc w base spare held n cs hl hf
  have hl' : cs.length = a.sz + b.sz := hl
  obtain ⟨x, hx⟩ := hf f (by simp)
  rw [ho, Nat.sub_self, List.drop_zero, hc] at hx
  obtain ⟨v, hv, hg⟩ := h H enc w base spare held n _ x hx
  obtain ⟨u, hu, hg'⟩ := hs H enc w base spare held n (cs.drop a.sz) (by rw [List.length_drop]; omega) (fun g hg => by
    obtain ⟨y, hy⟩ := hf g (by simp [hg])
    have := hoff g hg
    refine ⟨y, ?_⟩
    rw [List.drop_drop, show a.sz + (g.offset - (off + a.sz)) = g.offset - off from by omega]
    exact hy)
  exact ⟨(v, u), ⟨_, _, (List.take_append_drop a.sz cs).symm, hv, hu⟩, hg, hg'⟩
theorem opens_struct {k : Kd α} {t : TypeId} {fs : Array Field} {good : α → Prop} (ht : P.underlying t = some (.struct fs)) (hc : P.cellsOf t = k.sz) (h : OpensL P k fs.toList 0 good) : Opens P k t good := by
  intro H enc w base spare held fuel cs x hx
  obtain ⟨xs, n, _, _, hl, hxl, hf⟩ := DataW.trod_struct ht hx
  refine h H enc w base spare held n cs (hl.trans hc) (fun f hfm => ?_)
  obtain ⟨i, hi⟩ := List.getElem?_of_mem hfm
  have hi' : fs[i]? = some f := by simpa using hi
  have hil : i < xs.length := by rw [hxl]; exact (Array.getElem?_eq_some_iff.1 hi').1
  exact ⟨xs[i]'hil, by rw [Nat.sub_zero, hf i f hi', List.getElem?_eq_getElem hil]⟩
theorem opens_iso {d : Kd α} {f : β → α} {t : TypeId} {good : α → Prop} (hf : ∀ v, ∃ x, f x = v) (h : Opens P d t good) : Opens P (Kd.iso d f) t (fun x => good (f x)) := by
  intro H enc w base spare held fuel cs x hx
  obtain ⟨v, hv, hg⟩ := h H enc w base spare held fuel cs x hx
  obtain ⟨y, rfl⟩ := hf v
  exact ⟨y, hv, hg⟩
theorem Opens.arg_struct {k : Kd α} {H : Type} {enc : TypeId × Value → H} {W : World} {b0 base : Nat} {r : Reach} {spare : Nat → Bool} {held : Bool} {t : TypeId} {fs : Array Field} {good : α → Prop} {v : Value} {q : DataW H} {p : List MemPlace} (hs : P.underlying t = some (.struct fs)) (ho : Opens P k t good)
    (hv : Value.okWide P W r b0 t v) (h : DataW.Trod enc P W base spare held t v q p) : ∃ x cs, v = .agg cs ∧ k.K W x cs.toList ∧ good x := by
  obtain ⟨cs, rfl, _⟩ := okWide_struct hs hv
  obtain ⟨fuel, hf⟩ := h
  obtain ⟨x, hK, hg⟩ := ho H enc W base spare held fuel _ _ hf
  exact ⟨x, cs, rfl, by simpa [Value.cells] using hK, hg⟩
end
end Go.Proofs.YtggldnbhmebcpaaDoor.L
end
section
namespace Go.Proofs.YtggldnbhmebcpaaDoor.L
open Go.RowKit Go.ChangeShapes Go.WideShapes Go.Proofs.YtggldnbhmebcpaaDoorW.PrintWords Go.Proofs.YtggldnbhmebcpaaDoorW.PrintLast Go.Proofs.YtggldnbhmebcpaaDoorW.PrintMore
attribute [local go_sem] max2_int min2_int max_two min_two max_three min_three max_four min_four
open Go.ChangeShapes Go.WideShapes Go.ChangeAt Go.RowKit
theorem own : ownKnob Tryd.prog.godebug = none := by kernel_rfl
theorem laidOut : laidOutB Tryd.prog = true := by kernel_rfl
def rowLaid : List (String × DataW Unit) := [("math/bits.deBruijn32tab", Rows.laid_math_bits_deBruijn32tab), ("math/bits.deBruijn64tab", Rows.laid_math_bits_deBruijn64tab), ("internal/strconv.uint64pow10", Rows.laid_internal_strconv_uint64pow10), ("unicode/utf8.acceptRanges", Rows.laid_unicode_utf8_acceptRanges), ("strconv.isGraphic", Rows.laid_strconv_isGraphic), ("strconv.isNotPrint16", Rows.laid_strconv_isNotPrint16), ("strconv.isNotPrint32", Rows.laid_strconv_isNotPrint32), ("strconv.isPrint16", Rows.laid_strconv_isPrint16), ("strconv.isPrint32", Rows.laid_strconv_isPrint32), ("unicode/utf8.first", Rows.laid_unicode_utf8_first)]
theorem firstD : Go.Pinned.utf8First = Lib.firstData := by kernel_rfl
theorem acceptD : (Rows.laid_unicode_utf8_acceptRanges : DataW Unit) = Lib.acceptData := by kernel_rfl
theorem p16D : Go.Pinned.isPrint16 = Lib.sliceData .u16 Lib.goPrintTabs.p16 := by kernel_rfl
theorem n16D : Go.Pinned.isNotPrint16 = Lib.sliceData .u16 Lib.goPrintTabs.n16 := by kernel_rfl
theorem p32D : Go.Pinned.isPrint32 = Lib.sliceData .u32 Lib.goPrintTabs.p32 := by kernel_rfl
theorem n32D : Go.Pinned.isNotPrint32 = Lib.sliceData .u16 Lib.goPrintTabs.n32 := by kernel_rfl
theorem utf_of_laid {W : World} (h : laidMet Tryd.prog rowLaid W) : Tabs W :=
  utf8Tabs_of_reads Tryd.lays260 ⟨by kernel_rfl, by kernel_rfl, by kernel_rfl, by kernel_rfl, by kernel_rfl, by kernel_rfl, by kernel_rfl⟩
    (firstD ▸ (Lib.laidMet.reads h (show ("unicode/utf8.first", Go.Pinned.utf8First) ∈ rowLaid from (.tail _ (.tail _ (.tail _ (.tail _ (.tail _ (.tail _ (.tail _ (.tail _ (.tail _ (.head _))))))))))))) (acceptD ▸ (Lib.laidMet.reads h (show ("unicode/utf8.acceptRanges", Rows.laid_unicode_utf8_acceptRanges) ∈ rowLaid from (.tail _ (.tail _ (.tail _ (.head _)))))))
theorem prt_of_laid {W : World} (h : laidMet Tryd.prog rowLaid W) : Lib.PrintTabsAt 5 6 7 8 Lib.goPrintTabs W :=
  printTabs_of_reads Tryd.lays339 ⟨by kernel_rfl, by kernel_rfl, by kernel_rfl, by kernel_rfl, by kernel_rfl, by kernel_rfl, by kernel_rfl, by kernel_rfl, by kernel_rfl, by kernel_rfl⟩
    (p16D ▸ (Lib.laidMet.reads h (show ("strconv.isPrint16", Go.Pinned.isPrint16) ∈ rowLaid from (.tail _ (.tail _ (.tail _ (.tail _ (.tail _ (.tail _ (.tail _ (.head _))))))))))) (n16D ▸ (Lib.laidMet.reads h (show ("strconv.isNotPrint16", Go.Pinned.isNotPrint16) ∈ rowLaid from (.tail _ (.tail _ (.tail _ (.tail _ (.tail _ (.head _))))))))) (p32D ▸ (Lib.laidMet.reads h (show ("strconv.isPrint32", Go.Pinned.isPrint32) ∈ rowLaid from (.tail _ (.tail _ (.tail _ (.tail _ (.tail _ (.tail _ (.tail _ (.tail _ (.head _)))))))))))) (n32D ▸ (Lib.laidMet.reads h (show ("strconv.isNotPrint32", Go.Pinned.isNotPrint32) ∈ rowLaid from (.tail _ (.tail _ (.tail _ (.tail _ (.tail _ (.tail _ (.head _))))))))))
theorem powD : (Rows.laid_internal_strconv_uint64pow10 : DataW Unit) = Lib.tabData .u64 Lib.pow10Tab := by kernel_rfl
theorem tabIs_reads {P : Program} {W : World} {name : String} {k : IntKind} {zs : List Int} {g : Nat} {t e : TypeId} {n : Nat}
    (hg : P.globalNamed name = some g) (hty : (P.globals[g]?).map (·.type) = some t) (ht : P.underlying t = some (.array n e)) (he : P.underlying e = some (.int k)) (hce : P.cellsOf e = 1) (hct : P.cellsOf t = n)
    (h : Lib.VarReads P W name (Lib.tabData k zs)) : Lib.TabIs P W name k zs := by
  obtain ⟨g', t', cs, fuel, p, hg', ht', hvar, hd⟩ := h
  obtain rfl := Option.some.inj (hg.symm.trans hg')
  obtain rfl := Option.some.inj (hty.symm.trans ht')
  unfold Lib.TabIs
  rw [hvar, ← Lib.cells_of_tab ht he hce hct hd]
theorem pow_of_laid {W : World} (h : laidMet Tryd.prog rowLaid W) : Lib.TabIs Tryd.prog W "internal/strconv.uint64pow10" .u64 Lib.pow10Tab :=
  tabIs_reads (g := 0) (t := (((Tryd.prog.globals[0]?).map (·.type)).getD 0)) (e := 104) (n := 20) (by kernel_rfl) (by kernel_rfl) (by kernel_rfl) (by kernel_rfl) (by kernel_rfl) (by kernel_rfl) (powD ▸ (Lib.laidMet.reads h (show ("internal/strconv.uint64pow10", Rows.laid_internal_strconv_uint64pow10) ∈ rowLaid from .tail _ (.tail _ (.head _)))))
theorem qtabs_of_laid {W : World} (h : laidMetH Tryd.prog rowLaid W) : QTabs Lib.goPrintTabs W := by
  rw [MakeChecks.laidMetH_plain _ _ _ (by kernel_rfl)] at h
  exact ⟨utf_of_laid h, prt_of_laid h, pow_of_laid h⟩
theorem laid_met (os : Os) (args : Array Value) : laidMetH Tryd.prog rowLaid ((World.laidAll Tryd.prog os rowLaid).forCall (fun _ _ => 0) ⟨#[], args, []⟩).memory := by
  rw [MakeChecks.laidMetH_plain _ _ _ (by kernel_rfl)]
  exact laidMet_laidAll _ (by kernel_rfl) (by kernel_rfl)
theorem opensL_imp {P : Program} {α : Type} {k : Kd α} {fs : List Field} {off : Nat} {good good' : α → Prop} (h : OpensL P k fs off good) (hi : ∀ v, good v → good' v) : OpensL P k fs off good' := by
  intro H enc w base spare held n cs hl hf
  obtain ⟨v, hv, hg⟩ := h H enc w base spare held n cs hl hf
  exact ⟨v, hv, hi v hg⟩
theorem opens_nodeB : Opens Tryd.prog kNode 46 NBd := by
  unfold kNode
  refine opens_iso (good := fun x : Int × List Int × List ByteArray × List Int => NBd ⟨x.1, x.2.1, x.2.2.1, x.2.2.2⟩) (fun v => ⟨⟨v.1, v.2.1, v.2.2.1, v.2.2.2⟩, rfl⟩) (opens_struct Tryd.underlying46 (by kernel_rfl) ?_)
  refine opensL_imp (opensL_cons rfl (by kernel_rfl) (opens_int Tryd.underlying3) (by decide)
    (opensL_cons rfl (by kernel_rfl) (opens_slice Tryd.underlying43 (by kernel_rfl) (opens_int Tryd.underlying2)) (by decide)
    (opensL_cons rfl (by kernel_rfl) (opens_slice Tryd.underlying44 (by kernel_rfl) (opens_string Tryd.underlying9)) (by decide)
    (opensL_one rfl (by kernel_rfl) (opens_slice Tryd.underlying27 (by kernel_rfl) (opens_int Tryd.underlying3)))))) ?_
  rintro ⟨k, i, t, q⟩ ⟨h1, h2, _⟩
  exact ⟨wf_i64 h1, fun x hx => wf_i64 (h2.2 x hx)⟩
theorem opens_sceneB : Opens Tryd.prog kScene 24 (fun s => ∀ i : Nat, i < s.nodes.length → NBd (nd s.nodes i)) := by
  unfold kScene
  refine opens_iso (good := fun x : List Node × Int => ∀ i : Nat, i < x.1.length → NBd (nd x.1 i)) (fun v => ⟨⟨v.1, v.2⟩, rfl⟩) (opens_struct Tryd.underlying24 (by kernel_rfl) ?_)
  refine opensL_imp (opensL_cons rfl (by kernel_rfl) (opens_slice Tryd.underlying22 (by kernel_rfl) opens_nodeB) (by decide)
    (opensL_one rfl (by kernel_rfl) (opens_int Tryd.underlying3))) ?_
  rintro ⟨ns, r⟩ ⟨h1, _⟩ i hi
  refine h1.2 _ ?_
  show nd ns i ∈ ns
  unfold nd
  rw [getD_eq _ hi]
  exact List.getElem_mem hi
end Go.Proofs.YtggldnbhmebcpaaDoor.L
end
