/- MatchOnce, a tied card: the statement is true at every input. Conditions: those that each theorem states. -/
import Derived.Test.YtggldnbhmebcpaaDoorQie
set_option linter.unusedVariables false
set_option linter.unusedSimpArgs false
section
namespace Go.Proofs.YtggldnbhmebcpaaDoor.L
open Go.RowKit Go.ChangeShapes Go.WideShapes Go.Proofs.YtggldnbhmebcpaaDoorW.PrintWords Go.Proofs.YtggldnbhmebcpaaDoorW.PrintLast Go.Proofs.YtggldnbhmebcpaaDoorW.PrintMore
attribute [local go_sem] max2_int min2_int max_two min_two max_three min_three max_four min_four
theorem mat_tree2 (T : Lib.PrintTabs) {a t : List Node} (ha : AheadN a) (ht : AheadN t) {i : Nat} (hi : i < t.length) (hc : cntP (PT t t i) t.length ≤ cntP (PT a t i) a.length) : ∃ k : Nat, k < a.length ∧ rd (matS a t) (i : Int) = (k : Int) ∧ PT a t i k = true := by
  have hA : ∀ s ∈ [(⟨a, 0⟩ : Scene), ⟨t, 0⟩], AheadN s.nodes := fun s hs => by
    rcases List.mem_cons.1 hs with rfl | hs
    · exact ha
    · rw [List.mem_singleton.1 hs]; exact ht
  have n1 := all_numd (T := T) hA (i := 0) (by simp)
  have n2 := all_numd (T := T) hA (i := 1) (by simp)
  generalize (allS T [(⟨a, 0⟩ : Scene), ⟨t, 0⟩]).2.getD 0 [] = p at n1
  generalize (allS T [(⟨a, 0⟩ : Scene), ⟨t, 0⟩]).2.getD 1 [] = q at n2
  refine mat_tree (P := PT a t) (Q := QK a t) (cl := fun i => rd q (i : Int)) (cr := fun k => rd p (k : Int)) (fun i k hi hk => like_num ht ha n2 n1 hi hk) hi ?_
  have e1 : cntP (fun j => decide (rd q (i : Int) = rd q (j : Int))) t.length ≤ cntP (PT t t i) t.length := cntP_le (fun j hj h => (like_num ht ht n2 n2 hi hj).2 (of_decide_eq_true h))
  have e2 : cntP (PT a t i) a.length ≤ cntP (fun k => decide (rd q (i : Int) = rd p (k : Int))) a.length := cntP_le (fun k hk h => decide_eq_true ((like_num ht ha n2 n1 hi hk).1 h))
  exact Nat.le_trans e1 (Nat.le_trans hc e2)
def TkN (M : List Int) (w5 : World) (mb i : Nat) (W : World) : Prop := ∃ tk cnt, cnt ≤ i ∧ (∀ x, x ∈ tk ↔ 0 ≤ x ∧ x ∈ M.take i) ∧ MapF Tryd.prog 3 W mb cnt (visF tk) ∧ Below w5.heap.size w5 W ∧ w5.heap.size ≤ mb
theorem once_fresh {n : Nat} {M : List Int} (h : Once n M) {i : Nat} (hi : i < M.length) (h0 : 0 ≤ rd M (i : Int)) : ¬ rd M (i : Int) ∈ M.take i := fun hm => by
  obtain ⟨j, hj, e⟩ := List.getElem_of_mem hm
  rw [List.length_take] at hj
  have hji : j < i := by omega
  refine h.ne i j hi (by omega) (by omega) h0 ?_
  rw [← e, List.getElem_take, rd_eq (by omega)]
set_option maxRecDepth 100000 in
set_option maxHeartbeats 8000000 in
theorem matchOnce_any (T : Lib.PrintTabs) (A : Option Addr) (c : Nat) (a : Scene) (B : Option Addr) (d : Nat) (t : Scene) (w : World) (h : kNode.C w A a.nodes.length a.nodes) (hc : a.nodes.length ≤ c) (h' : kNode.C w B t.nodes.length t.nodes) (hd : t.nodes.length ≤ d)
    (hNa : ∀ i : Nat, i < a.nodes.length → NBd (nd a.nodes i)) (hNt : ∀ i : Nat, i < t.nodes.length → NBd (nd t.nodes i)) (hT : QTabs T w) :
    Calls Tryd.prog 4 #[.agg #[.slice A a.nodes.length c, .int .i64 a.root], .agg #[.slice B t.nodes.length d, .int .i64 t.root]] w fun e w' => e = .returned (.bool true) ∧ Below w.heap.size w w' := by
  have HR := Aside0.mk h
  have HR' := Aside0.mk h'
  have HT := Aside0.mk hT
  have HNa := Aside0.mk hNa
  have HNt := Aside0.mk hNt
  have hA0 := below_alloc (Below.refl w.heap.size w) (.cells #[.slice A a.nodes.length c, .int .i64 a.root] 24)
  have hA1 := below_alloc (Below.refl (w.alloc (.cells #[.slice A a.nodes.length c, .int .i64 a.root] 24)).heap.size (w.alloc (.cells #[.slice A a.nodes.length c, .int .i64 a.root] 24))) (.cells #[.slice B t.nodes.length d, .int .i64 t.root] 24)
  have HB := Aside0.mk (below_step hA0 hA1)
  have k0 := pw_cell_below hA1 (box_cell w _ rfl #[.slice A a.nodes.length c, .int .i64 a.root] 24 0 (.slice A a.nodes.length c) rfl)
  have k1 := pw_cell_below hA1 (box_cell w _ rfl #[.slice A a.nodes.length c, .int .i64 a.root] 24 1 (.int .i64 a.root) rfl)
  have q0 := box_cell (w.alloc (.cells #[.slice A a.nodes.length c, .int .i64 a.root] 24)) (w.heap.size + 1) (by simp) #[.slice B t.nodes.length d, .int .i64 t.root] 24 0 (.slice B t.nodes.length d) rfl
  have q1 := box_cell (w.alloc (.cells #[.slice A a.nodes.length c, .int .i64 a.root] 24)) (w.heap.size + 1) (by simp) #[.slice B t.nodes.length d, .int .i64 t.root] 24 1 (.int .i64 t.root) rfl
  have hu := Tryd.underlying24
  have hun := Tryd.underlying46
  have hmm := @run_makeMap Tryd.prog
  have HZ := Aside0.mk (show ((w.alloc (.cells #[.slice A a.nodes.length c, .int .i64 a.root] 24)).alloc (.cells #[.slice B t.nodes.length d, .int .i64 t.root] 24)).heap.size = w.heap.size + 1 + 1 from by simp)
  clear h h' hT hNa hNt hA0 hA1
  go_enter Tryd.func4, Tryd.ntmps4
  go_wp2_with fail
  generalize (w.alloc (.cells #[.slice A a.nodes.length c, .int .i64 a.root] 24)).alloc (.cells #[.slice B t.nodes.length d, .int .i64 t.root] 24) = w0 at HB HZ k0 k1 q0 q1 ⊢
  refine (mawake_any T _ (HT.out.below HB.out)).mono ?_
  rintro e w1 ⟨rfl, hB1⟩
  replace k0 := pw_cell_below hB1 k0
  replace k1 := pw_cell_below hB1 k1
  replace q0 := pw_cell_below hB1 q0
  replace q1 := pw_cell_below hB1 q1
  have HB1 := Aside0.mk (below_step HB.out hB1)
  have HZ1 := Aside0.mk (show w.heap.size + 1 < w1.heap.size from by have := hB1.size; have := HZ.out; omega)
  clear hB1 HB HZ
  go_wp2_with fail
  refine (great21_any A c a B d t _ (Kd.C_below HR.out HB1.out) (Kd.C_below HR'.out HB1.out)).mono ?_
  rintro e w2 ⟨rfl, hB2⟩
  replace k0 := pw_cell_below hB2 k0
  replace k1 := pw_cell_below hB2 k1
  replace q0 := pw_cell_below hB2 q0
  replace q1 := pw_cell_below hB2 q1
  have HB2 := Aside0.mk (below_step HB1.out hB2)
  have HZ2 := Aside0.mk (show w.heap.size + 1 < w2.heap.size from Nat.lt_of_lt_of_le HZ1.out hB2.size)
  clear hB2 HB1 HZ1
  cases hg : great21 a t with
  | true =>
    clear hg
    go_wp2_with fail
    refine (mawake_any T _ (HT.out.below HB2.out)).mono ?_
    rintro e w9 ⟨rfl, hB9⟩
    have HB9 := Aside0.mk (below_step HB2.out hB9)
    clear hB9 k0 k1 q0 q1
    go_wp2
    go_ret
    exact ⟨rfl, HB9.out⟩
  | false =>
    obtain ⟨g1, g2, g3, g4⟩ := great21_no hg
    have HFa := Aside0.mk (fit_of_great g1 HNa.out)
    have HFt := Aside0.mk (fit_of_great g2 HNt.out)
    have HLn := Aside0.mk (And.intro g3 g4)
    clear hg g1 g2 g3 g4
    go_wp2_with fail
    refine (ris_any A c a _ (Kd.C_below HR.out HB2.out) hc (Nat.le_trans HFa.out.rows (by omega)) HFa.out.small).mono ?_
    rintro e w3 ⟨rfl, hB3⟩
    replace k0 := pw_cell_below hB3 k0
    replace k1 := pw_cell_below hB3 k1
    replace q0 := pw_cell_below hB3 q0
    replace q1 := pw_cell_below hB3 q1
    have HB3 := Aside0.mk (below_step HB2.out hB3)
    have HZ3 := Aside0.mk (show w.heap.size + 1 < w3.heap.size from Nat.lt_of_lt_of_le HZ2.out hB3.size)
    clear hB3 HB2 HZ2
    cases hia : isC a with
    | false =>
      clear hia
      go_wp2_with fail
      refine (mawake_any T _ (HT.out.below HB3.out)).mono ?_
      rintro e w9 ⟨rfl, hB9⟩
      have HB9 := Aside0.mk (below_step HB3.out hB9)
      clear hB9 k0 k1 q0 q1
      go_wp2
      go_ret
      exact ⟨rfl, HB9.out⟩
    | true =>
      go_wp2_with fail
      refine (ris_any B d t _ (Kd.C_below HR'.out HB3.out) hd (Nat.le_trans HFt.out.rows (by omega)) HFt.out.small).mono ?_
      rintro e w4 ⟨rfl, hB4⟩
      replace k0 := pw_cell_below hB4 k0
      replace k1 := pw_cell_below hB4 k1
      replace q0 := pw_cell_below hB4 q0
      replace q1 := pw_cell_below hB4 q1
      have HB4 := Aside0.mk (below_step HB3.out hB4)
      have HZ4 := Aside0.mk (show w.heap.size + 1 < w4.heap.size from Nat.lt_of_lt_of_le HZ3.out hB4.size)
      clear hB4 HB3 HZ3
      cases hit : isC t with
      | false =>
        clear hit hia
        go_wp2_with fail
        refine (mawake_any T _ (HT.out.below HB4.out)).mono ?_
        rintro e w9 ⟨rfl, hB9⟩
        have HB9 := Aside0.mk (below_step HB4.out hB9)
        clear hB9 k0 k1 q0 q1
        go_wp2
        go_ret
        exact ⟨rfl, HB9.out⟩
      | true =>
        have HIs := Aside0.mk (And.intro hia hit)
        clear hia hit
        go_wp2_with fail
        refine (match_ok T A c a B d t _ (Kd.C_below HR.out HB4.out) hc (Kd.C_below HR'.out HB4.out) hd HFa.out.bd HFt.out.bd (HT.out.below HB4.out) (by rw [HIs.out.1, HIs.out.2]; rfl)).mono ?_
        rintro e w5 ⟨Am, cm, rfl, hLm, hB5⟩
        have HL5 := Aside0.mk hLm
        replace k0 := pw_cell_below hB5 k0
        replace k1 := pw_cell_below hB5 k1
        replace q0 := pw_cell_below hB5 q0
        replace q1 := pw_cell_below hB5 q1
        have HB5 := Aside0.mk (below_step HB4.out hB5)
        have HZ5 := Aside0.mk (show w.heap.size + 1 < w5.heap.size from Nat.lt_of_lt_of_le HZ4.out hB5.size)
        clear hLm hB5 HB4 HZ4
        have hnA := HLn.out.1
        have hnT := HLn.out.2
        have HAa := Aside0.mk (show AheadN a.nodes from fun p hp k hk => isC_ahead (isC_right HIs.out.1) HIs.out.1 hp hk)
        have HAt := Aside0.mk (show AheadN t.nodes from fun p hp k hk => isC_ahead (isC_right HIs.out.2) HIs.out.2 hp hk)
        have HMl := Aside0.mk (show (matS a.nodes t.nodes).length = t.nodes.length from mat_len)
        have HMo := Aside0.mk (show Once a.nodes.length (matS a.nodes t.nodes) from mat_once)
        have HMt := Aside0.mk (fun (i : Nat) (hi : i < t.nodes.length) (hc : cntP (PT t.nodes t.nodes i) t.nodes.length ≤ cntP (PT a.nodes t.nodes i) a.nodes.length) => mat_tree2 T HAa.out HAt.out hi hc)
        generalize matS a.nodes t.nodes = M at HL5 HMl HMo HMt
        have n1 : ((t.nodes.length : Int) != (t.nodes.length : Int)) = false := by simp
        go_wp2_with fail
        clear n1
        refine (alike_any B d t A c a w5 (Kd.C_below HR'.out HB5.out) hd (Kd.C_below HR.out HB5.out) hc HFt.out.small (fun p hp q hq => (HAt.out p hp q hq).1) (fun p hp q hq => (HAa.out p hp q hq).1) (by omega) (by omega)).mono ?_
        rintro e w6 ⟨A6, c6, rfl, hc6, hTab, hB6⟩
        replace k0 := pw_cell_below hB6 k0
        replace k1 := pw_cell_below hB6 k1
        replace q0 := pw_cell_below hB6 q0
        replace q1 := pw_cell_below hB6 q1
        have HB6 := Aside0.mk (below_step HB5.out hB6)
        have HL6 := Aside0.mk (Kd.C_below HL5.out hB6)
        have HS6 := Aside0.mk hTab
        have HZ6 := Aside0.mk (show w.heap.size + 1 < w6.heap.size from Nat.lt_of_lt_of_le HZ5.out hB6.size)
        have HSc := Aside0.mk (fun (i k : Nat) (hi : i < t.nodes.length) (hk : k < a.nodes.length) => (show ((alkT t.nodes a.nodes t.nodes.length).getD i []).getD k false = PT a.nodes t.nodes i k from alk_cell _ _ hi hk))
        have HSs := Aside0.mk (fun (p : Nat) (hp : p < t.nodes.length) => (show ((alkT t.nodes a.nodes t.nodes.length).getD p []).length = a.nodes.length from by rw [alkT_row _ _ hp]; simp))
        clear hB6 hTab HB5 HL5 HZ5
        generalize alkT t.nodes a.nodes t.nodes.length = tabS at HS6 HSc HSs
        go_wp2_with fail
        refine (alike_any B d t B d t w6 (Kd.C_below HR'.out HB6.out) hd (Kd.C_below HR'.out HB6.out) hd HFt.out.small (fun p hp q hq => (HAt.out p hp q hq).1) (fun p hp q hq => (HAt.out p hp q hq).1) (by omega) (by omega)).mono ?_
        rintro e w7 ⟨A7, c7, rfl, hc7, hTab, hB7⟩
        replace k0 := pw_cell_below hB7 k0
        replace k1 := pw_cell_below hB7 k1
        replace q0 := pw_cell_below hB7 q0
        have HB7 := Aside0.mk (below_step HB6.out hB7)
        have HL7 := Aside0.mk (Kd.C_below HL6.out hB7)
        have HS7 := Aside0.mk (Kd.C_below HS6.out hB7)
        have HO7 := Aside0.mk hTab
        have HZ7 := Aside0.mk (show w.heap.size + 1 < w7.heap.size from Nat.lt_of_lt_of_le HZ6.out hB7.size)
        have HOc := Aside0.mk (fun (i k : Nat) (hi : i < t.nodes.length) (hk : k < t.nodes.length) => (show ((alkT t.nodes t.nodes t.nodes.length).getD i []).getD k false = PT t.nodes t.nodes i k from alk_cell _ _ hi hk))
        have HOs := Aside0.mk (fun (p : Nat) (hp : p < t.nodes.length) => (show ((alkT t.nodes t.nodes t.nodes.length).getD p []).length = t.nodes.length from by rw [alkT_row _ _ hp]; simp))
        clear hB7 hTab HB6 HL6 HS6 HZ6 q1
        generalize alkT t.nodes t.nodes t.nodes.length = tabO at HO7 HOc HOs
        have HK := Aside0.mk (And.intro k0 (And.intro k1 q0))
        have HT0 : Aside0 (TkN M w7 w7.heap.size 0 (w7.alloc (.map #[] 0))) := ⟨[], 0, Nat.le_refl _, fun x => by rw [List.take_zero]; simp, by rw [visF_nil]; exact MapF.made _ _ _, below_alloc (Below.refl _ _) _, Nat.le_refl _⟩
        go_wp2
        clear k0 k1 q0 hmm
        generalize w7.alloc (.map #[] 0) = w8 at HT0 ⊢
        generalize hmb : w7.heap.size = mb at HT0 ⊢
        go_loopw [61] (fun v61 W => ∃ i : Nat, i ≤ t.nodes.length ∧ v61 = .int .i64 i ∧ Aside0 (TkN M w7 mb i W)) (fun v61 _ => t.nodes.length - (intOf v61).toNat)
        case atStart => exact ⟨0, by omega, rfl, HT0⟩
        case round =>
          clear HT0
          obtain ⟨i, hi, rfl, HO⟩ := hrel
          obtain ⟨tk, cnt, hcn, htk, hm, hbw, hge⟩ := HO.out
          have HM := Aside0.mk hm
          have HTk := Aside0.mk htk
          have HBw := Aside0.mk hbw
          have HGe := Aside0.mk hge
          have hz1 := HZ7.out
          have hzw := hbw.size
          have hb0 : w.heap.size < wr.heap.size := by omega
          clear htk hm hbw hge HO hz1 hzw
          by_cases hlt : i < t.nodes.length
          · obtain ⟨ad, rfl, x0⟩ := at_i HL7.out i hlt
            have x0 := pw_cell_below HBw.out x0
            have k0 := pw_cell_below HBw.out HK.out.1
            have k1 := pw_cell_below HBw.out HK.out.2.1
            have HTs := Aside0.mk (show M.take (i + 1) = M.take i ++ [rd M (i : Int)] from take_succ_rd (by rw [HMl.out]; exact hlt))
            rcases HMo.out.pl i (by rw [HMl.out]; exact hlt) with hneg | ⟨hp0, hp1⟩
            · rw [hneg] at x0
              have HT7 := Aside0.mk (show TkN M w7 mb (i + 1) wr from ⟨tk, cnt, by omega, fun x => by
                rw [HTs.out, List.mem_append, List.mem_singleton, HTk.out x, hneg]
                exact ⟨fun h => ⟨h.1, .inl h.2⟩, fun h => ⟨h.1, h.2.elim id (fun e => absurd h.1 (by omega))⟩⟩, HM.out, HBw.out, HGe.out⟩)
              clear hneg
              go_wp2
              go_roundw
              case rel => exact ⟨i + 1, by omega, by go_num, HT7⟩
              case measure => simp [intOf]; omega
            · have hfr := once_fresh HMo.out (i := i) (by rw [HMl.out]; exact hlt) hp0
              have HKI := Aside0.mk (keyI_of (x := rd M (i : Int)) (by omega) (by omega))
              have hne1 : (rd M (i : Int) == -1) = false := by simp; omega
              have hpl : isPl a.nodes.length (rd M (i : Int)) = true := decide_eq_true ⟨hp0, hp1⟩
              have HVi := Aside0.mk (visF_iff (tk := tk) (k := rd M (i : Int)) (b := false) (decide_eq_false (fun h => hfr ((HTk.out _).1 h).2)))
              have hcM : cnt < maxLen := by unfold maxLen; omega
              have HTk2 := Aside0.mk (show ∀ x, x ∈ rd M (i : Int) :: tk ↔ 0 ≤ x ∧ x ∈ M.take (i + 1) from fun x => by
                rw [HTs.out, List.mem_cons, List.mem_append, List.mem_singleton, HTk.out x]
                constructor
                · rintro (h | h)
                  · exact ⟨by omega, .inr h⟩
                  · exact ⟨h.1, .inl h.2⟩
                · rintro ⟨h1, h | h⟩
                  · exact .inr ⟨h1, h⟩
                  · exact .inl h)
              clear hfr hp0 hp1
              generalize rd M (i : Int) = z at x0 HKI hne1 hpl HVi HTk2
              go_wp2_with fail
              refine (place_any A c a.nodes.length a.root z wr).mono ?_
              rintro e w10 ⟨rfl, hB10⟩
              rw [hpl]
              have HM10 := Aside0.mk (HM.out.below hB10)
              have HB10 := Aside0.mk (below_step HBw.out hB10)
              clear hB10 k0 k1 x0 hpl hb0
              go_wp2_with (first
                | (refine gate_guard (by rfl) ?_; dsimp only; refine wpList_lookup_F _ rfl (.tmp 72) (.tmp 73) 37 rfl 3 4 keyI Tryd.underlying37 (zeroB _) mb cnt (visF tk) rfl HM10.out (.int .i64 z) (.int .i64 z) rfl HKI.out (.bool false) HVi.out ?_)
                | (at_mapUpdate; refine wpList_update_F _ rfl (.tmp 76) (.tmp 77) _ 37 rfl 3 4 keyI Tryd.underlying37 mb cnt (visF tk) rfl HM10.out hcM (.int .i64 z) (.bool true) (.int .i64 z) rfl rfl HKI.out ?_; intro w11 hM11 hg11; have HT7 := Aside0.mk (show TkN M w7 mb (i + 1) w11 from ⟨z :: tk, cnt + 1, by omega, HTk2.out, by rw [← visF_put]; exact hM11, below_map HB10.out HB10.out.size hg11 HGe.out, HGe.out⟩); clear hM11 hg11))
              go_roundw
              case rel => exact ⟨i + 1, by omega, by go_num, HT7⟩
              case measure => simp [intOf]; omega
          · obtain rfl : i = t.nodes.length := by omega
            clear HTk HM HGe
            go_wp2
            go_loopw [81] (fun v81 W => ∃ i : Nat, i ≤ t.nodes.length ∧ v81 = .int .i64 i ∧ Aside0 (Below w7.heap.size w7 W)) (fun v81 _ => t.nodes.length - (intOf v81).toNat)
            case atStart => exact ⟨0, by omega, rfl, HBw⟩
            case round =>
              clear HBw hb0
              obtain ⟨i, hi, rfl, HO⟩ := hrel
              by_cases hlt : i < t.nodes.length
              · obtain ⟨ad, rfl, x0⟩ := at_i HL7.out i hlt
                have x0 := pw_cell_below HO.out x0
                have q0 := pw_cell_below HO.out HK.out.2.2
                go_wp2
                clear x0 q0
                go_loopw [89, 14] (fun v89 v14 W => ∃ j : Nat, j ≤ t.nodes.length ∧ v89 = .int .i64 j ∧ v14 = .int .i64 (cntP (PT t.nodes t.nodes i) j) ∧ Aside0 (Below w7.heap.size w7 W)) (fun v89 _ _ => t.nodes.length - (intOf v89).toNat)
                case atStart => exact ⟨0, by omega, rfl, rfl, HO⟩
                case round =>
                  clear HO
                  obtain ⟨j, hj, rfl, rfl, HO⟩ := hrel
                  have hcj : cntP (PT t.nodes t.nodes i) j ≤ j := cntP_lt _ _
                  by_cases hjl : j < t.nodes.length
                  · obtain ⟨tad, TB, td, rfl, y0, -, hTC⟩ := at_bools HO7.out i hlt
                    rw [HOs.out i hlt] at y0 hTC
                    obtain ⟨bad, rfl, y1⟩ := at_bool hTC j hjl
                    rw [HOc.out i j hlt hjl] at y1
                    replace y0 := pw_cell_below HO.out y0
                    replace y1 := pw_cell_below HO.out y1
                    have HCs := Aside0.mk (cntP_succ (PT t.nodes t.nodes i) j)
                    generalize hb : PT t.nodes t.nodes i j = b at y1 HCs
                    clear hb hTC
                    cases b with
                    | true =>
                      go_wp2
                      go_roundw
                      case rel => exact ⟨j + 1, by omega, by go_num, by rw [HCs.out]; go_num, HO⟩
                      case measure => simp [intOf]; omega
                    | false =>
                      go_wp2
                      go_roundw
                      case rel => exact ⟨j + 1, by omega, by go_num, by rw [HCs.out]; go_num, HO⟩
                      case measure => simp [intOf]; omega
                  · obtain rfl : j = t.nodes.length := by omega
                    have k0 := pw_cell_below HO.out HK.out.1
                    go_wp2
                    clear k0
                    go_loopw [105, 15] (fun v105 v15 W => ∃ j : Nat, j ≤ a.nodes.length ∧ v105 = .int .i64 j ∧ v15 = .int .i64 (cntP (PT a.nodes t.nodes i) j) ∧ Aside0 (Below w7.heap.size w7 W)) (fun v105 _ _ => a.nodes.length - (intOf v105).toNat)
                    case atStart => exact ⟨0, by omega, rfl, rfl, HO⟩
                    case round =>
                      clear HO
                      obtain ⟨j, hj, rfl, rfl, HO⟩ := hrel
                      have hcj2 : cntP (PT a.nodes t.nodes i) j ≤ j := cntP_lt _ _
                      by_cases hjl : j < a.nodes.length
                      · obtain ⟨tad, TB, td, rfl, y0, -, hTC⟩ := at_bools HS7.out i hlt
                        rw [HSs.out i hlt] at y0 hTC
                        obtain ⟨bad, rfl, y1⟩ := at_bool hTC j hjl
                        rw [HSc.out i j hlt hjl] at y1
                        replace y0 := pw_cell_below HO.out y0
                        replace y1 := pw_cell_below HO.out y1
                        have HCs := Aside0.mk (cntP_succ (PT a.nodes t.nodes i) j)
                        generalize hb : PT a.nodes t.nodes i j = b at y1 HCs
                        clear hb hTC
                        cases b with
                        | true =>
                          go_wp2
                          go_roundw
                          case rel => exact ⟨j + 1, by omega, by go_num, by rw [HCs.out]; go_num, HO⟩
                          case measure => simp [intOf]; omega
                        | false =>
                          go_wp2
                          go_roundw
                          case rel => exact ⟨j + 1, by omega, by go_num, by rw [HCs.out]; go_num, HO⟩
                          case measure => simp [intOf]; omega
                      · obtain rfl : j = a.nodes.length := by omega
                        have HMi := Aside0.mk (HMt.out i hlt)
                        generalize cntP (PT t.nodes t.nodes i) t.nodes.length = nh at HMi hcj
                        generalize cntP (PT a.nodes t.nodes i) a.nodes.length = nt at HMi hcj2
                        by_cases hge : nh ≤ nt
                        · obtain ⟨kk, hkk, hke, hkp⟩ := HMi.out hge
                          obtain ⟨tad, TB, td, rfl, y0, -, hTC⟩ := at_bools HS7.out i hlt
                          rw [HSs.out i hlt] at y0 hTC
                          obtain ⟨bad, rfl, y1⟩ := at_bool hTC kk hkk
                          rw [HSc.out i kk hlt hkk, hkp] at y1
                          replace y0 := pw_cell_below HO.out y0
                          replace y1 := pw_cell_below HO.out y1
                          have d1 : decide ((nh : Int) ≤ (nt : Int)) = true := decide_eq_true (by omega)
                          rw [hke]
                          go_wp2
                          go_roundw
                          case rel => exact ⟨i + 1, by omega, by go_num, HO⟩
                          case measure => simp [intOf]; omega
                        · have d1 : decide ((nh : Int) ≤ (nt : Int)) = false := decide_eq_false (by omega)
                          go_wp2
                          go_roundw
                          case rel => exact ⟨i + 1, by omega, by go_num, HO⟩
                          case measure => simp [intOf]; omega
              · obtain rfl : i = t.nodes.length := by omega
                go_wp2
                go_ret
                exact ⟨rfl, below_step HB7.out HO.out⟩
end Go.Proofs.YtggldnbhmebcpaaDoor.L
end
section
namespace Go.Proofs.YtggldnbhmebcpaaDoor.L
open Go.RowKit Go.ChangeShapes Go.WideShapes Go.Proofs.YtggldnbhmebcpaaDoorW.PrintWords Go.Proofs.YtggldnbhmebcpaaDoorW.PrintLast Go.Proofs.YtggldnbhmebcpaaDoorW.PrintMore
attribute [local go_sem] max2_int min2_int max_two min_two max_three min_three max_four min_four
namespace matchOnce
open Go.ChangeShapes Go.WideShapes Go.ChangeAt Go.RowKit
set_option maxRecDepth 100000 in
theorem lifted (os : Os) (started : os.Started) (H : Type) (enc : TypeId × Value → H) :
    ReturnsInHanded {} Tryd.checked os 4 .any (fun w args => (Rows.matchOnceSpec.pre enc Tryd.prog Tryd.f4 [] false w args ∧ laidMetH Tryd.prog rowLaid w) ∧ sizedMet enc Tryd.prog Tryd.f4 (OpenSpec.ofChange Rows.matchOnceSpec) false w args)
      (Rows.matchOnceSpec.post enc Tryd.prog Tryd.f4 false true false false) := by
  refine returnsInHanded_of_change_and (C := Tryd.checked) (X := fun w _ => laidMetH Tryd.prog rowLaid w) (fun _ _ _ hh h => h.of_heap hh) own started (by kernel_rfl) Tryd.func4
    (ChangeSpec.witness_shaped (enc := enc) (C := Tryd.checked) (os := os) (X := fun w _ => laidMetH Tryd.prog rowLaid w) false (World.laidAll Tryd.prog os rowLaid) #[.agg #[.slice none 0 0, .int .i64 0], .agg #[.slice none 0 0, .int .i64 0]] 8 (World.laidAll_os _ _ _)
      (World.shaped_of_ZipB (by kernel_rfl) (by kernel_rfl)) (by kernel_rfl) (by kernel_rfl) (by kernel_rfl) (laid_met os _)) ?_
  intro W base args ds gs before hval0 hW hc _ hL _
  have hval : ∀ (j : Nat) t v, (Tryd.f4).params[j]? = some t → args[j]? = some v → Value.okWide Tryd.prog W .any base t v := hval0
  have hW' := hW
  obtain ⟨p, q, hA0, hV, rfl, hfz, hnd⟩ := hW
  have hA : DataW.TrodAll enc Tryd.prog W 0 (fun _ => true) true (Tryd.f4).params.toList args.toList ds p := hA0
  rw [Tryd.params4] at hA hval
  obtain ⟨v0, vs0, d0, ds0, p0, q0, hargs, rfl, rfl, h0, r0⟩ := trodAll_cons hA
  obtain ⟨v1, vs1, d1, ds1, p1, q1, rfl, rfl, rfl, h1, r1⟩ := trodAll_cons r0
  obtain ⟨rfl, rfl, rfl⟩ := trodAll_nil r1
  obtain rfl : args = #[v0, v1] := by cases args; simp_all
  obtain ⟨rfl, rfl⟩ := trodVars_none hV
  have lt0 : ∀ x ∈ p0, x.block < W.heap.size := by obtain ⟨m, hm⟩ := h0; exact DataW.trod_lt m _ _ _ hm
  have lt1 : ∀ x ∈ p1, x.block < W.heap.size := by obtain ⟨m, hm⟩ := h1; exact DataW.trod_lt m _ _ _ hm
  obtain ⟨s0, cs0, rfl, hK0, hG0⟩ := Opens.arg_struct Tryd.underlying24 opens_sceneB (hval 0 24 v0 rfl rfl) h0
  obtain ⟨A0, c0, hcs0, hlc0, hC0⟩ := kScene_open hK0
  obtain rfl : cs0 = #[.slice A0 s0.nodes.length c0, .int .i64 s0.root] := by cases cs0; simp_all
  obtain ⟨s1, cs1, rfl, hK1, hG1⟩ := Opens.arg_struct Tryd.underlying24 opens_sceneB (hval 1 24 v1 rfl rfl) h1
  obtain ⟨A1, c1, hcs1, hlc1, hC1⟩ := kScene_open hK1
  obtain rfl : cs1 = #[.slice A1 s1.nodes.length c1, .int .i64 s1.root] := by cases cs1; simp_all
  clear hA0 hval0
  refine (matchOnce_any Lib.goPrintTabs A0 c0 s0 A1 c1 s1 W hC0 hlc0 hC1 hlc1 hG0 hG1 (qtabs_of_laid hL)).mono fun e W' ⟨he, bel⟩ => ?_
  subst he
  exact ⟨_, rfl, _, _, _, [], _, [], hW', trodAll_mk1 (shut_bool Tryd.underlying4 _), (trodAll_cons_mk (Below.trod laidOut (by kernel_rfl) (of_decide_eq_true (by kernel_rfl)) h0 bel lt0) (trodAll_cons_mk (Below.trod laidOut (by kernel_rfl) (of_decide_eq_true (by kernel_rfl)) h1 bel lt1) trodAll_mk0)), rfl, bel.frame _, fun h => by cases h⟩
theorem over : Rows.MatchOnceSaid :=
  OpenClaim.holds_of_wide 4 Tryd.f4 rfl rfl rfl rfl rfl rfl rfl ⟨rfl, rfl, rfl, rfl, rfl⟩ rfl rfl rfl rfl rfl (by kernel_rfl) Tryd.func4 (by kernel_rfl)
    (of_decide_eq_true (by kernel_rfl)) (by unfold Func.isWrapper; first | (rw [if_pos (by decide +kernel)]; kernel_rfl) | (rw [if_neg (by decide +kernel)]; exact ⟨rfl, rfl⟩))
    (fun os started H enc _ => lifted os started H enc)
theorem card_holds : Rows.MatchOnceCardSaid :=
  Claim7.holds_tied_plain_at .later [] [.data, .data, .data, .data, .pinned, .pinned, .pinned, .pinned, .pinned, .pinned] true (true, "62ce439ba889557fab806eaffdcfdf26d7b537d005658908607b03f6db238a4a") false over (fun _ h => by cases h) (by kernel_rfl) (fun _ h => by cases h) matchOnce_row_tie rfl ⟨rfl, rfl⟩ (by kernel_rfl) rfl
    (fun f fn hf hfn => by
      obtain rfl : f = 4 := Option.some.inj ((show Tryd.prog.funcNamed "diorama/dioramalaw21.MatchOnce" = some 4 by kernel_rfl).symm.trans hf) |>.symm
      obtain rfl : fn = Tryd.f4 := (Option.some.inj ((Tryd.func4).symm.trans hfn)).symm
      exact ⟨by kernel_rfl, fun j t ht => by
        rw [Tryd.params4] at ht
        have hm : t ∈ [24, 24] := by simpa using Array.mem_of_getElem? ht
        have hall : ([24, 24].all fun u => !Tryd.prog.wantsStandIn u) = true := by kernel_rfl
        exact (show Tryd.prog.wantsStandIn t = false by simpa using List.all_eq_true.1 hall t hm)⟩)
    (by kernel_rfl)
#print axioms card_holds
end matchOnce
end Go.Proofs.YtggldnbhmebcpaaDoor.L
end
