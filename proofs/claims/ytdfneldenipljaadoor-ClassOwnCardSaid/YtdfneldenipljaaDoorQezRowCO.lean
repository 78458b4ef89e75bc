/- Two nodes of two canonical scenes have one number by class.Numbers just if their trees are the same; conditions: none (every two scenes; the ten tables of Go's library read as the program's text lays them, and the card ties that). Conditions: those that each theorem states. -/
import Derived.Test.YtdfneldenipljaaDoorQed
import Derived.BigQuiet
set_option linter.unusedVariables false
set_option linter.unusedSimpArgs false
section
namespace Go.Proofs.YtdfneldenipljaaDoor.L
open Go.RowKit Go.ChangeShapes Go.WideShapes Go.Proofs.YtdfneldenipljaaDoorW.PrintWords Go.Proofs.YtdfneldenipljaaDoorW.PrintLast Go.Proofs.YtdfneldenipljaaDoorW.PrintMore
attribute [local go_sem] max2_int min2_int max_two min_two max_three min_three max_four min_four
set_option maxRecDepth 100000 in
set_option maxHeartbeats 8000000 in
theorem classOwn_any (T : Lib.PrintTabs) (A : Option Addr) (c : Nat) (a : Scene) (B : Option Addr) (d : Nat) (b : Scene) (w : World) (h : kNode.C w A a.nodes.length a.nodes) (hc : a.nodes.length ≤ c) (h' : kNode.C w B b.nodes.length b.nodes) (hd : b.nodes.length ≤ d)
    (hNa : ∀ i : Nat, i < a.nodes.length → NBd (nd a.nodes i)) (hNb : ∀ i : Nat, i < b.nodes.length → NBd (nd b.nodes i)) (hT : QTabs T w) :
    Calls Tryd.prog 4 #[.agg #[.slice A a.nodes.length c, .int .i64 a.root], .agg #[.slice B b.nodes.length d, .int .i64 b.root]] w fun e w' => e = .returned (.bool true) ∧ Below w.heap.size w w' := by
  have HR := Aside0.mk h
  have HR' := Aside0.mk h'
  have HT := Aside0.mk hT
  have HNa := Aside0.mk hNa
  have HNb := Aside0.mk hNb
  have hA0 := below_alloc (Below.refl w.heap.size w) (.cells #[.slice A a.nodes.length c, .int .i64 a.root] 34)
  have hA1 := below_alloc (Below.refl (w.alloc (.cells #[.slice A a.nodes.length c, .int .i64 a.root] 34)).heap.size (w.alloc (.cells #[.slice A a.nodes.length c, .int .i64 a.root] 34))) (.cells #[.slice B b.nodes.length d, .int .i64 b.root] 34)
  have HB := Aside0.mk (below_step hA0 hA1)
  have k0 := pw_cell_below hA1 (box_cell w _ rfl #[.slice A a.nodes.length c, .int .i64 a.root] 34 0 (.slice A a.nodes.length c) rfl)
  have k1 := pw_cell_below hA1 (box_cell w _ rfl #[.slice A a.nodes.length c, .int .i64 a.root] 34 1 (.int .i64 a.root) rfl)
  have q0 := box_cell (w.alloc (.cells #[.slice A a.nodes.length c, .int .i64 a.root] 34)) (w.heap.size + 1) (by simp) #[.slice B b.nodes.length d, .int .i64 b.root] 34 0 (.slice B b.nodes.length d) rfl
  have q1 := box_cell (w.alloc (.cells #[.slice A a.nodes.length c, .int .i64 a.root] 34)) (w.heap.size + 1) (by simp) #[.slice B b.nodes.length d, .int .i64 b.root] 34 1 (.int .i64 b.root) rfl
  have hu := Tryd.underlying34
  clear h h' hT hNa hNb hA0 hA1
  go_enter Tryd.func4, Tryd.ntmps4
  go_wp2_with fail
  refine (cawake_any T _ (HT.out.below HB.out)).mono ?_
  rintro e w1 ⟨rfl, hB1⟩
  replace k0 := pw_cell_below hB1 k0
  replace k1 := pw_cell_below hB1 k1
  replace q0 := pw_cell_below hB1 q0
  replace q1 := pw_cell_below hB1 q1
  have HB1 := Aside0.mk (below_step HB.out hB1)
  clear hB1 HB
  have HKa := Aside0.mk (fun (W : World) (hW : Below w.heap.size w W) => scK (Kd.C_below HR.out hW) hc)
  have HKb := Aside0.mk (fun (W : World) (hW : Below w.heap.size w W) => scK (Kd.C_below HR'.out hW) hd)
  go_wp2_with fail
  have hA2 := below_alloc (Below.refl w1.heap.size w1) (.cells #[.slice A a.nodes.length c, .int .i64 a.root, .slice B b.nodes.length d, .int .i64 b.root] 34)
  refine (great19_any _ 2 [a, b] _ (sc_row2 w1 _ rfl (HKa.out w1 HB1.out) (HKb.out w1 HB1.out))).mono ?_
  rintro e w2 ⟨rfl, hB2⟩
  have hB2 := below_step hA2 hB2
  replace k0 := pw_cell_below hB2 k0
  replace k1 := pw_cell_below hB2 k1
  replace q0 := pw_cell_below hB2 q0
  replace q1 := pw_cell_below hB2 q1
  have HB2 := Aside0.mk (below_step HB1.out hB2)
  clear hB2 hA2 HB1
  cases hg : great19 [a, b] with
  | true =>
    clear hg
    go_wp2_with fail
    refine (cawake_any T _ (HT.out.below HB2.out)).mono ?_
    rintro e w3 ⟨rfl, hB3⟩
    have HB3 := Aside0.mk (below_step HB2.out hB3)
    clear hB3 k0 k1 q0 q1
    go_wp2
    go_ret
    exact ⟨rfl, HB3.out⟩
  | false =>
    have HGa := Aside0.mk (greatC_bd (great2 hg).1 HNa.out)
    have HGb := Aside0.mk (greatC_bd (great2 hg).2 HNb.out)
    clear hg
    go_wp2_with fail
    refine (ris_any A c a _ (Kd.C_below HR.out HB2.out) hc HGa.out.1.2 (fun i hi => (HGa.out.1.1 i hi).1)).mono ?_
    rintro e w3 ⟨rfl, hB3⟩
    replace k0 := pw_cell_below hB3 k0
    replace k1 := pw_cell_below hB3 k1
    replace q0 := pw_cell_below hB3 q0
    replace q1 := pw_cell_below hB3 q1
    have HB3 := Aside0.mk (below_step HB2.out hB3)
    clear hB3 HB2
    cases hia : isC a with
    | false =>
      clear hia
      go_wp2_with fail
      refine (cawake_any T _ (HT.out.below HB3.out)).mono ?_
      rintro e w4 ⟨rfl, hB4⟩
      have HB4 := Aside0.mk (below_step HB3.out hB4)
      clear hB4 k0 k1 q0 q1
      go_wp2
      go_ret
      exact ⟨rfl, HB4.out⟩
    | true =>
      have HIa := Aside0.mk hia
      clear hia
      go_wp2_with fail
      refine (ris_any B d b _ (Kd.C_below HR'.out HB3.out) hd HGb.out.1.2 (fun i hi => (HGb.out.1.1 i hi).1)).mono ?_
      rintro e w4 ⟨rfl, hB4⟩
      replace k0 := pw_cell_below hB4 k0
      replace k1 := pw_cell_below hB4 k1
      replace q0 := pw_cell_below hB4 q0
      replace q1 := pw_cell_below hB4 q1
      have HB4 := Aside0.mk (below_step HB3.out hB4)
      clear hB4 HB3
      cases hib : isC b with
      | false =>
        clear hib
        go_wp2_with fail
        refine (cawake_any T _ (HT.out.below HB4.out)).mono ?_
        rintro e w5 ⟨rfl, hB5⟩
        have HB5 := Aside0.mk (below_step HB4.out hB5)
        clear hB5 k0 k1 q0 q1
        go_wp2
        go_ret
        exact ⟨rfl, HB5.out⟩
      | true =>
        have HIb := Aside0.mk hib
        have HPe := Aside0.mk (show ∃ o1 o2 : List Int, (allS T [a, b]).2 = [o1, o2] ∧ o1.length = a.nodes.length ∧ o2.length = b.nodes.length ∧ ∀ i j : Nat, i < a.nodes.length → j < b.nodes.length → (((alkT a.nodes b.nodes a.nodes.length).getD i []).getD j false = true ↔ rd o1 (i : Int) = rd o2 (j : Int)) from by
          have hA : ∀ s ∈ [a, b], AheadN s.nodes := fun s hs => by
            rcases List.mem_cons.1 hs with rfl | hs
            · exact fun p hp k hk => isC_ahead (isC_right HIa.out) HIa.out hp hk
            · rw [List.mem_singleton.1 hs]
              exact fun p hp k hk => isC_ahead (isC_right HIb.out) HIb.out hp hk
          refine ⟨(ownS T [] a.nodes).2, (ownS T (ownS T [] a.nodes).1 b.nodes).2, rfl, own_len T _ _ _ rfl, own_len T _ _ _ rfl, fun i j hi hj => ?_⟩
          exact all_alk (T := T) hA (i := 0) (k := 1) (by simp) (by simp) hi hj)
        clear hib
        obtain ⟨o1, o2, he2, hl1, hl2, hak⟩ := HPe.out
        have HE2 := Aside0.mk he2
        have HL1 := Aside0.mk hl1
        have HL2 := Aside0.mk hl2
        have HAk := Aside0.mk hak
        clear HPe he2 hl1 hl2 hak
        go_wp2_with fail
        have hA5 := below_alloc (Below.refl w4.heap.size w4) (.cells #[.slice A a.nodes.length c, .int .i64 a.root, .slice B b.nodes.length d, .int .i64 b.root] 34)
        refine (numbers_any T _ 2 [a, b] _ (sc_row2 w4 _ rfl (HKa.out w4 HB4.out) (HKb.out w4 HB4.out)) (fun i hi => by
          have hi : i < 2 := hi
          match i, hi with
          | 0, _ => exact HGa.out.1
          | 1, _ => exact HGb.out.1) (by simp) (HT.out.below (below_step HB4.out hA5))).mono ?_
        rintro e w5 ⟨hB5, (⟨-, v, rfl, hR5⟩ | ⟨⟨i, hi, hbad⟩, rfl⟩)⟩
        rotate_left
        · have hi : i < 2 := hi
          have h1 : isC (sc [a, b] i) = true := match i, hi with
            | 0, _ => HIa.out
            | 1, _ => HIb.out
          rw [hbad] at h1
          cases h1
        rw [HE2.out] at hR5
        obtain ⟨A5, c5, hv5⟩ := Kd.R_slice hR5
        subst hv5
        have hB5 := below_step hA5 hB5
        replace k0 := pw_cell_below hB5 k0
        replace k1 := pw_cell_below hB5 k1
        replace q0 := pw_cell_below hB5 q0
        replace q1 := pw_cell_below hB5 q1
        have HB5 := Aside0.mk (below_step HB4.out hB5)
        have HL5 := Aside0.mk (Kd.R_reads' hR5).2.2
        clear hR5 hB5 hA5 HB4
        obtain ⟨al, B0, d0, rfl, x0, -, hC0⟩ := at_ints HL5.out 0 (by simp)
        obtain ⟨al', B2, d2, el, x2, -, hC2⟩ := at_ints HL5.out 1 (by simp)
        injection el with el
        subst el
        have HC0 := Aside0.mk (show (Kd.int .i64).C w5 B0 o1.length o1 from hC0)
        have HC2 := Aside0.mk (show (Kd.int .i64).C w5 B2 o2.length o2 from hC2)
        have x0 : w5.cell? al = some (.slice B0 o1.length d0) := by
          rw [add_zero al] at x0
          exact x0
        have x2 : w5.cell? (al.add (1 : Nat)) = some (.slice B2 o2.length d2) := x2
        replace x2 : w5.cell? ⟨al.block, al.off + 1, none⟩ = some (.slice B2 o2.length d2) := x2
        clear hC0 hC2 HL5
        rw [HL1.out] at x0 HC0
        rw [HL2.out] at x2 HC2
        have n1 : ((a.nodes.length : Int) != (a.nodes.length : Int)) = false := by simp
        have n2 : ((b.nodes.length : Int) != (b.nodes.length : Int)) = false := by simp
        go_wp2
        go_quiet (fail)
        clear n1 n2
        have hbq := pw_below_drewN (Below.refl w5.heap.size w5) nq
        replace k0 := pw_cell_below hbq k0
        replace k1 := pw_cell_below hbq k1
        replace q0 := pw_cell_below hbq q0
        replace q1 := pw_cell_below hbq q1
        replace x0 := pw_cell_below hbq x0
        replace x2 := pw_cell_below hbq x2
        replace HC0 := Aside0.mk (Kd.C_below HC0.out hbq)
        replace HC2 := Aside0.mk (Kd.C_below HC2.out hbq)
        replace HB5 := Aside0.mk (below_step HB5.out hbq)
        clear hbq
        generalize w5.drewN nq = w6 at k0 k1 q0 q1 x0 x2 HC0 HC2 HB5 ⊢
        go_wp2_with fail
        refine (alike_any A c a B d b w6 (Kd.C_below HR.out HB5.out) hc (Kd.C_below HR'.out HB5.out) hd (fun i hi => (HGa.out.1.1 i hi).1) (fun p hp q hq => (isC_ahead (isC_right HIa.out) HIa.out hp hq).1) (fun p hp q hq => (isC_ahead (isC_right HIb.out) HIb.out hp hq).1) (by have := HGa.out.2; omega) (by have := HGb.out.2; omega)).mono ?_
        rintro e w7 ⟨A7, c7, rfl, hc7, hTab, hB7⟩
        replace k0 := pw_cell_below hB7 k0
        replace q0 := pw_cell_below hB7 q0
        replace x0 := pw_cell_below hB7 x0
        replace x2 := pw_cell_below hB7 x2
        replace HC0 := Aside0.mk (Kd.C_below HC0.out hB7)
        replace HC2 := Aside0.mk (Kd.C_below HC2.out hB7)
        have HB7 := Aside0.mk (below_step HB5.out hB7)
        have HTab := Aside0.mk hTab
        have HTr := Aside0.mk (fun (p : Nat) (hp : p < a.nodes.length) => alkT_row a.nodes b.nodes hp)
        have hna : a.nodes.length ≤ 25 := HGa.out.2
        have hnb : b.nodes.length ≤ 25 := HGb.out.2
        clear hTab hB7 k1 q1 HB5
        generalize alkT a.nodes b.nodes a.nodes.length = tab at HTab HAk HTr
        have HTs := Aside0.mk (fun (p : Nat) (hp : p < a.nodes.length) => (show (tab.getD p []).length = b.nodes.length from by rw [HTr.out p hp]; simp))
        clear HTr
        go_wp2
        clear k0
        have HX0 := Aside0.mk x0
        have HX2 := Aside0.mk x2
        have HQ0 := Aside0.mk q0
        clear x0 x2 q0
        go_loopw [69] (fun v69 W => ∃ i : Nat, i ≤ a.nodes.length ∧ v69 = .int .i64 i ∧ Drawn0 w7 W) (fun v69 _ => a.nodes.length - (intOf v69).toNat)
        case atStart => exact ⟨0, by omega, rfl, Drawn0.refl _⟩
        case round =>
          obtain ⟨i, hi, rfl, ⟨m, rfl⟩⟩ := hrel
          have hbm := pw_below_drewN (Below.refl w7.heap.size w7) m
          have q0 := pw_cell_below hbm HQ0.out
          by_cases hlt : i < a.nodes.length
          · go_wp2
            clear q0 hbm
            go_loopw [75] (fun v75 W => ∃ j : Nat, j ≤ b.nodes.length ∧ v75 = .int .i64 j ∧ Drawn0 w7 W) (fun v75 _ => b.nodes.length - (intOf v75).toNat)
            case atStart => exact ⟨0, by omega, rfl, ⟨m, rfl⟩⟩
            case round =>
              obtain ⟨j, hj, rfl, ⟨m, rfl⟩⟩ := hrel
              have hbm := pw_below_drewN (Below.refl w7.heap.size w7) m
              by_cases hjl : j < b.nodes.length
              · have x0 := pw_cell_below hbm HX0.out
                have x2 := pw_cell_below hbm HX2.out
                obtain ⟨a0, rfl, y0⟩ := at_nat HC0.out i hlt
                obtain ⟨a2, rfl, y2⟩ := at_nat HC2.out j hjl
                obtain ⟨at_, Bp, dp, rfl, f0, -, hCp⟩ := at_bools HTab.out i hlt
                rw [HTs.out i hlt] at f0 hCp
                obtain ⟨ap, rfl, f1⟩ := at_bool hCp j hjl
                replace y0 := pw_cell_below hbm y0
                replace y2 := pw_cell_below hbm y2
                replace f0 := pw_cell_below hbm f0
                replace f1 := pw_cell_below hbm f1
                have hk := HAk.out i j hlt hjl
                have hz : (rd o1 (i : Int) == rd o2 (j : Int)) = (tab.getD i []).getD j false := by
                  cases hzb : (tab.getD i []).getD j false with
                  | true => rw [hk.1 hzb]; simp
                  | false =>
                    have : ¬ rd o1 (i : Int) = rd o2 (j : Int) := fun e => by rw [hk.2 e] at hzb; cases hzb
                    simpa using this
                have i1 : (i : Int) < (a.nodes.length : Int) := by omega
                have i2 : (j : Int) < (b.nodes.length : Int) := by omega
                have HZ := Aside0.mk hz
                generalize (tab.getD i []).getD j false = z at f1 hz HZ
                have hzz : (z != z) = false := by simp
                generalize hwm : w7.drewN m = wm at x0 x2 y0 y2 f0 f1 ⊢
                clear hbm hCp hk
                go_wp2
                go_quiet (fail)
                go_wp2
                go_roundw
                case rel => exact ⟨j + 1, by omega, by go_num, by rw [← hwm]; exact ⟨m + nq, by simp [World.drewN_drewN]⟩⟩
                case measure => simp [intOf]; omega
              · obtain rfl : j = b.nodes.length := by omega
                go_wp2
                go_roundw
                case rel => exact ⟨i + 1, by omega, by go_num, ⟨m, rfl⟩⟩
                case measure => simp [intOf]; omega
          · obtain rfl : i = a.nodes.length := by omega
            go_wp2
            go_ret
            exact ⟨rfl, below_step HB7.out hbm⟩
end Go.Proofs.YtdfneldenipljaaDoor.L
end
section
namespace Go.Proofs.YtdfneldenipljaaDoor.L
open Go.RowKit Go.ChangeShapes Go.WideShapes Go.Proofs.YtdfneldenipljaaDoorW.PrintWords Go.Proofs.YtdfneldenipljaaDoorW.PrintLast Go.Proofs.YtdfneldenipljaaDoorW.PrintMore
attribute [local go_sem] max2_int min2_int max_two min_two max_three min_three max_four min_four
namespace classOwn
open Go.ChangeShapes Go.WideShapes Go.ChangeAt Go.RowKit
set_option maxRecDepth 100000 in
theorem lifted (os : Os) (started : os.Started) (H : Type) (enc : TypeId × Value → H) :
    ReturnsInHanded {} Tryd.checked os 4 .any (fun w args => (Rows.classOwnSpec.pre enc Tryd.prog Tryd.f4 [] false w args ∧ laidMetH Tryd.prog rowLaid w) ∧ sizedMet enc Tryd.prog Tryd.f4 (OpenSpec.ofChange Rows.classOwnSpec) false w args)
      (Rows.classOwnSpec.post enc Tryd.prog Tryd.f4 false true false false) := by
  refine returnsInHanded_of_change_and (C := Tryd.checked) (X := fun w _ => laidMetH Tryd.prog rowLaid w) (fun _ _ _ hh h => h.of_heap hh) own started (by kernel_rfl) Tryd.func4
    (ChangeSpec.witness_shaped (enc := enc) (C := Tryd.checked) (os := os) (X := fun w _ => laidMetH Tryd.prog rowLaid w) false (World.laidAll Tryd.prog os rowLaid) #[.agg #[.slice none 0 0, .int .i64 0], .agg #[.slice none 0 0, .int .i64 0]] 8 (World.laidAll_os _ _ _)
      (World.shaped_of_ZipB (by kernel_rfl) (by kernel_rfl)) (by kernel_rfl) (by kernel_rfl) (by kernel_rfl) (laid_met os _)) ?_
  intro W base args ds gs before hval0 hW hc _ hL _
  have hval : ∀ (j : Nat) t v, (Tryd.f4).params[j]? = some t → args[j]? = some v → Value.okWide Tryd.prog W .any base t v := hval0
  have hW' := hW
  obtain ⟨p, q, hA0, hV, rfl, hfz, hnd⟩ := hW
  have hA : DataW.TrodAll enc Tryd.prog W 0 (fun _ => true) true (Tryd.f4).params.toList args.toList ds p := hA0
  rw [Tryd.params4] at hA hval
  obtain ⟨v0, vs0, d0, ds0, p0, q0, hargs, rfl, rfl, h0, r0⟩ := trodAll_cons hA
  obtain ⟨v1, vs1, d1, ds1, p1, q1, rfl, rfl, rfl, h1, r1⟩ := trodAll_cons r0
  obtain ⟨rfl, rfl, rfl⟩ := trodAll_nil r1
  obtain rfl : args = #[v0, v1] := by cases args; simp_all
  obtain ⟨rfl, rfl⟩ := trodVars_none hV
  have lt0 : ∀ x ∈ p0, x.block < W.heap.size := by obtain ⟨m, hm⟩ := h0; exact DataW.trod_lt m _ _ _ hm
  have lt1 : ∀ x ∈ p1, x.block < W.heap.size := by obtain ⟨m, hm⟩ := h1; exact DataW.trod_lt m _ _ _ hm
  obtain ⟨s0, cs0, rfl, hK0, hG0⟩ := Opens.arg_struct Tryd.underlying34 opens_sceneB (hval 0 34 v0 rfl rfl) h0
  obtain ⟨A0, c0, hcs0, hlc0, hC0⟩ := kScene_open hK0
  obtain rfl : cs0 = #[.slice A0 s0.nodes.length c0, .int .i64 s0.root] := by cases cs0; simp_all
  obtain ⟨s1, cs1, rfl, hK1, hG1⟩ := Opens.arg_struct Tryd.underlying34 opens_sceneB (hval 1 34 v1 rfl rfl) h1
  obtain ⟨A1, c1, hcs1, hlc1, hC1⟩ := kScene_open hK1
  obtain rfl : cs1 = #[.slice A1 s1.nodes.length c1, .int .i64 s1.root] := by cases cs1; simp_all
  clear hA0 hval0
  refine (classOwn_any Lib.goPrintTabs A0 c0 s0 A1 c1 s1 W hC0 hlc0 hC1 hlc1 hG0 hG1 (qtabs_of_laid hL)).mono fun e W' ⟨he, bel⟩ => ?_
  subst he
  exact ⟨_, rfl, _, _, _, [], _, [], hW', trodAll_mk1 (shut_bool Tryd.underlying4 _), (trodAll_cons_mk (Below.trod laidOut (by kernel_rfl) (of_decide_eq_true (by kernel_rfl)) h0 bel lt0) (trodAll_cons_mk (Below.trod laidOut (by kernel_rfl) (of_decide_eq_true (by kernel_rfl)) h1 bel lt1) trodAll_mk0)), rfl, bel.frame _, fun h => by cases h⟩
theorem over : Rows.ClassOwnSaid :=
  OpenClaim.holds_of_wide 4 Tryd.f4 rfl rfl rfl rfl rfl rfl rfl ⟨rfl, rfl, rfl, rfl, rfl⟩ rfl rfl rfl rfl rfl (by kernel_rfl) Tryd.func4 (by kernel_rfl)
    (of_decide_eq_true (by kernel_rfl)) (by unfold Func.isWrapper; first | (rw [if_pos (by decide +kernel)]; kernel_rfl) | (rw [if_neg (by decide +kernel)]; exact ⟨rfl, rfl⟩))
    (fun os started H enc _ => lifted os started H enc)
theorem card_holds : Rows.ClassOwnCardSaid :=
  Claim7.holds_tied_plain_at .later [] [.data, .data, .data, .data, .pinned, .pinned, .pinned, .pinned, .pinned, .pinned] true (true, "6733ca2e7fb67cc65005b080e6ff8756d91017a8676886b3aaa4db3429368ce6") false over (fun _ h => by cases h) (by kernel_rfl) (fun _ h => by cases h) classOwn_row_tie rfl ⟨rfl, rfl⟩ (by kernel_rfl) rfl
    (fun f fn hf hfn => by
      obtain rfl : f = 4 := Option.some.inj ((show Tryd.prog.funcNamed "diorama/dioramalaw19.ClassOwn" = some 4 by kernel_rfl).symm.trans hf) |>.symm
      obtain rfl : fn = Tryd.f4 := (Option.some.inj ((Tryd.func4).symm.trans hfn)).symm
      exact ⟨by kernel_rfl, fun j t ht => by
        rw [Tryd.params4] at ht
        have hm : t ∈ [34, 34] := by simpa using Array.mem_of_getElem? ht
        have hall : ([34, 34].all fun u => !Tryd.prog.wantsStandIn u) = true := by kernel_rfl
        exact (show Tryd.prog.wantsStandIn t = false by simpa using List.all_eq_true.1 hall t hm)⟩)
    (by kernel_rfl)
#print axioms card_holds
end classOwn
end Go.Proofs.YtdfneldenipljaaDoor.L
end
