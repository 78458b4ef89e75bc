/- Gone through in order, the numbers that class.Numbers gives are at most by one greater than the greatest one ahead; conditions: none (every list of scenes; the ten tables of Go's library read as the program's text lays them, and the card ties that). Conditions: those that each theorem states. -/
import Derived.Test.YtdfneldenipljaaDoorQdd
set_option linter.unusedVariables false
set_option linter.unusedSimpArgs false
section
namespace Go.Proofs.YtdfneldenipljaaDoor.L
open Go.RowKit Go.ChangeShapes Go.WideShapes Go.Proofs.YtdfneldenipljaaDoorW.PrintWords Go.Proofs.YtdfneldenipljaaDoorW.PrintLast Go.Proofs.YtdfneldenipljaaDoorW.PrintMore
attribute [local go_sem] max2_int min2_int max_two min_two max_three min_three max_four min_four
set_option maxRecDepth 100000 in
set_option maxHeartbeats 8000000 in
theorem classRise_any (T : Lib.PrintTabs) (A : Option Addr) (c : Nat) (l : List Scene) (w : World) (h : kScene.C w A l.length l) (hc : l.length ≤ c) (hN : ∀ i : Nat, i < l.length → ∀ j : Nat, j < (sc l i).nodes.length → NBd (nd (sc l i).nodes j)) (hT : QTabs T w) :
    Calls Tryd.prog 7 #[.slice A l.length c] w fun e w' => e = .returned (.bool true) ∧ Below w.heap.size w w' := by
  have HR := Aside0.mk h
  have HN := Aside0.mk hN
  have HT := Aside0.mk hT
  have b0 := h.2.1
  clear h hN hT
  go_enter Tryd.func7, Tryd.ntmps7
  go_wp2_with fail
  refine (cawake_any T _ HT.out).mono ?_
  rintro e w1 ⟨rfl, hB1⟩
  have HB1 := Aside0.mk hB1
  clear hB1
  go_wp2_with fail
  refine (great19_any A c l _ (Kd.C_below HR.out HB1.out)).mono ?_
  rintro e w2 ⟨rfl, hB2⟩
  have HB2 := Aside0.mk (below_step HB1.out hB2)
  clear hB2 HB1
  cases hg : great19 l with
  | true =>
    clear hg
    go_wp2_with fail
    refine (cawake_any T _ (HT.out.below HB2.out)).mono ?_
    rintro e w3 ⟨rfl, hB3⟩
    have HB3 := Aside0.mk (below_step HB2.out hB3)
    clear hB3
    go_wp2
    go_ret
    exact ⟨rfl, HB3.out⟩
  | false =>
    have HG := Aside0.mk (great19_bd hg HN.out)
    clear hg
    go_wp2_with fail
    refine (is19_any A c l _ (Kd.C_below HR.out HB2.out) (fun i hi => (HG.out.2 i hi).1)).mono ?_
    rintro e w3 ⟨rfl, hB3⟩
    have HB3 := Aside0.mk (below_step HB2.out hB3)
    clear hB3 HB2
    cases hic : allC l with
    | false =>
      clear hic
      go_wp2_with fail
      refine (cawake_any T _ (HT.out.below HB3.out)).mono ?_
      rintro e w4 ⟨rfl, hB4⟩
      have HB4 := Aside0.mk (below_step HB3.out hB4)
      clear hB4
      go_wp2
      go_ret
      exact ⟨rfl, HB4.out⟩
    | true =>
      have HIc := Aside0.mk (of_decide_eq_true hic)
      have hl4 : l.length ≤ 4 := HG.out.1
      clear hic
      go_wp2_with (at_builtin; refine Kd.R_append_rows (elder kScene w) (Rr := kScene.K w) (w0 := w3) w3.heap.size rfl (.tmp 23) (.tmp 24) 22 34 (.agg #[.slice none 0 0, .int .i64 0]) 32 rfl Tryd.underlying22 info_sc rfl (show 0 < 2 from by decide) (by omega) (.slice (some ⟨w3.heap.size, 0, none⟩) 0 0) [] l _ _ _ (fun _ => True) (fun _ => False) rfl rfl (R_empty _ _ _ _ (Nat.le_refl _)) (rows_later HR.out (below_alloc HB3.out _)) (fun _ _ h => h) (fun _ h => h.elim) (fun _ _ => trivial) (below_alloc (Below.refl _ _) _) (by simp) (by simp; omega) ?_; intro v4 w4 hR4 hB4 _ _; have HR4 := Aside0.mk hR4; have HB4 := Aside0.mk hB4; clear hR4 hB4; obtain ⟨A4, c4, hv4⟩ := Kd.R_slice (show Kd.R (elder kScene w) 34 w4 w3.heap.size (fun _ => True) v4 l from HR4.out); subst hv4)
      have HB4 := Aside0.mk (below_step HB3.out HB4.out)
      have HC4 := Aside0.mk (elder_C HB4.out (Kd.R_reads' (show Kd.R (elder kScene w) 34 w4 w3.heap.size (fun _ => True) (.slice A4 l.length c4) l from HR4.out)).2.2)
      have HO := Aside0.mk (fun (i : Nat) (hi : i < l.length) => cntA_step (T := T) hi)
      have HOl := Aside0.mk (all_len T l.length l rfl)
      have HCm := Aside0.mk (show cntA T l l.length ≤ 1000000000 from by
        unfold cntA
        have h1 := all_vs_len T l.length (l.take l.length) (by simp) (fun s hs => by
          rw [List.take_length] at hs
          obtain ⟨k, hk, rfl⟩ := List.getElem_of_mem hs
          have h2 := (HG.out.2 k hk).2
          have e : sc l k = l[k] := by unfold sc; rw [getD_eq _ hk]
          rw [e] at h2
          omega)
        have h2 : l.length * 400000 ≤ 4 * 400000 := Nat.mul_le_mul_right _ hl4
        omega)
      have HCn := Aside0.mk (fun (i : Nat) (hi : i ≤ l.length) => Nat.le_trans (cntA_mono (T := T) (l := l) (i := i) (k := l.length) hi (Nat.le_refl _)) HCm.out)
      have HC0 := Aside0.mk (show cntA T l 0 = 0 from by unfold cntA; rw [List.take_zero]; rfl)
      clear HR4 HB3
      refine (numbers_any T A4 c4 l w4 HC4.out (fun i hi => (HG.out.2 i hi).1) (by omega) (HT.out.below HB4.out)).mono ?_
      rintro e w5 ⟨hB5, (⟨-, v, rfl, hR5⟩ | ⟨⟨i, hi, hbad⟩, rfl⟩)⟩
      rotate_left
      · rw [HIc.out i hi] at hbad
        cases hbad
      obtain ⟨A5, c5, hv5⟩ := Kd.R_slice hR5
      subst hv5
      have HB5 := Aside0.mk (below_step HB4.out hB5)
      have HL5 := Aside0.mk (Kd.R_reads' hR5).2.2
      clear hR5 hB5 HC4 HB4 HCm
      rw [HOl.out]
      rw [HOl.out] at HL5
      generalize (allS T l).2 = O at HO HOl HL5
      generalize cntA T l = cA at HO HCn HC0
      go_wp2
      go_loopw [31, 5] (fun v31 v5 W => ∃ i : Nat, i ≤ l.length ∧ v31 = .int .i64 i ∧ v5 = .int .i64 ((cA i : Int) - 1) ∧ W = w5) (fun v31 _ _ => l.length - (intOf v31).toNat)
      case atStart => exact ⟨0, by omega, rfl, by rw [HC0.out]; rfl, rfl⟩
      case round =>
        obtain ⟨i, hi, rfl, rfl, rfl⟩ := hrel
        by_cases hlt : i < l.length
        · obtain ⟨ad, B, d, rfl, x0, -, hC⟩ := at_ints HL5.out i hlt
          obtain ⟨h1, h2, h3⟩ := HO.out i hlt
          rw [h3] at x0 hC
          have HR1 := Aside0.mk h1
          have HR2 := Aside0.mk h2
          have HC := Aside0.mk hC
          have HRb := Aside0.mk (HCn.out (i + 1) hlt)
          have hnl : (sc l i).nodes.length ≤ 25 := (HG.out.2 i hlt).2
          clear hC h1 h2 h3
          generalize O.getD i [] = own at HR1 HR2 HC
          go_wp2
          go_loopw [37, 5] (fun v37 v5 W => ∃ j : Nat, j ≤ (sc l i).nodes.length ∧ v37 = .int .i64 j ∧ v5 = .int .i64 ((cntF own (cA i) j : Int) - 1) ∧ W = wr) (fun v37 _ _ => (sc l i).nodes.length - (intOf v37).toNat)
          case atStart => exact ⟨0, by omega, rfl, rfl, rfl⟩
          case round =>
            obtain ⟨j, hj, rfl, rfl, rfl⟩ := hrel
            by_cases hjl : j < (sc l i).nodes.length
            · obtain ⟨bd, rfl, y0⟩ := at_nat HC.out j hjl
              have hr := HR1.out j hjl
              have hcm := cnt_mono own (cA i) (i := j + 1) (j := (sc l i).nodes.length) hjl
              rw [HR2.out] at hcm
              have hcb := HRb.out
              have hcs : max ((cntF own (cA i) j : Int) - 1) (rd own (j : Int)) = (cntF own (cA i) (j + 1) : Int) - 1 := by
                by_cases e : rd own (j : Int) = (cntF own (cA i) j : Int)
                · rw [cnt_new e]; omega
                · rw [cnt_old (by omega)]; omega
              have hcm2 := cnt_mono own (cA i) (i := j) (j := j + 1) (Nat.le_succ _)
              have HCs := Aside0.mk hcs
              generalize hcn' : cntF own (cA i) (j + 1) = cn' at hcm hcm2 HCs
              generalize cntF own (cA i) j = cn at hr hcm2 HCs
              generalize rd own (j : Int) = n at hr y0 HCs
              have d1 : decide (n < 0) = false := decide_eq_false (by omega)
              have d2 : decide ((cn : Int) < n) = false := decide_eq_false (by omega)
              have HRr := Aside0.mk hr
              have hw1 : wrap64 (cn : Int) = (cn : Int) := wrap_id (by omega) (by omega)
              clear hcs hcm hcm2 hcb hr
              go_wp2
              clear hw1
              have hr := HRr.out
              have hfin : (if (cn : Int) - 1 < n then n else (cn : Int) - 1) = (cntF own (cA i) (j + 1) : Int) - 1 := by
                rw [hcn', ← HCs.out]
                split <;> omega
              go_roundw
              case rel => exact ⟨j + 1, by omega, by go_num, by rw [hfin], by first | rfl | trivial⟩
              case measure => simp [intOf]; omega
            · obtain rfl : j = (sc l i).nodes.length := by omega
              rw [HR2.out]
              go_wp2
              go_roundw
              case rel => exact ⟨i + 1, by omega, by go_num, rfl, by first | rfl | trivial⟩
              case measure => simp [intOf]; omega
        · obtain rfl : i = l.length := by omega
          go_wp2
          go_ret
          exact ⟨rfl, HB5.out⟩
end Go.Proofs.YtdfneldenipljaaDoor.L
end
section
namespace Go.Proofs.YtdfneldenipljaaDoor.L
open Go.RowKit Go.ChangeShapes Go.WideShapes Go.Proofs.YtdfneldenipljaaDoorW.PrintWords Go.Proofs.YtdfneldenipljaaDoorW.PrintLast Go.Proofs.YtdfneldenipljaaDoorW.PrintMore
attribute [local go_sem] max2_int min2_int max_two min_two max_three min_three max_four min_four
namespace classRise
open Go.ChangeShapes Go.WideShapes Go.ChangeAt Go.RowKit
set_option maxRecDepth 100000 in
theorem lifted (os : Os) (started : os.Started) (H : Type) (enc : TypeId × Value → H) :
    ReturnsInHanded {} Tryd.checked os 7 .any (fun w args => (Rows.classRiseSpec.pre enc Tryd.prog Tryd.f7 [] false w args ∧ laidMetH Tryd.prog rowLaid w) ∧ sizedMet enc Tryd.prog Tryd.f7 (OpenSpec.ofChange Rows.classRiseSpec) false w args)
      (Rows.classRiseSpec.post enc Tryd.prog Tryd.f7 false true false false) := by
  refine returnsInHanded_of_change_and (C := Tryd.checked) (X := fun w _ => laidMetH Tryd.prog rowLaid w) (fun _ _ _ hh h => h.of_heap hh) own started (by kernel_rfl) Tryd.func7
    (ChangeSpec.witness_shaped (enc := enc) (C := Tryd.checked) (os := os) (X := fun w _ => laidMetH Tryd.prog rowLaid w) false (World.laidAll Tryd.prog os rowLaid) #[.slice none 0 0] 8 (World.laidAll_os _ _ _)
      (World.shaped_of_ZipB (by kernel_rfl) (by kernel_rfl)) (by kernel_rfl) (by kernel_rfl) (by kernel_rfl) (laid_met os _)) ?_
  intro W base args ds gs before hval0 hW hc _ hL _
  have hval : ∀ (j : Nat) t v, (Tryd.f7).params[j]? = some t → args[j]? = some v → Value.okWide Tryd.prog W .any base t v := hval0
  have hW' := hW
  obtain ⟨p, q, hA0, hV, rfl, hfz, hnd⟩ := hW
  have hA : DataW.TrodAll enc Tryd.prog W 0 (fun _ => true) true (Tryd.f7).params.toList args.toList ds p := hA0
  rw [Tryd.params7] at hA hval
  obtain ⟨v0, vs0, d0, ds0, p0, q0, hargs, rfl, rfl, h0, r0⟩ := trodAll_cons hA
  obtain ⟨rfl, rfl, rfl⟩ := trodAll_nil r0
  obtain rfl : args = #[v0] := by cases args; simp_all
  obtain ⟨rfl, rfl⟩ := trodVars_none hV
  have lt0 : ∀ x ∈ p0, x.block < W.heap.size := by obtain ⟨m, hm⟩ := h0; exact DataW.trod_lt m _ _ _ hm
  obtain ⟨A0, l0, c0, rfl, hlc0, hC0, hg0⟩ := Opens.arg_slice Tryd.underlying22 (opens_slice (e' := 34) Tryd.underlying22 (by kernel_rfl) opens_sceneB) (hval 0 22 v0 rfl rfl) h0
  clear hA0 hval0
  refine (classRise_any Lib.goPrintTabs A0 c0 l0 W hC0 hlc0 (fun i hi => hg0.2 _ (sc_mem hi)) (qtabs_of_laid hL)).mono fun e W' ⟨he, bel⟩ => ?_
  subst he
  exact ⟨_, rfl, _, _, _, [], _, [], hW', trodAll_mk1 (shut_bool Tryd.underlying4 _), (trodAll_cons_mk (Below.trod laidOut (by kernel_rfl) (of_decide_eq_true (by kernel_rfl)) h0 bel lt0) trodAll_mk0), rfl, bel.frame _, fun h => by cases h⟩
theorem over : Rows.ClassRiseSaid :=
  OpenClaim.holds_of_wide 7 Tryd.f7 rfl rfl rfl rfl rfl rfl rfl ⟨rfl, rfl, rfl, rfl, rfl⟩ rfl rfl rfl rfl rfl (by kernel_rfl) Tryd.func7 (by kernel_rfl)
    (of_decide_eq_true (by kernel_rfl)) (by unfold Func.isWrapper; first | (rw [if_pos (by decide +kernel)]; kernel_rfl) | (rw [if_neg (by decide +kernel)]; exact ⟨rfl, rfl⟩))
    (fun os started H enc _ => lifted os started H enc)
theorem card_holds : Rows.ClassRiseCardSaid :=
  Claim7.holds_tied_plain_at .later [] [.data, .data, .data, .data, .pinned, .pinned, .pinned, .pinned, .pinned, .pinned] true (true, "6733ca2e7fb67cc65005b080e6ff8756d91017a8676886b3aaa4db3429368ce6") false over (fun _ h => by cases h) (by kernel_rfl) (fun _ h => by cases h) classRise_row_tie rfl ⟨rfl, rfl⟩ (by kernel_rfl) rfl
    (fun f fn hf hfn => by
      obtain rfl : f = 7 := Option.some.inj ((show Tryd.prog.funcNamed "diorama/dioramalaw19.ClassRise" = some 7 by kernel_rfl).symm.trans hf) |>.symm
      obtain rfl : fn = Tryd.f7 := (Option.some.inj ((Tryd.func7).symm.trans hfn)).symm
      exact ⟨by kernel_rfl, fun j t ht => by
        rw [Tryd.params7] at ht
        have hm : t ∈ [22] := by simpa using Array.mem_of_getElem? ht
        have hall : ([22].all fun u => !Tryd.prog.wantsStandIn u) = true := by kernel_rfl
        exact (show Tryd.prog.wantsStandIn t = false by simpa using List.all_eq_true.1 hall t hm)⟩)
    (by kernel_rfl)
#print axioms card_holds
end classRise
end Go.Proofs.YtdfneldenipljaaDoor.L
end
