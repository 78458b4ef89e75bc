/- Any scene that is right, shared by unfold.Share, is what the document says: it has the same tree, no two nodes whose trees are the same, and no more nodes; conditions: none (every scene; the ten tables of Go's library read as the program's text lays them, and the card ties that). Conditions: those that each theorem states. -/
import Derived.Test.YtdfneldenipljaaDoorQfe
set_option linter.unusedVariables false
set_option linter.unusedSimpArgs false
section
namespace Go.Proofs.YtdfneldenipljaaDoor.L
open Go.RowKit Go.ChangeShapes Go.WideShapes Go.Proofs.YtdfneldenipljaaDoorW.PrintWords Go.Proofs.YtdfneldenipljaaDoorW.PrintLast Go.Proofs.YtdfneldenipljaaDoorW.PrintMore
attribute [local go_sem] max2_int min2_int max_two min_two max_three min_three max_four min_four
set_option maxRecDepth 100000 in
set_option maxHeartbeats 8000000 in
theorem unfoldShares_any (T : Lib.PrintTabs) (A : Option Addr) (c : Nat) (s : Scene) (w : World) (h : kNode.C w A s.nodes.length s.nodes) (hc : s.nodes.length ≤ c)
    (hN : ∀ i : Nat, i < s.nodes.length → NBd (nd s.nodes i)) (hT : QTabs T w) :
    Calls Tryd.prog 12 #[.agg #[.slice A s.nodes.length c, .int .i64 s.root]] w fun e w' => e = .returned (.bool true) ∧ Below w.heap.size w w' := by
  have HR := Aside0.mk h
  have HN := Aside0.mk hN
  have HT := Aside0.mk hT
  have hu := Tryd.underlying34
  have HB := Aside0.mk (below_alloc (Below.refl w.heap.size w) (.cells #[.slice A s.nodes.length c, .int .i64 s.root] 34))
  have k0 := box_cell w _ rfl #[.slice A s.nodes.length c, .int .i64 s.root] 34 0 (.slice A s.nodes.length c) rfl
  have k1 := box_cell w _ rfl #[.slice A s.nodes.length c, .int .i64 s.root] 34 1 (.int .i64 s.root) rfl
  clear h hN hT
  go_enter Tryd.func12, Tryd.ntmps12
  go_wp2_with fail
  refine (uawake_any T _ (HT.out.below HB.out)).mono ?_
  rintro e w1 ⟨rfl, hB1⟩
  replace k0 := pw_cell_below hB1 k0
  replace k1 := pw_cell_below hB1 k1
  have HB1 := Aside0.mk (below_step HB.out hB1)
  clear hB1
  go_wp2_with fail
  refine (greatS_any A c s _ (Kd.C_below HR.out HB1.out)).mono ?_
  rintro e w2 ⟨rfl, hB2⟩
  replace k0 := pw_cell_below hB2 k0
  replace k1 := pw_cell_below hB2 k1
  have HB2 := Aside0.mk (below_step HB1.out hB2)
  clear hB2
  cases hg : greatS s with
  | true =>
    clear hg
    go_wp2_with fail
    refine (uawake_any T _ (HT.out.below HB2.out)).mono ?_
    rintro e w3 ⟨rfl, hB3⟩
    have HB3 := Aside0.mk (below_step HB2.out hB3)
    clear hB3 k0 k1
    go_wp2
    go_ret
    exact ⟨rfl, HB3.out⟩
  | false =>
    have HF := Aside0.mk (fit_of_great hg HN.out)
    clear hg
    go_wp2_with fail
    refine (scopy_any A c s _ (Kd.C_below HR.out HB2.out) hc (by have := HF.out.1; omega) HF.out.small).mono ?_
    rintro e w3 ⟨A3, c3, rfl, hc3, hC3, hB3⟩
    replace k0 := pw_cell_below hB3 k0
    replace k1 := pw_cell_below hB3 k1
    have HB3 := Aside0.mk (below_step HB2.out hB3)
    clear hB3
    go_wp2_with fail
    refine (ushare_any T A3 c3 s _ hC3 hc3 HF.out (HT.out.below HB3.out)).mono ?_
    rintro e w4 ⟨A4, c4, rfl, hR4, hB4⟩
    replace k0 := pw_cell_below hB4 k0
    replace k1 := pw_cell_below hB4 k1
    have HB4 := Aside0.mk (below_step HB3.out hB4)
    clear hB4
    have HX4 := Aside0.mk (Kd.R_reads' hR4).2.2
    have hcx := (Kd.R_reads' hR4).2.1
    clear hR4 hC3
    generalize hX : shR T s = X at HX4 hcx ⊢
    have HXe := Aside0.mk hX
    clear hX
    have x0 := box_cell w4 _ rfl #[.slice A4 X.nodes.length c4, .int .i64 X.root] 34 0 (.slice A4 X.nodes.length c4) rfl
    have x1 := box_cell w4 _ rfl #[.slice A4 X.nodes.length c4, .int .i64 X.root] 34 1 (.int .i64 X.root) rfl
    have hB5 := below_alloc (Below.refl w4.heap.size w4) (.cells #[.slice A4 X.nodes.length c4, .int .i64 X.root] 34)
    have HX5 := Aside0.mk (Kd.C_below HX4.out hB5)
    replace k0 := pw_cell_below hB5 k0
    replace k1 := pw_cell_below hB5 k1
    have HB5 := Aside0.mk (below_step HB4.out hB5)
    clear hB5
    clear HX4
    go_wp2_with fail
    generalize w4.alloc (.cells #[.slice A4 X.nodes.length c4, .int .i64 X.root] 34) = w5 at k0 k1 x0 x1 HB5 HX5 ⊢
    refine (rchk_any A c s w5 (Kd.C_below HR.out HB5.out) hc (by have := HF.out.rows; omega)).mono ?_
    rintro e w6 ⟨rfl, hB6⟩
    replace x0 := pw_cell_below hB6 x0
    replace x1 := pw_cell_below hB6 x1
    have HX6 := Aside0.mk (Kd.C_below HX5.out hB6)
    replace k0 := pw_cell_below hB6 k0
    replace k1 := pw_cell_below hB6 k1
    have HB6 := Aside0.mk (below_step HB5.out hB6)
    clear hB6
    clear HX5
    by_cases hz : (gcheck s).1 = 0
    · have HRt := Aside0.mk (gcheck_right.1 hz)
      have HXs := Aside0.mk (show shareS T s = X from by rw [← HXe.out, shR_yes HRt.out])
      have HFX := Aside0.mk (show Fit X.nodes from by rw [← HXs.out]; exact HF.out.share T HRt.out)
      have HRX := Aside0.mk (show Right X from by rw [← HXs.out]; exact share_right T HRt.out)
      have HIX := Aside0.mk (show isC X = true from by rw [← HXs.out]; exact share_isC T HRt.out)
      have HEX := Aside0.mk (show eqT s X = true from by
        refine eqT_yes HRt.out HRX.out ?_
        rw [← HXs.out]
        exact shareS_same T HRt.out)
      have HLX := Aside0.mk (show X.nodes.length ≤ s.nodes.length from by rw [← HXs.out]; exact share_lenle T HRt.out)
      have HSX := Aside0.mk (show shR T X = X from by
        rw [shR_yes HRX.out, ← HXs.out]
        exact share_twice T HRt.out)
      have HZX := Aside0.mk (gcheck_right.2 HRX.out)
      rw [hz]
      clear hz
      have z0 : w6.drew.cell? ⟨w.heap.size, 0, none⟩ = some (.slice A s.nodes.length c) := k0
      have z1 : w6.drew.cell? ⟨w.heap.size, 1, none⟩ = some (.int .i64 s.root) := k1
      have z2 : w6.drew.cell? ⟨w4.heap.size, 0, none⟩ = some (.slice A4 X.nodes.length c4) := x0
      have z3 : w6.drew.cell? ⟨w4.heap.size, 1, none⟩ = some (.int .i64 X.root) := x1
      have hbd : Below w6.heap.size w6 w6.drew := below_drew (Below.refl _ _)
      have HBd := Aside0.mk (below_step HB6.out hbd)
      have HXd := Aside0.mk (Kd.C_below HX6.out hbd)
      have HC1 := Aside0.mk (fun (W : World) (hW : Below w6.drew.heap.size w6.drew W) => (show Calls Tryd.prog 21 #[.agg #[.slice A s.nodes.length c, .int .i64 s.root]] W fun e w' => ∃ A' c', e = .returned (.agg #[.slice A' X.nodes.length c', .int .i64 X.root]) ∧ kNode.C w' A' X.nodes.length X.nodes ∧ Below W.heap.size W w' from by
        have h1 := rshare_any T A c s W (Kd.C_below HR.out (below_step HBd.out hW)) hc HRt.out HF.out
        rw [HXs.out] at h1
        refine h1.mono ?_
        rintro e w' ⟨A', c', rfl, hR', hB'⟩
        exact ⟨A', c', rfl, (Kd.R_reads' hR').2.2, hB'⟩))
      have HC2 := Aside0.mk (fun (W : World) (hW : Below w6.drew.heap.size w6.drew W) (A' : Option Addr) (c' : Nat) (hC : kNode.C W A' X.nodes.length X.nodes) => (show Calls Tryd.prog 34 #[.agg #[.slice A4 X.nodes.length c4, .int .i64 X.root], .agg #[.slice A' X.nodes.length c', .int .i64 X.root]] W fun e w' => e = .returned (.bool true) ∧ Below W.heap.size W w' from by
        have h1 := sameS_any A4 c4 X A' c' X W (Kd.C_below HXd.out hW) hC HFX.out.small
        rw [sameS_yes rfl] at h1
        exact h1))
      have HC3 := Aside0.mk (fun (W : World) (hW : Below w6.drew.heap.size w6.drew W) => (show Calls Tryd.prog 35 #[.agg #[.slice A4 X.nodes.length c4, .int .i64 X.root]] W fun e w' => e = .returned (.bool true) ∧ Below W.heap.size W w' from by
        have h1 := is_any A4 c4 X W (Kd.C_below HXd.out hW) (by have := HFX.out.rows; omega)
        rw [HIX.out] at h1
        exact h1))
      have HC4 := Aside0.mk (fun (W : World) (hW : Below w6.drew.heap.size w6.drew W) => (show Calls Tryd.prog 24 #[.agg #[.slice A s.nodes.length c, .int .i64 s.root], .agg #[.slice A4 X.nodes.length c4, .int .i64 X.root]] W fun e w' => e = .returned (.bool true) ∧ Below W.heap.size W w' from by
        have h1 := uequal_any T A c s A4 c4 X W (Kd.C_below HR.out (below_step HBd.out hW)) hc (Kd.C_below HXd.out hW) hcx HF.out HFX.out (HT.out.below (below_step HBd.out hW))
        rw [HEX.out] at h1
        exact h1))
      have dl : decide ((s.nodes.length : Int) < (X.nodes.length : Int)) = false := decide_eq_false (by have := HLX.out; omega)
      have dln : decide (s.nodes.length < X.nodes.length) = false := decide_eq_false (by have := HLX.out; omega)
      clear k0 k1 x0 x1 hbd
      go_wp2
      go_region_held3 (fun W => W.cell? ⟨w.heap.size, 0, none⟩ = some (.slice A s.nodes.length c) ∧ W.cell? ⟨w.heap.size, 1, none⟩ = some (.int .i64 s.root) ∧ W.cell? ⟨w4.heap.size, 0, none⟩ = some (.slice A4 X.nodes.length c4) ∧ W.cell? ⟨w4.heap.size, 1, none⟩ = some (.int .i64 X.root))
        (first
          | (go_split_ands
             (repeat' apply And.intro)
             all_goals first
               | with_reducible assumption
               | with_reducible exact pw_cell_below hBa (by assumption)
               | with_reducible exact pw_cell_below hBb (by assumption)
               | with_reducible exact pw_cell_below hBc (by assumption)
               | with_reducible exact pw_cell_below hBe (by assumption)
               | (simp [*]; done)))
        (first
          | (go_at_call 21; (with_reducible refine (HC1.out w6.drew (Below.refl _ _)).mono ?_); rintro e wa ⟨Aa, ca, rfl, hCa, hBa⟩; have HWa := Aside0.mk hBa; have HCa := Aside0.mk hCa)
          | (go_at_call 34; (with_reducible refine (HC2.out wa HWa.out Aa ca HCa.out).mono ?_); rintro e wb ⟨rfl, hBb⟩; have HWb := Aside0.mk (below_step HWa.out hBb))
          | (go_at_call 35; (with_reducible refine (HC3.out wb HWb.out).mono ?_); rintro e wc ⟨rfl, hBc⟩; have HWc := Aside0.mk (below_step HWb.out hBc))
          | (go_at_call 24; (with_reducible refine (HC4.out wc HWc.out).mono ?_); rintro e we ⟨rfl, hBe⟩; have HWe := Aside0.mk (below_step HWc.out hBe); have y2 := pw_cell_below HWe.out z2; have y3 := pw_cell_below HWe.out z3))
      all_goals
        have HB7 := Aside0.mk (below_step HBd.out HWe.out)
        have HX7 := Aside0.mk (Kd.C_below HXd.out HWe.out)
        clear z0 z1 z2 z3 hBa hBb hBc hBe dl dln hCa
        go_wp2_with fail
        refine (ushare_any T A4 c4 X _ HX7.out hcx HFX.out (HT.out.below HB7.out)).mono ?_
        rw [HSX.out, HZX.out]
        rintro e w8 ⟨A8, c8, rfl, hR8, hB8⟩
        replace y2 := pw_cell_below hB8 y2
        replace y3 := pw_cell_below hB8 y3
        have HB8 := Aside0.mk (below_step HB7.out hB8)
        have HX8 := Aside0.mk (Kd.C_below HX7.out hB8)
        have HY8 := Aside0.mk (Kd.R_reads' hR8).2.2
        clear hR8 hB8
        have v0 := box_cell w8 _ rfl #[.slice A8 X.nodes.length c8, .int .i64 X.root] 34 0 (.slice A8 X.nodes.length c8) rfl
        have v1 := box_cell w8 _ rfl #[.slice A8 X.nodes.length c8, .int .i64 X.root] 34 1 (.int .i64 X.root) rfl
        have hB9 := below_alloc (Below.refl w8.heap.size w8) (.cells #[.slice A8 X.nodes.length c8, .int .i64 X.root] 34)
        replace y2 := pw_cell_below hB9 y2
        replace y3 := pw_cell_below hB9 y3
        have HB9 := Aside0.mk (below_step HB8.out hB9)
        have HX9 := Aside0.mk (Kd.C_below HX8.out hB9)
        have HY9 := Aside0.mk (Kd.C_below HY8.out hB9)
        clear hB9
        go_wp2_with fail
        refine (sameS_any A4 c4 X A8 c8 X _ HX9.out HY9.out HFX.out.small).mono ?_
        rw [sameS_yes rfl]
        rintro e w10 ⟨rfl, hB10⟩
        have HB10 := Aside0.mk (below_step HB9.out hB10)
        clear hB10 y2 y3 v0 v1
        go_wp2
        go_ret
        exact ⟨rfl, HB10.out⟩
    · have hX : X = ⟨[], 0⟩ := by rw [← HXe.out]; exact shR_no (fun hh => hz (gcheck_right.2 hh))
      subst hX
      have d1 : ((gcheck s).1 != 0) = true := by simpa using hz
      have d2 : ((gcheck s).1 == (gcheck s).1) = true := by simp
      have hl0 : (⟨[], 0⟩ : Scene).nodes.length = 0 := rfl
      rw [hl0] at x0
      clear hz k0 k1
      go_wp2
      go_ret
      exact ⟨rfl, HB6.out⟩
end Go.Proofs.YtdfneldenipljaaDoor.L
end
section
namespace Go.Proofs.YtdfneldenipljaaDoor.L
open Go.RowKit Go.ChangeShapes Go.WideShapes Go.Proofs.YtdfneldenipljaaDoorW.PrintWords Go.Proofs.YtdfneldenipljaaDoorW.PrintLast Go.Proofs.YtdfneldenipljaaDoorW.PrintMore
attribute [local go_sem] max2_int min2_int max_two min_two max_three min_three max_four min_four
namespace unfoldShares
open Go.ChangeShapes Go.WideShapes Go.ChangeAt Go.RowKit
set_option maxRecDepth 100000 in
theorem lifted (os : Os) (started : os.Started) (H : Type) (enc : TypeId × Value → H) :
    ReturnsInHanded {} Tryd.checked os 12 .any (fun w args => (Rows.unfoldSharesSpec.pre enc Tryd.prog Tryd.f12 [] false w args ∧ laidMetH Tryd.prog rowLaid w) ∧ sizedMet enc Tryd.prog Tryd.f12 (OpenSpec.ofChange Rows.unfoldSharesSpec) false w args)
      (Rows.unfoldSharesSpec.post enc Tryd.prog Tryd.f12 false true false false) := by
  refine returnsInHanded_of_change_and (C := Tryd.checked) (X := fun w _ => laidMetH Tryd.prog rowLaid w) (fun _ _ _ hh h => h.of_heap hh) own started (by kernel_rfl) Tryd.func12
    (ChangeSpec.witness_shaped (enc := enc) (C := Tryd.checked) (os := os) (X := fun w _ => laidMetH Tryd.prog rowLaid w) false (World.laidAll Tryd.prog os rowLaid) #[.agg #[.slice none 0 0, .int .i64 0]] 8 (World.laidAll_os _ _ _)
      (World.shaped_of_ZipB (by kernel_rfl) (by kernel_rfl)) (by kernel_rfl) (by kernel_rfl) (by kernel_rfl) (laid_met os _)) ?_
  intro W base args ds gs before hval0 hW hc _ hL _
  have hval : ∀ (j : Nat) t v, (Tryd.f12).params[j]? = some t → args[j]? = some v → Value.okWide Tryd.prog W .any base t v := hval0
  have hW' := hW
  obtain ⟨p, q, hA0, hV, rfl, hfz, hnd⟩ := hW
  have hA : DataW.TrodAll enc Tryd.prog W 0 (fun _ => true) true (Tryd.f12).params.toList args.toList ds p := hA0
  rw [Tryd.params12] at hA hval
  obtain ⟨v0, vs0, d0, ds0, p0, q0, hargs, rfl, rfl, h0, r0⟩ := trodAll_cons hA
  obtain ⟨rfl, rfl, rfl⟩ := trodAll_nil r0
  obtain rfl : args = #[v0] := by cases args; simp_all
  obtain ⟨rfl, rfl⟩ := trodVars_none hV
  have lt0 : ∀ x ∈ p0, x.block < W.heap.size := by obtain ⟨m, hm⟩ := h0; exact DataW.trod_lt m _ _ _ hm
  obtain ⟨s0, cs0, rfl, hK0, hG0⟩ := Opens.arg_struct Tryd.underlying34 opens_sceneB (hval 0 34 v0 rfl rfl) h0
  obtain ⟨A0, c0, hcs0, hlc0, hC0⟩ := kScene_open hK0
  obtain rfl : cs0 = #[.slice A0 s0.nodes.length c0, .int .i64 s0.root] := by cases cs0; simp_all
  clear hA0 hval0
  refine (unfoldShares_any Lib.goPrintTabs A0 c0 s0 W hC0 hlc0 hG0 (qtabs_of_laid hL)).mono fun e W' ⟨he, bel⟩ => ?_
  subst he
  exact ⟨_, rfl, _, _, _, [], _, [], hW', trodAll_mk1 (shut_bool Tryd.underlying4 _), (trodAll_cons_mk (Below.trod laidOut (by kernel_rfl) (of_decide_eq_true (by kernel_rfl)) h0 bel lt0) trodAll_mk0), rfl, bel.frame _, fun h => by cases h⟩
theorem over : Rows.UnfoldSharesSaid :=
  OpenClaim.holds_of_wide 12 Tryd.f12 rfl rfl rfl rfl rfl rfl rfl ⟨rfl, rfl, rfl, rfl, rfl⟩ rfl rfl rfl rfl rfl (by kernel_rfl) Tryd.func12 (by kernel_rfl)
    (of_decide_eq_true (by kernel_rfl)) (by unfold Func.isWrapper; first | (rw [if_pos (by decide +kernel)]; kernel_rfl) | (rw [if_neg (by decide +kernel)]; exact ⟨rfl, rfl⟩))
    (fun os started H enc _ => lifted os started H enc)
theorem card_holds : Rows.UnfoldSharesCardSaid :=
  Claim7.holds_tied_plain_at .later [] [.data, .data, .data, .data, .pinned, .pinned, .pinned, .pinned, .pinned, .pinned] true (true, "6733ca2e7fb67cc65005b080e6ff8756d91017a8676886b3aaa4db3429368ce6") false over (fun _ h => by cases h) (by kernel_rfl) (fun _ h => by cases h) unfoldShares_row_tie rfl ⟨rfl, rfl⟩ (by kernel_rfl) rfl
    (fun f fn hf hfn => by
      obtain rfl : f = 12 := Option.some.inj ((show Tryd.prog.funcNamed "diorama/dioramalaw11.UnfoldShares" = some 12 by kernel_rfl).symm.trans hf) |>.symm
      obtain rfl : fn = Tryd.f12 := (Option.some.inj ((Tryd.func12).symm.trans hfn)).symm
      exact ⟨by kernel_rfl, fun j t ht => by
        rw [Tryd.params12] at ht
        have hm : t ∈ [34] := by simpa using Array.mem_of_getElem? ht
        have hall : ([34].all fun u => !Tryd.prog.wantsStandIn u) = true := by kernel_rfl
        exact (show Tryd.prog.wantsStandIn t = false by simpa using List.all_eq_true.1 hall t hm)⟩)
    (by kernel_rfl)
#print axioms card_holds
end unfoldShares
end Go.Proofs.YtdfneldenipljaaDoor.L
end
