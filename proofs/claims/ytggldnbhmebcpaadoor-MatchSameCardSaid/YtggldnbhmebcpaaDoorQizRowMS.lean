/- MatchSame, a tied card: the statement is true at every input. Conditions: those that each theorem states. -/
import Derived.Test.YtggldnbhmebcpaaDoorQie
set_option linter.unusedVariables false
set_option linter.unusedSimpArgs false
section
namespace Go.Proofs.YtggldnbhmebcpaaDoor.L
open Go.RowKit Go.ChangeShapes Go.WideShapes Go.Proofs.YtggldnbhmebcpaaDoorW.PrintWords Go.Proofs.YtggldnbhmebcpaaDoorW.PrintLast Go.Proofs.YtggldnbhmebcpaaDoorW.PrintMore
attribute [local go_sem] max2_int min2_int max_two min_two max_three min_three max_four min_four
theorem mat_id (T : Lib.PrintTabs) {ns : List Node} (ha : AheadN ns) {i : Nat} (hi : i < ns.length) : rd (matS ns ns) (i : Int) = (i : Int) := by
  have hA : ∀ s ∈ [(⟨ns, 0⟩ : Scene)], AheadN s.nodes := fun s hs => by
    rw [List.mem_singleton.1 hs]; exact ha
  have n1 := all_numd (T := T) hA (i := 0) (by simp)
  generalize (allS T [(⟨ns, 0⟩ : Scene)]).2.getD 0 [] = p at n1
  exact mat_self (P := PT ns ns) (Q := QK ns ns) (cl := fun i => rd p (i : Int)) (fun i k hi hk => like_num ha ha n1 n1 hi hk) hi
set_option maxRecDepth 100000 in
set_option maxHeartbeats 8000000 in
theorem matchSame_any (T : Lib.PrintTabs) (A : Option Addr) (c : Nat) (s : Scene) (w : World) (h : kNode.C w A s.nodes.length s.nodes) (hc : s.nodes.length ≤ c) (hN : ∀ i : Nat, i < s.nodes.length → NBd (nd s.nodes i)) (hT : QTabs T w) :
    Calls Tryd.prog 6 #[.agg #[.slice A s.nodes.length c, .int .i64 s.root]] w fun e w' => e = .returned (.bool true) ∧ Below w.heap.size w w' := by
  have HR := Aside0.mk h
  have HT := Aside0.mk hT
  have HNs := Aside0.mk hN
  have HB := Aside0.mk (below_alloc (Below.refl w.heap.size w) (.cells #[.slice A s.nodes.length c, .int .i64 s.root] 24))
  have k0 := box_cell w _ rfl #[.slice A s.nodes.length c, .int .i64 s.root] 24 0 (.slice A s.nodes.length c) rfl
  have k1 := box_cell w _ rfl #[.slice A s.nodes.length c, .int .i64 s.root] 24 1 (.int .i64 s.root) rfl
  have hu := Tryd.underlying24
  clear h hT hN
  go_enter Tryd.func6, Tryd.ntmps6
  go_wp2_with fail
  generalize w.alloc (.cells #[.slice A s.nodes.length c, .int .i64 s.root] 24) = w0 at HB k0 k1 ⊢
  refine (mawake_any T _ (HT.out.below HB.out)).mono ?_
  rintro e w1 ⟨rfl, hB1⟩
  replace k0 := pw_cell_below hB1 k0
  replace k1 := pw_cell_below hB1 k1
  have HB1 := Aside0.mk (below_step HB.out hB1)
  clear hB1 HB
  go_wp2_with fail
  refine (great21_any A c s A c s _ (Kd.C_below HR.out HB1.out) (Kd.C_below HR.out HB1.out)).mono ?_
  rintro e w2 ⟨rfl, hB2⟩
  replace k0 := pw_cell_below hB2 k0
  replace k1 := pw_cell_below hB2 k1
  have HB2 := Aside0.mk (below_step HB1.out hB2)
  clear hB2 HB1
  cases hg : great21 s s with
  | true =>
    clear hg k0 k1
    go_wp2_with fail
    refine (mawake_any T _ (HT.out.below HB2.out)).mono ?_
    rintro e w3 ⟨rfl, hB3⟩
    have HB3 := Aside0.mk (below_step HB2.out hB3)
    clear hB3
    go_wp2
    go_ret
    exact ⟨rfl, HB3.out⟩
  | false =>
    obtain ⟨g1, g2, g3, g4⟩ := great21_no hg
    have HFs := Aside0.mk (fit_of_great g1 HNs.out)
    have hnA : s.nodes.length ≤ 40 := g3
    clear hg g1 g2 g3 g4
    go_wp2_with fail
    refine (ris_any A c s _ (Kd.C_below HR.out HB2.out) hc (Nat.le_trans HFs.out.rows (by omega)) HFs.out.small).mono ?_
    rintro e w3 ⟨rfl, hB3⟩
    replace k0 := pw_cell_below hB3 k0
    replace k1 := pw_cell_below hB3 k1
    have HB3 := Aside0.mk (below_step HB2.out hB3)
    clear hB3 HB2
    cases his : isC s with
    | false =>
      clear his k0 k1
      go_wp2_with fail
      refine (mawake_any T _ (HT.out.below HB3.out)).mono ?_
      rintro e w4 ⟨rfl, hB4⟩
      have HB4 := Aside0.mk (below_step HB3.out hB4)
      clear hB4
      go_wp2
      go_ret
      exact ⟨rfl, HB4.out⟩
    | true =>
      have HIs := Aside0.mk his
      have HAh := Aside0.mk (show AheadN s.nodes from fun p hp k hk => isC_ahead (isC_right his) his hp hk)
      have HId := Aside0.mk (fun (i : Nat) (hi : i < s.nodes.length) => mat_id T HAh.out hi)
      clear his
      go_wp2
      have N0 : ∀ W, Below w3.heap.size w3 W → W.cell? ⟨w.heap.size, 0, none⟩ = some (.slice A s.nodes.length c) := fun W h => pw_cell_below h k0
      have N1 : ∀ W, Below w3.heap.size w3 W → W.cell? ⟨w.heap.size, 1, none⟩ = some (.int .i64 s.root) := fun W h => pw_cell_below h k1
      have HCa := Aside0.mk (fun (W : World) (hW : Below w3.heap.size w3 W) => scopy_any A c s W (Kd.C_below HR.out (below_step HB3.out hW)) hc (by omega) HFs.out.small)
      have HTw := Aside0.mk (fun (W : World) (hW : Below w3.heap.size w3 W) => HT.out.below (below_step HB3.out hW))
      have HCr := Aside0.mk (fun (W : World) (hW : Below w3.heap.size w3 W) => (Kd.C_below HR.out (below_step HB3.out hW)))
      clear k0 k1
      go_region_held3 (fun W => Below w3.heap.size w3 W)
        (repeat' (first
          | with_reducible assumption
          | with_reducible exact Below.refl _ _
          | with_reducible refine below_drew ?_))
        (first
          | (go_at_call 11; (with_reducible refine (HCa.out w3.drew (below_drew (Below.refl _ _))).mono ?_); rintro e wa ⟨A5, c5, rfl, hla, hRa, hBa⟩; have hSa := below_step (below_drew (Below.refl w3.heap.size w3)) hBa)
          | (go_at_call 10; refine (match_ok T A c s A5 c5 s _ (HCr.out _ hSa) hc hRa hla HFs.out.bd HFs.out.bd (HTw.out _ hSa) (by rw [HIs.out]; rfl)).mono ?_; rintro e wm ⟨Am, cm, rfl, hLm, hBm⟩; have hSm := below_step hSa hBm))
      have HK := Aside0.mk (N0 _ hSm)
      have HLm := Aside0.mk hLm
      have HBm := Aside0.mk (below_step HB3.out hSm)
      clear N0 N1 hLm hRa hla hSa hSm hBm hBa
      generalize matS s.nodes s.nodes = M at HLm HId
      go_wp2
      go_loopw [29] (fun v29 W => ∃ i : Nat, i ≤ s.nodes.length ∧ v29 = .int .i64 i ∧ Aside0 (Below wm.heap.size wm W)) (fun v29 _ => s.nodes.length - (intOf v29).toNat)
      case atStart => exact ⟨0, by omega, rfl, ⟨Below.refl _ _⟩⟩
      case round =>
        obtain ⟨i, hi, rfl, HO⟩ := hrel
        by_cases hlt : i < s.nodes.length
        · obtain ⟨ad, rfl, x0⟩ := at_i HLm.out i hlt
          have x0 := pw_cell_below HO.out x0
          rw [HId.out i hlt] at x0
          have hne : ((i : Int) != (i : Int)) = false := by simp
          go_wp2
          go_roundw
          case rel => exact ⟨i + 1, by omega, by go_num, HO⟩
          case measure => simp [intOf]; omega
        · obtain rfl : i = s.nodes.length := by omega
          have k0 := pw_cell_below HO.out HK.out
          have hee : ((s.nodes.length : Int) == (s.nodes.length : Int)) = true := by simp
          go_wp2
          go_ret
          exact ⟨rfl, below_step HBm.out HO.out⟩
end Go.Proofs.YtggldnbhmebcpaaDoor.L
end
section
namespace Go.Proofs.YtggldnbhmebcpaaDoor.L
open Go.RowKit Go.ChangeShapes Go.WideShapes Go.Proofs.YtggldnbhmebcpaaDoorW.PrintWords Go.Proofs.YtggldnbhmebcpaaDoorW.PrintLast Go.Proofs.YtggldnbhmebcpaaDoorW.PrintMore
attribute [local go_sem] max2_int min2_int max_two min_two max_three min_three max_four min_four
namespace matchSame
open Go.ChangeShapes Go.WideShapes Go.ChangeAt Go.RowKit
set_option maxRecDepth 100000 in
theorem lifted (os : Os) (started : os.Started) (H : Type) (enc : TypeId × Value → H) :
    ReturnsInHanded {} Tryd.checked os 6 .any (fun w args => (Rows.matchSameSpec.pre enc Tryd.prog Tryd.f6 [] false w args ∧ laidMetH Tryd.prog rowLaid w) ∧ sizedMet enc Tryd.prog Tryd.f6 (OpenSpec.ofChange Rows.matchSameSpec) false w args)
      (Rows.matchSameSpec.post enc Tryd.prog Tryd.f6 false true false false) := by
  refine returnsInHanded_of_change_and (C := Tryd.checked) (X := fun w _ => laidMetH Tryd.prog rowLaid w) (fun _ _ _ hh h => h.of_heap hh) own started (by kernel_rfl) Tryd.func6
    (ChangeSpec.witness_shaped (enc := enc) (C := Tryd.checked) (os := os) (X := fun w _ => laidMetH Tryd.prog rowLaid w) false (World.laidAll Tryd.prog os rowLaid) #[.agg #[.slice none 0 0, .int .i64 0]] 8 (World.laidAll_os _ _ _)
      (World.shaped_of_ZipB (by kernel_rfl) (by kernel_rfl)) (by kernel_rfl) (by kernel_rfl) (by kernel_rfl) (laid_met os _)) ?_
  intro W base args ds gs before hval0 hW hc _ hL _
  have hval : ∀ (j : Nat) t v, (Tryd.f6).params[j]? = some t → args[j]? = some v → Value.okWide Tryd.prog W .any base t v := hval0
  have hW' := hW
  obtain ⟨p, q, hA0, hV, rfl, hfz, hnd⟩ := hW
  have hA : DataW.TrodAll enc Tryd.prog W 0 (fun _ => true) true (Tryd.f6).params.toList args.toList ds p := hA0
  rw [Tryd.params6] at hA hval
  obtain ⟨v0, vs0, d0, ds0, p0, q0, hargs, rfl, rfl, h0, r0⟩ := trodAll_cons hA
  obtain ⟨rfl, rfl, rfl⟩ := trodAll_nil r0
  obtain rfl : args = #[v0] := by cases args; simp_all
  obtain ⟨rfl, rfl⟩ := trodVars_none hV
  have lt0 : ∀ x ∈ p0, x.block < W.heap.size := by obtain ⟨m, hm⟩ := h0; exact DataW.trod_lt m _ _ _ hm
  obtain ⟨s0, cs0, rfl, hK0, hG0⟩ := Opens.arg_struct Tryd.underlying24 opens_sceneB (hval 0 24 v0 rfl rfl) h0
  obtain ⟨A0, c0, hcs0, hlc0, hC0⟩ := kScene_open hK0
  obtain rfl : cs0 = #[.slice A0 s0.nodes.length c0, .int .i64 s0.root] := by cases cs0; simp_all
  clear hA0 hval0
  refine (matchSame_any Lib.goPrintTabs A0 c0 s0 W hC0 hlc0 hG0 (qtabs_of_laid hL)).mono fun e W' ⟨he, bel⟩ => ?_
  subst he
  exact ⟨_, rfl, _, _, _, [], _, [], hW', trodAll_mk1 (shut_bool Tryd.underlying4 _), (trodAll_cons_mk (Below.trod laidOut (by kernel_rfl) (of_decide_eq_true (by kernel_rfl)) h0 bel lt0) trodAll_mk0), rfl, bel.frame _, fun h => by cases h⟩
theorem over : Rows.MatchSameSaid :=
  OpenClaim.holds_of_wide 6 Tryd.f6 rfl rfl rfl rfl rfl rfl rfl ⟨rfl, rfl, rfl, rfl, rfl⟩ rfl rfl rfl rfl rfl (by kernel_rfl) Tryd.func6 (by kernel_rfl)
    (of_decide_eq_true (by kernel_rfl)) (by unfold Func.isWrapper; first | (rw [if_pos (by decide +kernel)]; kernel_rfl) | (rw [if_neg (by decide +kernel)]; exact ⟨rfl, rfl⟩))
    (fun os started H enc _ => lifted os started H enc)
theorem card_holds : Rows.MatchSameCardSaid :=
  Claim7.holds_tied_plain_at .later [] [.data, .data, .data, .data, .pinned, .pinned, .pinned, .pinned, .pinned, .pinned] true (true, "62ce439ba889557fab806eaffdcfdf26d7b537d005658908607b03f6db238a4a") false over (fun _ h => by cases h) (by kernel_rfl) (fun _ h => by cases h) matchSame_row_tie rfl ⟨rfl, rfl⟩ (by kernel_rfl) rfl
    (fun f fn hf hfn => by
      obtain rfl : f = 6 := Option.some.inj ((show Tryd.prog.funcNamed "diorama/dioramalaw21.MatchSame" = some 6 by kernel_rfl).symm.trans hf) |>.symm
      obtain rfl : fn = Tryd.f6 := (Option.some.inj ((Tryd.func6).symm.trans hfn)).symm
      exact ⟨by kernel_rfl, fun j t ht => by
        rw [Tryd.params6] at ht
        have hm : t ∈ [24] := by simpa using Array.mem_of_getElem? ht
        have hall : ([24].all fun u => !Tryd.prog.wantsStandIn u) = true := by kernel_rfl
        exact (show Tryd.prog.wantsStandIn t = false by simpa using List.all_eq_true.1 hall t hm)⟩)
    (by kernel_rfl)
#print axioms card_holds
end matchSame
end Go.Proofs.YtggldnbhmebcpaaDoor.L
end
