/- The nodes of any canonical scenes have the numbers that the document says, by class.Numbers; if one scene isn't canonical, none has; conditions: none (every list of scenes; the ten tables of Go's library read as the program's text lays them, and the card ties that). Conditions: those that each theorem states. -/
import Derived.Test.YtdfneldenipljaaDoorQdd
import Derived.BigQuiet
set_option linter.unusedVariables false
set_option linter.unusedSimpArgs false
section
namespace Go.Proofs.YtdfneldenipljaaDoor.L
open Go.RowKit Go.ChangeShapes Go.WideShapes Go.Proofs.YtdfneldenipljaaDoorW.PrintWords Go.Proofs.YtdfneldenipljaaDoorW.PrintLast Go.Proofs.YtdfneldenipljaaDoorW.PrintMore
attribute [local go_sem] max2_int min2_int max_two min_two max_three min_three max_four min_four
def kBools : Kd (List Bool) := Kd.slice 4 Kd.bool
theorem info_bool : (Tryd.prog.info? 4).map (fun i => (i.zero, i.size, i.bytes)) = some (some (.bool false), 1, 1) := by kernel_rfl
theorem info_bools : (Tryd.prog.info? 38).map (fun i => (i.zero, i.size, i.bytes)) = some (some (.slice none 0 0), 1, 24) := by kernel_rfl
theorem at_bools {w : World} {A : Option Addr} {n : Nat} {xs : List (List Bool)} (h : kBools.C w A n xs) (i : Nat) (h1 : i < n) :
    ∃ ad B d, A = some ad ∧ w.cell? (ad.add i) = some (.slice B (xs.getD i []).length d) ∧ (xs.getD i []).length ≤ d ∧ Kd.bool.C w B (xs.getD i []).length (xs.getD i []) := by
  obtain ⟨ad, c, e, _, hK, hc0⟩ := Kd.C_get h [] (i : Int) (by omega) (by omega)
  have hK : kBools.K w (xs.getD i []) c := by simpa using hK
  obtain ⟨B, d, rfl, hl, hC⟩ := hK
  refine ⟨ad, B, d, e, ?_, hl, hC⟩
  have := hc0 0 _ rfl
  simpa [show kBools.sz = 1 from rfl] using this
theorem at_bool {w : World} {A : Option Addr} {n : Nat} {xs : List Bool} (h : Kd.bool.C w A n xs) (i : Nat) (h1 : i < n) : ∃ ad, A = some ad ∧ w.cell? (ad.add i) = some (.bool (xs.getD i false)) := by
  obtain ⟨ad, c, e, _, hK, hc0⟩ := Kd.C_get h false (i : Int) (by omega) (by omega)
  have hK : c = [.bool (xs.getD i false)] := by
    rw [Int.toNat_natCast] at hK
    exact hK
  subst hK
  exact ⟨ad, e, by simpa [show Kd.bool.sz = 1 from rfl] using hc0 0 _ rfl⟩
structure AlkOut (w1 : World) (outs : List (List Bool)) (v W) : Prop where
  out : kBools.R 38 W w1.heap.size (fun _ => True) v outs
  below : Below w1.heap.size w1 W
structure AlkIn (w1 Wg : World) (outs : List (List Bool)) (row : List Bool) (vo v : Value) (W : World) : Prop where
  out : kBools.R 38 W w1.heap.size (fun q => q < Wg.heap.size) vo outs
  row : Kd.bool.R 4 W w1.heap.size (fun q => Wg.heap.size ≤ q) v row
  since : Below Wg.heap.size Wg W
  below : Below w1.heap.size w1 W
theorem AlkIn.later {w1 Wg : World} {outs : List (List Bool)} {row : List Bool} {vo v : Value} {W W1 : World} (h : AlkIn w1 Wg outs row vo v W) (hb : Below W.heap.size W W1) : AlkIn w1 Wg outs row vo v W1 :=
  ⟨Kd.R_below h.out hb, Kd.R_below h.row hb, below_step h.since hb, below_step h.below hb⟩
theorem AlkIn.start {w1 W : World} {outs : List (List Bool)} {vo : Value} (h : AlkOut w1 outs vo W) : AlkIn w1 W outs [] vo (.slice (some ⟨W.heap.size, 0, none⟩) 0 0) (W.alloc (.cells #[] 4)) := by
  have hb := below_alloc (Below.refl W.heap.size W) (.cells #[] 4)
  refine ⟨Kd.R_below (Kd.R_mono (Kd.R_bound h.out) (fun q hq => hq.2.2.1)) hb, ?_, hb, below_step h.below hb⟩
  exact Kd.R_mono (Kd.R_bound (Kd.R_lower (R_empty Kd.bool 4 W W.heap.size (Nat.le_refl _)) (Nat.le_refl _))) (fun q hq => hq.2.1) |> fun h' => Kd.R_lower h' h.below.size
theorem AlkIn.pushed {w1 Wg : World} {outs : List (List Bool)} {row : List Bool} {vo v v2 : Value} {x : Bool} {W W2 : World} (h : AlkIn w1 Wg outs row vo v W) (hR : Kd.bool.R 4 W2 w1.heap.size (fun q => Wg.heap.size ≤ q) v2 (row ++ [x])) (hB : Below w1.heap.size w1 W2) (hg : W.grownBy W2 v.ownBlock) : AlkIn w1 Wg outs (row ++ [x]) vo v2 W2 :=
  ⟨Kd.R_grown h.out hg (fun k hk e => by have := h.row.1 k e.symm; omega), hR, h.since.grown hg h.since.size (fun q hq => h.row.1 q hq), hB⟩
theorem range_snoc_map {α : Type} (f : Nat → α) (j : Nat) : (List.range (j + 1)).map f = (List.range j).map f ++ [f j] := by
  rw [List.range_succ, List.map_append]; rfl
def KOk (a b : List Node) (outs : List (List Bool)) (i j k : Nat) : Prop :=
  ∀ m : Nat, m < k → rd (nd a i).kids (m : Int) < (i : Int) ∧ rd (nd b j).kids (m : Int) < (j : Int) ∧ ((outs.getD (rd (nd a i).kids (m : Int)).toNat []).getD (rd (nd b j).kids (m : Int)).toNat false) = true
theorem alkC_no {a b : List Node} {outs : List (List Bool)} {i j k : Nat} (hk : k < (nd a i).kids.length)
    (h : ¬ (rd (nd a i).kids (k : Int) < (i : Int) ∧ rd (nd b j).kids (k : Int) < (j : Int) ∧ ((outs.getD (rd (nd a i).kids (k : Int)).toNat []).getD (rd (nd b j).kids (k : Int)).toNat false) = true)) : alkC a b outs i j = false :=
  decide_eq_false (fun hh => h (hh.2.2.2.2 k hk))
theorem alkC_own {a b : List Node} {outs : List (List Bool)} {i j : Nat} (h : ownN (nd a i) (nd b j) = false) : alkC a b outs i j = false :=
  decide_eq_false (fun hh => of_decide_eq_false h ⟨hh.1, hh.2.1, hh.2.2.1⟩)
theorem alkC_len {a b : List Node} {outs : List (List Bool)} {i j : Nat} (h : ¬ (nd a i).kids.length = (nd b j).kids.length) : alkC a b outs i j = false :=
  decide_eq_false (fun hh => h hh.2.2.2.1)
theorem alkC_yes {a b : List Node} {outs : List (List Bool)} {i j : Nat} (h1 : ownN (nd a i) (nd b j) = true) (h2 : (nd a i).kids.length = (nd b j).kids.length) (h3 : KOk a b outs i j (nd a i).kids.length) : alkC a b outs i j = true :=
  decide_eq_true ⟨(of_decide_eq_true h1).1, (of_decide_eq_true h1).2.1, (of_decide_eq_true h1).2.2, h2, h3⟩
def AlkPost (a b : List Node) (w : World) (e : Ending) (w' : World) : Prop :=
  ∃ A' c', e = .returned (.slice A' a.length c') ∧ a.length ≤ c' ∧ kBools.C w' A' a.length (alkT a b a.length) ∧ Below w.heap.size w w'
set_option maxRecDepth 100000 in
set_option maxHeartbeats 8000000 in
theorem alike_any (A : Option Addr) (c : Nat) (a : Scene) (B : Option Addr) (d : Nat) (b : Scene) (w : World) (h : kNode.C w A a.nodes.length a.nodes) (hc : a.nodes.length ≤ c) (h' : kNode.C w B b.nodes.length b.nodes) (hd : b.nodes.length ≤ d)
    (hS : ∀ i : Nat, i < a.nodes.length → Small (nd a.nodes i)) (hka : ∀ i : Nat, i < a.nodes.length → ∀ k ∈ (nd a.nodes i).kids, 0 ≤ k) (hkb : ∀ i : Nat, i < b.nodes.length → ∀ k ∈ (nd b.nodes i).kids, 0 ≤ k) (hla : a.nodes.length ≤ 1000000) (hlb : b.nodes.length ≤ 1000000) :
    Calls Tryd.prog 20 #[.agg #[.slice A a.nodes.length c, .int .i64 a.root], .agg #[.slice B b.nodes.length d, .int .i64 b.root]] w (AlkPost a.nodes b.nodes w) := by
  have HR := Aside0.mk h
  have HR' := Aside0.mk h'
  have HS := Aside0.mk hS
  have HKa := Aside0.mk hka
  have HKb := Aside0.mk hkb
  have hu := Tryd.underlying34
  have hun := Tryd.underlying52
  obtain ⟨w1, hw1⟩ : ∃ w1, w1 = (w.alloc (.cells #[.slice A a.nodes.length c, .int .i64 a.root] 34)).alloc (.cells #[.slice B b.nodes.length d, .int .i64 b.root] 34) := ⟨_, rfl⟩
  have k0 := box_cell2 w _ rfl #[.slice A a.nodes.length c, .int .i64 a.root] 34 (.cells #[.slice B b.nodes.length d, .int .i64 b.root] 34) 0 (.slice A a.nodes.length c) rfl
  have q0 := box_cell (w.alloc (.cells #[.slice A a.nodes.length c, .int .i64 a.root] 34)) (w.heap.size + 1) (by simp) #[.slice B b.nodes.length d, .int .i64 b.root] 34 0 (.slice B b.nodes.length d) rfl
  have HB := Aside0.mk (show Below w.heap.size w w1 from by rw [hw1]; exact below_step (below_alloc (Below.refl _ _) _) (below_alloc (Below.refl _ _) _))
  rw [← hw1] at k0 q0
  have HK0 := Aside0.mk k0
  have HQ0 := Aside0.mk q0
  have HZs := Aside0.mk (show w1.heap.size = w.heap.size + 1 + 1 from by rw [hw1]; simp)
  have HO0 : Aside0 (AlkOut w1 [] (.slice (some ⟨w1.heap.size, 0, none⟩) 0 0) (w1.alloc (.cells #[] 38))) := ⟨R_empty kBools 38 w1 w1.heap.size (Nat.le_refl _), below_alloc (Below.refl _ _) _⟩
  clear h h' hS hka hkb k0 q0
  go_enter Tryd.func20, Tryd.ntmps20
  go_wp2
  rw [← hw1]
  clear hw1
  rw [show w.heap.size + 1 + 1 = w1.heap.size from HZs.out.symm]
  generalize w1.alloc (.cells #[] 38) = W5 at HO0 ⊢
  go_loopw [6, 5] (fun v6 v5 W => ∃ (i : Nat) (vo : Value), i ≤ a.nodes.length ∧ v6 = .int .i64 i ∧ vo = v5 ∧ Aside0 (AlkOut w1 (alkT a.nodes b.nodes i) vo W)) (fun v6 _ _ => a.nodes.length - (intOf v6).toNat)
  case atStart => exact ⟨0, _, by omega, rfl, rfl, HO0⟩
  case round =>
    clear HO0
    obtain ⟨i, vo, hi, rfl, rfl, HO⟩ := hrel
    have k0 := pw_cell_below HO.out.below HK0.out
    by_cases hlt : i < a.nodes.length
    · have HI0 := Aside0.mk (AlkIn.start HO.out)
      have HTs := Aside0.mk (show alkT a.nodes b.nodes (i + 1) = alkT a.nodes b.nodes i ++ [(List.range b.nodes.length).map (alkC a.nodes b.nodes (alkT a.nodes b.nodes i) i)] from rfl)
      have HTl := Aside0.mk (show (alkT a.nodes b.nodes i).length = i ∧ ∀ m : Nat, m < i → ((alkT a.nodes b.nodes i).getD m []).length = b.nodes.length from ⟨alkT_len _ _ _, fun m hm => by rw [alkT_row _ _ hm]; simp⟩)
      clear HO
      generalize alkT a.nodes b.nodes i = outs at HI0 HTs HTl
      go_wp2
      clear k0
      obtain ⟨Wg, hWg⟩ : ∃ Wg : World, Wg = wr := ⟨_, rfl⟩
      rw [← hWg] at HI0 ⊢
      clear hWg
      generalize Wg.alloc (.cells #[] 4) = W6 at HI0 ⊢
      go_loopw [8, 7] (fun v8 v7 W => ∃ (j : Nat) (v : Value), j ≤ b.nodes.length ∧ v8 = .int .i64 j ∧ v = v7 ∧ Aside0 (AlkIn w1 Wg outs ((List.range j).map (alkC a.nodes b.nodes outs i)) vo v W)) (fun v8 _ _ => b.nodes.length - (intOf v8).toNat)
      case atStart => exact ⟨0, _, by omega, rfl, rfl, HI0⟩
      case round =>
        clear HI0
        obtain ⟨j, v, hj, rfl, rfl, HI⟩ := hrel
        have k0 := pw_cell_below HI.out.below HK0.out
        have q0 := pw_cell_below HI.out.below HQ0.out
        by_cases hjl : j < b.nodes.length
        · obtain ⟨ad, A1, c1, A2, c2, A3, c3, rfl, x0, x1, x2, x3, hN⟩ := at_node HR.out i hlt
          obtain ⟨bd, B1, d1, B2, d2, B3, d3, rfl, y0, y1, y2, y3, hM⟩ := at_node HR'.out j hjl
          have HN := Aside0.mk hN
          have HM := Aside0.mk hM
          have HW := Aside0.mk (below_step HB.out HI.out.below)
          replace x0 := pw_cell_below HW.out x0
          replace x1 := pw_cell_below HW.out x1
          replace x2 := pw_cell_below HW.out x2
          replace x3 := pw_cell_below HW.out x3
          replace y0 := pw_cell_below HW.out y0
          replace y1 := pw_cell_below HW.out y1
          replace y2 := pw_cell_below HW.out y2
          replace y3 := pw_cell_below HW.out y3
          have HSi := Aside0.mk (HS.out i hlt)
          have HKi := Aside0.mk (HKa.out i hlt)
          have HKj := Aside0.mk (HKb.out j hjl)
          have HOwn := Aside0.mk (alkC_own (outs := outs) (a := a.nodes) (b := b.nodes) (i := i) (j := j))
          have HLen := Aside0.mk (alkC_len (outs := outs) (a := a.nodes) (b := b.nodes) (i := i) (j := j))
          have HNo := Aside0.mk (fun k hk h => alkC_no (outs := outs) (a := a.nodes) (b := b.nodes) (i := i) (j := j) (k := k) hk h)
          have HYes := Aside0.mk (alkC_yes (outs := outs) (a := a.nodes) (b := b.nodes) (i := i) (j := j))
          have HKO := Aside0.mk (show KOk a.nodes b.nodes outs i j = (fun k => ∀ m : Nat, m < k → rd (nd a.nodes i).kids (m : Int) < (i : Int) ∧ rd (nd b.nodes j).kids (m : Int) < (j : Int) ∧ ((outs.getD (rd (nd a.nodes i).kids (m : Int)).toNat []).getD (rd (nd b.nodes j).kids (m : Int)).toNat false) = true) from rfl)
          have HRg := Aside0.mk (range_snoc_map (alkC a.nodes b.nodes outs i) j)
          clear hN hM
          generalize alkC a.nodes b.nodes outs i j = r at HOwn HLen HNo HYes HRg
          generalize hrow : (List.range j).map (alkC a.nodes b.nodes outs i) = row at HI HRg
          have hrl : row.length = j := by rw [← hrow]; simp
          clear hrow
          generalize KOk a.nodes b.nodes outs i j = KO at HYes HKO
          generalize nd a.nodes i = x at x0 x1 x2 x3 HN HSi HKi HOwn HLen HNo HYes HKO
          generalize nd b.nodes j = y at y0 y1 y2 y3 HM HKj HOwn HLen HNo HYes HKO
          obtain ⟨WX, hWX⟩ : ∃ WX : World, WX = wr.alloc (.cells #[.int .i64 x.kind, .slice A1 x.ints.length c1, .slice A2 x.texts.length c2, .slice A3 x.kids.length c3] 52) := ⟨_, rfl⟩
          obtain ⟨WY, hWY⟩ : ∃ WY : World, WY = WX.alloc (.cells #[.int .i64 y.kind, .slice B1 y.ints.length d1, .slice B2 y.texts.length d2, .slice B3 y.kids.length d3] 52) := ⟨_, rfl⟩
          have hbX : Below wr.heap.size wr WX := by rw [hWX]; exact below_alloc (Below.refl _ _) _
          have hbY : Below WX.heap.size WX WY := by rw [hWY]; exact below_alloc (Below.refl _ _) _
          have hzX : WX.heap.size = wr.heap.size + 1 := by rw [hWX]; simp
          have g0 : WY.cell? ⟨wr.heap.size, 0, none⟩ = some (.int .i64 x.kind) := by rw [hWY, hWX]; exact box_cell2 _ _ rfl _ _ _ 0 _ rfl
          have g1 : WY.cell? ⟨wr.heap.size, 1, none⟩ = some (.slice A1 x.ints.length c1) := by rw [hWY, hWX]; exact box_cell2 _ _ rfl _ _ _ 1 _ rfl
          have g2 : WY.cell? ⟨wr.heap.size, 2, none⟩ = some (.slice A2 x.texts.length c2) := by rw [hWY, hWX]; exact box_cell2 _ _ rfl _ _ _ 2 _ rfl
          have g3 : WY.cell? ⟨wr.heap.size, 3, none⟩ = some (.slice A3 x.kids.length c3) := by rw [hWY, hWX]; exact box_cell2 _ _ rfl _ _ _ 3 _ rfl
          have e0 : WY.cell? ⟨wr.heap.size + 1, 0, none⟩ = some (.int .i64 y.kind) := by rw [hWY]; exact box_cell _ _ hzX _ _ 0 _ rfl
          have e1 : WY.cell? ⟨wr.heap.size + 1, 1, none⟩ = some (.slice B1 y.ints.length d1) := by rw [hWY]; exact box_cell _ _ hzX _ _ 1 _ rfl
          have e2 : WY.cell? ⟨wr.heap.size + 1, 2, none⟩ = some (.slice B2 y.texts.length d2) := by rw [hWY]; exact box_cell _ _ hzX _ _ 2 _ rfl
          have e3 : WY.cell? ⟨wr.heap.size + 1, 3, none⟩ = some (.slice B3 y.kids.length d3) := by rw [hWY]; exact box_cell _ _ hzX _ _ 3 _ rfl
          have HIY := Aside0.mk ((HI.out.later hbX).later hbY)
          have HWY := Aside0.mk (below_step (below_step HW.out hbX) hbY)
          have q0' := pw_cell_below hbX q0
          have y0' := pw_cell_below hbX y0
          have y1' := pw_cell_below hbX y1
          have y2' := pw_cell_below hbX y2
          have y3' := pw_cell_below hbX y3
          subst hWX
          rw [hWY] at g0 g1 g2 g3 e0 e1 e2 e3
          clear hbX hbY hzX HI HW
          go_wp2_with fail
          rw [← hWY]
          clear g0 g1 g2 e0 e1 e2
          refine (own_any x y A1 c1 A2 c2 A3 c3 B1 d1 B2 d2 B3 d3 _ (HN.out.below HWY.out) (HM.out.below HWY.out) HSi.out).mono ?_
          rintro e w2 ⟨rfl, hB2⟩
          rw [← hWY] at g3 e3
          replace g3 := pw_cell_below hB2 g3
          replace e3 := pw_cell_below hB2 e3
          have HI2 := Aside0.mk (HIY.out.later hB2)
          have HW2 := Aside0.mk (below_step HWY.out hB2)
          clear hB2 hWY HIY HWY x0 x1 x2 x3 y0 y1 y2 y3 y0' y1' y2' y3' q0' k0 q0
          have H3 : (r = false ∧ (ownN x y = false ∨ (ownN x y = true ∧ ¬ x.kids.length = y.kids.length))) ∨ (ownN x y = true ∧ x.kids.length = y.kids.length) := by
            cases hown : ownN x y with
            | false => exact .inl ⟨HOwn.out hown, .inl rfl⟩
            | true =>
              by_cases hl : x.kids.length = y.kids.length
              · exact .inr ⟨rfl, hl⟩
              · exact .inl ⟨HLen.out hl, .inr ⟨rfl, hl⟩⟩
          have HH3 := Aside0.mk H3
          generalize wr.heap.size = bx at g3 e3 ⊢
          rcases H3 with ⟨hr0, (hown | ⟨hown, hl⟩)⟩ | ⟨hown, hl⟩
          · rw [hown]
            clear hown
            go_wp2
            go_loopw [12, 11] (fun v12 v11 W => v12 = .int .i64 0 ∧ v11 = .bool false ∧ W.cell? ⟨bx, 3, none⟩ = some (.slice A3 x.kids.length c3) ∧ Aside0 (AlkIn w1 Wg outs row vo v W)) (fun _ _ _ => 0)
            case atStart => exact ⟨rfl, rfl, g3, HI2⟩
            case round =>
              clear g3
              obtain ⟨rfl, rfl, g3, HI3⟩ := hrel
              subst hr0
              clear HI2 e3
              go_wp2_with (clear g3; at_builtin; refine Kd.R_append Kd.bool (w0 := w1) w1.heap.size rfl (.tmp 92) (.tmp 94) 38 4 (.bool false) 1 rfl Tryd.underlying38 info_bool rfl (by decide) (by omega) v row false [.bool false] (fun q => Wg.heap.size ≤ q) (fun _ => False) rfl (by go_simp) rfl (fun _ h => h.elim) (fun k hk => Nat.le_trans HI3.out.since.size hk) HI3.out.row HI3.out.below HI3.out.below.size (by omega) ?_; intro v7 w7 hR7 hB7 hg7 _; have HL := Aside0.mk (HI3.out.pushed hR7 hB7 hg7); clear hR7 hB7 hg7)
              all_goals
                go_roundw
                case rel => exact ⟨j + 1, _, by omega, by go_num, rfl, by rw [HRg.out]; exact HL⟩
                case measure => simp [intOf]; omega
          · rw [hown]
            have dl : ((x.kids.length : Int) == (y.kids.length : Int)) = false := by simp; omega
            have dln : (x.kids.length == y.kids.length) = false := by simpa using hl
            clear hown hl
            go_wp2
            go_loopw [12, 11] (fun v12 v11 W => v12 = .int .i64 0 ∧ v11 = .bool false ∧ W.cell? ⟨bx, 3, none⟩ = some (.slice A3 x.kids.length c3) ∧ Aside0 (AlkIn w1 Wg outs row vo v W)) (fun _ _ _ => 0)
            case atStart => exact ⟨rfl, rfl, g3, HI2⟩
            case round =>
              clear g3
              obtain ⟨rfl, rfl, g3, HI3⟩ := hrel
              subst hr0
              clear HI2 e3
              go_wp2_with (clear g3; at_builtin; refine Kd.R_append Kd.bool (w0 := w1) w1.heap.size rfl (.tmp 92) (.tmp 94) 38 4 (.bool false) 1 rfl Tryd.underlying38 info_bool rfl (by decide) (by omega) v row false [.bool false] (fun q => Wg.heap.size ≤ q) (fun _ => False) rfl (by go_simp) rfl (fun _ h => h.elim) (fun k hk => Nat.le_trans HI3.out.since.size hk) HI3.out.row HI3.out.below HI3.out.below.size (by omega) ?_; intro v7 w7 hR7 hB7 hg7 _; have HL := Aside0.mk (HI3.out.pushed hR7 hB7 hg7); clear hR7 hB7 hg7)
              all_goals
                go_roundw
                case rel => exact ⟨j + 1, _, by omega, by go_num, rfl, by rw [HRg.out]; exact HL⟩
                case measure => simp [intOf]; omega
          · have dl : ((x.kids.length : Int) == (y.kids.length : Int)) = true := by simp; omega
            have dln : (x.kids.length == y.kids.length) = true := by simpa using hl
            rw [hown]
            have HHl := Aside0.mk hl
            have HHo := Aside0.mk hown
            clear hown hl
            go_wp2
            go_loopw [12, 11] (fun v12 v11 W => ∃ (k : Nat) (q : Bool), k ≤ x.kids.length ∧ v12 = .int .i64 k ∧ v11 = .bool q ∧ Aside0 ((q = false ∧ r = false) ∨ (q = true ∧ KO k)) ∧ W.cell? ⟨bx, 3, none⟩ = some (.slice A3 x.kids.length c3) ∧ W.cell? ⟨bx + 1, 3, none⟩ = some (.slice B3 y.kids.length d3) ∧ Aside0 (AlkIn w1 Wg outs row vo v W)) (fun v12 _ _ => x.kids.length - (intOf v12).toNat)
            case atStart => exact ⟨0, true, by omega, rfl, rfl, ⟨.inr ⟨rfl, by rw [HKO.out]; exact fun m hm => by omega⟩⟩, g3, e3, HI2⟩
            case round =>
              clear g3 e3 HI2
              obtain ⟨k, q, hk, rfl, rfl, HQ, g3, e3, HI3⟩ := hrel
              have HW3 := Aside0.mk (below_step HB.out HI3.out.below)
              by_cases hkl : k < x.kids.length
              · cases q with
                | false =>
                  have hr0 : r = false := by
                    rcases HQ.out with h | h
                    · exact h.2
                    · cases h.1
                  subst hr0
                  clear e3
                  go_wp2_with (clear g3; at_builtin; refine Kd.R_append Kd.bool (w0 := w1) w1.heap.size rfl (.tmp 92) (.tmp 94) 38 4 (.bool false) 1 rfl Tryd.underlying38 info_bool rfl (by decide) (by omega) v row false [.bool false] (fun q => Wg.heap.size ≤ q) (fun _ => False) rfl (by go_simp) rfl (fun _ h => h.elim) (fun k hk => Nat.le_trans HI3.out.since.size hk) HI3.out.row HI3.out.below HI3.out.below.size (by omega) ?_; intro v7 w7 hR7 hB7 hg7 _; have HL := Aside0.mk (HI3.out.pushed hR7 hB7 hg7); clear hR7 hB7 hg7)
                  go_roundw
                  case rel => exact ⟨j + 1, _, by omega, by go_num, rfl, by rw [HRg.out]; exact HL⟩
                  case measure => simp [intOf]; omega
                | true =>
                  have HKk : Aside0 (KO k) := ⟨by
                    rcases HQ.out with h | h
                    · cases h.1
                    · exact h.2⟩
                  obtain ⟨ax, rfl, s0⟩ := at_nat HN.out.k k hkl
                  obtain ⟨ay, rfl, t0⟩ := at_nat HM.out.k k (by have := HHl.out; omega)
                  replace s0 := pw_cell_below HW3.out s0
                  replace t0 := pw_cell_below HW3.out t0
                  have HKl := Aside0.mk hkl
                  have hxk : x.kids.length ≤ 1000000 := HSi.out.2.2
                  have hy : (k : Int) < (y.kids.length : Int) := by have := HHl.out; omega
                  have hyn : k < y.kids.length := by have := HHl.out; omega
                  have hx0 : 0 ≤ rd x.kids (k : Int) := HKi.out _ (rd_mem hkl)
                  have hy0 : 0 ≤ rd y.kids (k : Int) := HKj.out _ (rd_mem hyn)
                  have HNk := Aside0.mk (fun h => HNo.out k hkl h)
                  have HStep := Aside0.mk (fun (h : rd x.kids (k : Int) < (i : Int) ∧ rd y.kids (k : Int) < (j : Int) ∧ ((outs.getD (rd x.kids (k : Int)).toNat []).getD (rd y.kids (k : Int)).toNat false) = true) => (show KO (k + 1) from by
                    have h1 := HKk.out
                    rw [HKO.out] at h1 ⊢
                    exact ext_lt h1 h))
                  clear HQ
                  obtain ⟨p, hp⟩ : ∃ p : Nat, rd x.kids (k : Int) = (p : Int) := ⟨_, (Int.toNat_of_nonneg hx0).symm⟩
                  obtain ⟨q, hq⟩ : ∃ q : Nat, rd y.kids (k : Int) = (q : Int) := ⟨_, (Int.toNat_of_nonneg hy0).symm⟩
                  rw [hp, Int.toNat_natCast] at HStep HNk
                  rw [hq, Int.toNat_natCast] at HStep HNk
                  rw [hp] at s0
                  rw [hq] at t0
                  clear hx0 hy0 hp hq
                  by_cases h1 : p < i
                  · by_cases h2 : q < j
                    · obtain ⟨Ao, co, hvo⟩ := Kd.R_slice HI3.out.out
                      subst hvo
                      have hCo := (Kd.R_reads' HI3.out.out).2.2
                      have hpo : p < outs.length := by rw [HTl.out.1]; exact h1
                      obtain ⟨ao, Bp, dp, rfl, o0, hdp, hCp⟩ := at_bools hCo p hpo
                      have hpl := HTl.out.2 p h1
                      obtain ⟨ap, rfl, o1⟩ := at_bool hCp q (by rw [hpl]; omega)
                      rw [hpl] at o0
                      have n1 : decide ((i : Int) ≤ (p : Int)) = false := decide_eq_false (by omega)
                      have n2 : decide ((j : Int) ≤ (q : Int)) = false := decide_eq_false (by omega)
                      have n1n : decide (i ≤ p) = false := decide_eq_false (by omega)
                      have n2n : decide (j ≤ q) = false := decide_eq_false (by omega)
                      have m1 : (p : Int) < (outs.length : Int) := by omega
                      have m2 : (q : Int) < (b.nodes.length : Int) := by omega
                      have HLp := Aside0.mk hpl
                      clear hCo hdp hCp hpl hpo
                      generalize (outs.getD p []).getD q false = z at o1 HStep HNk
                      have HZ := Aside0.mk (show (z = false ∧ r = false) ∨ (z = true ∧ KO (k + 1)) from by
                        cases z with
                        | true => exact .inr ⟨rfl, HStep.out ⟨by omega, by omega, rfl⟩⟩
                        | false => exact .inl ⟨rfl, HNk.out (fun h => by cases h.2.2)⟩)
                      clear HStep HNk h1 h2
                      go_wp2
                      go_quiet (fail)
                      go_wp2
                      have hbq := pw_below_drewN (Below.refl wr.heap.size wr) nq
                      have HI4 := Aside0.mk (HI3.out.later hbq)
                      have g4 := pw_cell_below hbq g3
                      have e4 := pw_cell_below hbq e3
                      go_roundw
                      case rel => exact ⟨k + 1, z, HKl.out, by go_num, rfl, HZ, g4, e4, HI4⟩
                      case measure => have := HKl.out; simp [intOf]; omega
                    · have n1 : decide ((i : Int) ≤ (p : Int)) = false := decide_eq_false (by omega)
                      have n2 : decide ((j : Int) ≤ (q : Int)) = true := decide_eq_true (by omega)
                      have n1n : decide (i ≤ p) = false := decide_eq_false (by omega)
                      have n2n : decide (j ≤ q) = true := decide_eq_true (by omega)
                      have HZ := Aside0.mk (show r = false from HNk.out (fun h => by omega))
                      clear HStep HNk h1 h2
                      go_wp2
                      go_roundw
                      case rel => exact ⟨k + 1, false, HKl.out, by go_num, rfl, ⟨.inl ⟨rfl, HZ.out⟩⟩, g3, e3, HI3⟩
                      case measure => have := HKl.out; simp [intOf]; omega
                  · have n1 : decide ((i : Int) ≤ (p : Int)) = true := decide_eq_true (by omega)
                    have n1n : decide (i ≤ p) = true := decide_eq_true (by omega)
                    have HZ := Aside0.mk (show r = false from HNk.out (fun h => by omega))
                    clear HStep HNk h1
                    go_wp2
                    go_roundw
                    case rel => exact ⟨k + 1, false, HKl.out, by go_num, rfl, ⟨.inl ⟨rfl, HZ.out⟩⟩, g3, e3, HI3⟩
                    case measure => have := HKl.out; simp [intOf]; omega
              · obtain rfl : k = x.kids.length := by omega
                have hr0 : r = q := by
                  rcases HQ.out with h | h
                  · rw [h.1, h.2]
                  · rw [h.1]; exact HYes.out HHo.out HHl.out h.2
                subst hr0
                clear e3 HQ hkl hk
                go_wp2_with (clear g3; at_builtin; refine Kd.R_append Kd.bool (w0 := w1) w1.heap.size rfl (.tmp 92) (.tmp 94) 38 4 (.bool false) 1 rfl Tryd.underlying38 info_bool rfl (by decide) (by omega) v row r [.bool r] (fun q => Wg.heap.size ≤ q) (fun _ => False) rfl (by go_simp) rfl (fun _ h => h.elim) (fun k hk => Nat.le_trans HI3.out.since.size hk) HI3.out.row HI3.out.below HI3.out.below.size (by omega) ?_; intro v7 w7 hR7 hB7 hg7 _; have HL := Aside0.mk (HI3.out.pushed hR7 hB7 hg7); clear hR7 hB7 hg7)
                go_roundw
                case rel => exact ⟨j + 1, _, by omega, by go_num, rfl, by rw [HRg.out]; exact HL⟩
                case measure => simp [intOf]; omega
        · obtain rfl : j = b.nodes.length := by omega
          have hol := HTl.out.1
          generalize hrow : (List.range b.nodes.length).map (alkC a.nodes b.nodes outs i) = row at HI HTs
          obtain ⟨Av, cv, hv⟩ := Kd.R_slice HI.out.row
          subst hv
          go_wp2_with (clear q0; at_builtin; refine Kd.R_append kBools (w0 := w1) w1.heap.size rfl (.tmp 96) (.tmp 98) 36 38 (.slice none 0 0) 24 rfl Tryd.underlying36 info_bools rfl (by decide) (by omega) vo outs row [.slice Av row.length cv] (fun _ => True) (fun q => Wg.heap.size ≤ q) rfl (by go_simp) ⟨_, rfl, HI.out.row⟩ (fun k hk => ⟨trivial, fun e => by have := HI.out.out.1 k e.symm; omega⟩) (fun _ _ => trivial) (Kd.R_mono HI.out.out (fun _ _ => trivial)) HI.out.below HI.out.below.size (by omega) ?_; intro v7 w7 hR7 hB7 hg7 _; have HL := Aside0.mk (AlkOut.mk hR7 hB7); clear hR7 hB7 hg7)
          go_roundw
          case rel => exact ⟨i + 1, _, by omega, by go_num, rfl, by rw [HTs.out]; exact HL⟩
          case measure => simp [intOf]; omega
    · obtain rfl : i = a.nodes.length := by omega
      go_wp2
      obtain ⟨A5, c5, hv5⟩ := Kd.R_slice HO.out.out
      subst hv5
      rw [alkT_len] at HO ⊢
      go_ret
      exact ⟨A5, c5, rfl, by have := (Kd.R_reads' HO.out.out); exact this.2.1, by have := (Kd.R_reads' HO.out.out).2.2; rwa [alkT_len] at this, below_step HB.out HO.out.below⟩
end Go.Proofs.YtdfneldenipljaaDoor.L
end
section
namespace Go.Proofs.YtdfneldenipljaaDoor.L
open Go.RowKit Go.ChangeShapes Go.WideShapes Go.Proofs.YtdfneldenipljaaDoorW.PrintWords Go.Proofs.YtdfneldenipljaaDoorW.PrintLast Go.Proofs.YtdfneldenipljaaDoorW.PrintMore
attribute [local go_sem] max2_int min2_int max_two min_two max_three min_three max_four min_four
structure IntsOut (w : World) (outs : List (List Int)) (v W) : Prop where
  out : kInts.R 31 W w.heap.size (fun _ => True) v outs
  below : Below w.heap.size w W
structure IntsIn (w Wg : World) (outs : List (List Int)) (own : List Int) (vo v : Value) (W : World) : Prop where
  out : kInts.R 31 W w.heap.size (fun q => q < Wg.heap.size) vo outs
  own : (Kd.int .i64).R 3 W w.heap.size (fun q => Wg.heap.size ≤ q) v own
  since : Below Wg.heap.size Wg W
  below : Below w.heap.size w W
theorem IntsIn.later {w Wg : World} {outs : List (List Int)} {own : List Int} {vo v : Value} {W W1 : World} (h : IntsIn w Wg outs own vo v W) (hb : Below W.heap.size W W1) : IntsIn w Wg outs own vo v W1 :=
  ⟨Kd.R_below h.out hb, Kd.R_below h.own hb, below_step h.since hb, below_step h.below hb⟩
theorem IntsIn.start {w W : World} {outs : List (List Int)} {vo : Value} (h : IntsOut w outs vo W) : IntsIn w W outs [] vo (.slice (some ⟨W.heap.size, 0, none⟩) 0 0) (W.alloc (.cells #[] 3)) := by
  have hb := below_alloc (Below.refl W.heap.size W) (.cells #[] 3)
  refine ⟨Kd.R_below (Kd.R_mono (Kd.R_bound h.out) (fun q hq => hq.2.2.1)) hb, ?_, hb, below_step h.below hb⟩
  exact Kd.R_mono (Kd.R_bound (R_empty (Kd.int .i64) 3 W W.heap.size (Nat.le_refl _))) (fun q hq => hq.2.1) |> fun h' => Kd.R_lower h' h.below.size
theorem IntsIn.pushed {w Wg : World} {outs : List (List Int)} {own : List Int} {vo v v2 : Value} {x : Int} {W W2 : World} (h : IntsIn w Wg outs own vo v W) (hR : (Kd.int .i64).R 3 W2 w.heap.size (fun q => Wg.heap.size ≤ q) v2 (own ++ [x])) (hB : Below w.heap.size w W2) (hg : W.grownBy W2 v.ownBlock) : IntsIn w Wg outs (own ++ [x]) vo v2 W2 :=
  ⟨Kd.R_grown h.out hg (fun k hk e => by have := h.own.1 k e.symm; omega), hR, h.since.grown hg h.since.size (fun q hq => h.own.1 q hq), hB⟩
def Seek (c : Nat) (P : Prop) (t z : Int) : Prop := (z = -1 ∧ P) ∨ (z = t ∧ 0 ≤ t ∧ t < (c : Int))
theorem Seek.no {c : Nat} {P : Prop} {t z : Int} (h : Seek c P t z) (hz : z < 0) : z = -1 ∧ P := by
  rcases h with h | h
  · exact h
  · omega
theorem Seek.yes {c : Nat} {P : Prop} {t z : Int} (h : Seek c P t z) (hz : ¬ z < 0) : z = t ∧ 0 ≤ t ∧ t < (c : Int) := by
  rcases h with h | h
  · omega
  · exact h
theorem Seek.more {c : Nat} {P P' : Prop} {t z : Int} (h : Seek c P t z) (hp : P → P') : Seek c P' t z := by
  rcases h with h | h
  · exact .inl ⟨h.1, hp h.2⟩
  · exact .inr h
set_option maxRecDepth 100000 in
set_option maxHeartbeats 8000000 in
theorem rnumbers_any (T : Lib.PrintTabs) (A : Option Addr) (c : Nat) (l : List Scene) (w : World) (h : kScene.C w A l.length l) (hA : ∀ s ∈ l, AheadN s.nodes) (hS : ∀ i : Nat, i < l.length → (sc l i).nodes.length ≤ 400000 ∧ ∀ j : Nat, j < (sc l i).nodes.length → Small (nd (sc l i).nodes j)) (hl : l.length ≤ 1000) :
    Calls Tryd.prog 17 #[.slice A l.length c] w (RowPost kInts 31 (allS T l).2 w) := by
  have HR := Aside0.mk h
  have HA := Aside0.mk hA
  have HS := Aside0.mk hS
  have b0 := h.2.1
  have hu := Tryd.underlying34
  have HOl := Aside0.mk (all_len T l.length l rfl)
  have HC0 := Aside0.mk (show cntA T l 0 = 0 from by unfold cntA; rw [List.take_zero]; rfl)
  have HO0 : Aside0 (IntsOut w ((allS T l).2.take 0) (.slice (some ⟨w.heap.size, 0, none⟩) 0 0) (w.alloc (.cells #[] 31))) := ⟨by rw [List.take_zero]; exact R_empty kInts 31 w w.heap.size (Nat.le_refl _), below_alloc (Below.refl _ _) _⟩
  have HCs := Aside0.mk (fun (i : Nat) (hi : i < l.length) => cntA_step (T := T) hi)
  have HOld := Aside0.mk (fun (i k m : Nat) (hi : i ≤ l.length) (hk : k < i) (hm : m < (sc l k).nodes.length) => all_old (T := T) hi hk hm)
  have HFr := Aside0.mk (fun (i j : Nat) (hi : i < l.length) (hj : j < (sc l i).nodes.length) => all_fresh (T := T) hA hi hj)
  have HAk := Aside0.mk (fun (i k j m : Nat) (hi : i < l.length) (hk : k < l.length) (hj : j < (sc l i).nodes.length) (hm : m < (sc l k).nodes.length) => all_alk (T := T) hA hi hk hj hm)
  have HCm := Aside0.mk (show ∀ i : Nat, i ≤ l.length → cntA T l i ≤ 1000000000 from fun i hi => by
    unfold cntA
    have h1 := all_vs_len T i (l.take i) (by rw [List.length_take]; omega) (fun s hs => by
      obtain ⟨k, hk, rfl⟩ := List.getElem_of_mem hs
      have hk' : k < l.length := by rw [List.length_take] at hk; omega
      have e : sc l k = (l.take i)[k] := by rw [List.getElem_take]; unfold sc; rw [getD_eq _ hk']
      rw [← e]
      exact (hS k hk').1)
    have h2 : i * 400000 ≤ 1000 * 400000 := Nat.mul_le_mul_right _ (by omega)
    omega)
  clear h hA hS
  generalize (allS T l).2 = O at HOl HO0 HCs HOld HFr HAk ⊢
  generalize cntA T l = cA at HC0 HCs HOld HFr HCm
  go_enter Tryd.func17, Tryd.ntmps17
  go_wp2
  generalize w.alloc (.cells #[] 31) = W5 at HO0 ⊢
  go_loopw [5, 4, 3] (fun v5 v4 v3 W => ∃ (i : Nat) (vo : Value), i ≤ l.length ∧ v5 = .int .i64 i ∧ v4 = .int .i64 (cA i) ∧ vo = v3 ∧ Aside0 (IntsOut w (O.take i) vo W)) (fun v5 _ _ _ => l.length - (intOf v5).toNat)
  case atStart => exact ⟨0, _, by omega, rfl, by rw [HC0.out]; rfl, rfl, HO0⟩
  case round =>
    clear HO0
    obtain ⟨i, vo, hi, rfl, rfl, rfl, HO⟩ := hrel
    by_cases hlt : i < l.length
    · have HI0 := Aside0.mk (IntsIn.start HO.out)
      have HOi := Aside0.mk (show O.take (i + 1) = O.take i ++ [O.getD i []] from take_succ_getD [] (by rw [HOl.out]; exact hlt))
      have HCi := Aside0.mk (HCs.out i hlt)
      have HSi := Aside0.mk (HS.out i hlt)
      have HCb := Aside0.mk (HCm.out i hi)
      have HIl := Aside0.mk hlt
      have HTk := Aside0.mk (show (O.take i).length = i ∧ ∀ k : Nat, k < i → (O.take i).getD k [] = O.getD k [] from ⟨by rw [List.length_take, HOl.out]; omega, fun k hk => by rw [List.getD_eq_getElem?_getD, List.getD_eq_getElem?_getD, List.getElem?_take, if_pos hk]⟩)
      have HFi := Aside0.mk (fun (j : Nat) (hj : j < (sc l i).nodes.length) => HFr.out i j hlt hj)
      have HAi := Aside0.mk (fun (k j m : Nat) (hk : k < l.length) (hj : j < (sc l i).nodes.length) (hm : m < (sc l k).nodes.length) => HAk.out i k j m hlt hk hj hm)
      have HAo := Aside0.mk (fun (j m : Nat) (hj : j < (sc l i).nodes.length) (hm : m < (sc l i).nodes.length) => HAk.out i i j m hlt hlt hj hm)
      clear HO
      generalize O.take i = outs at HI0 HOi HTk
      generalize O.getD i [] = Oi at HOi HCi HFi HAi HAo
      obtain ⟨ad, B, d, rfl, x0, x1, hd, hC⟩ := at_scene HR.out i hlt
      have HX := Aside0.mk (And.intro x0 x1)
      have HB := Aside0.mk hC
      clear hC
      go_wp2
      clear x0 x1
      obtain ⟨Wg, hWg⟩ : ∃ Wg : World, Wg = wr := ⟨_, rfl⟩
      rw [← hWg] at HI0 ⊢
      clear hWg
      generalize Wg.alloc (.cells #[] 3) = W6 at HI0 ⊢
      go_loopw [7, 4, 6] (fun v7 v4 v6 W => ∃ (j : Nat) (v : Value), j ≤ (sc l i).nodes.length ∧ v7 = .int .i64 j ∧ v4 = .int .i64 (cntF Oi (cA i) j) ∧ v = v6 ∧ Aside0 (IntsIn w Wg outs (Oi.take j) vo v W)) (fun v7 _ _ _ => (sc l i).nodes.length - (intOf v7).toNat)
      case atStart => exact ⟨0, _, by omega, rfl, rfl, rfl, ⟨by rw [List.take_zero]; exact HI0.out⟩⟩
      case round =>
        clear HI0
        obtain ⟨j, v, hj, rfl, rfl, rfl, HI⟩ := hrel
        have x0 := pw_cell_below HI.out.below HX.out.1
        have x1 := pw_cell_below HI.out.below HX.out.2
        by_cases hjl : j < (sc l i).nodes.length
        · have HT0 := Aside0.mk (HCi.out.1 j hjl)
          have HJl := Aside0.mk hjl
          have hni : (sc l i).nodes.length ≤ 400000 := HSi.out.1
          have HNg := Aside0.mk (HA.out _ (sc_mem hlt))
          generalize ht : rd Oi (j : Int) = t at HT0
          have HTe := Aside0.mk ht
          clear ht
          have HOw := Aside0.mk (show Oi.take (j + 1) = Oi.take j ++ [t] from by rw [take_succ_rd (by rw [HCi.out.2.2]; exact hjl), HTe.out])
          have HOl2 := Aside0.mk (show (Oi.take j).length = j ∧ j ≤ 400000 ∧ ∀ m : Nat, m < j → rd (Oi.take j) (m : Int) = rd Oi (m : Int) from ⟨by rw [List.length_take, HCi.out.2.2]; omega, by have := HSi.out.1; omega, fun m hm => by
            have h1 : m < (Oi.take j).length := by rw [List.length_take, HCi.out.2.2]; omega
            rw [rd_eq h1, rd_eq (by rw [HCi.out.2.2]; omega), List.getElem_take]⟩)
          generalize Oi.take j = own at HI HOw HOl2
          go_wp2
          clear x0 x1
          go_loopw [9, 8] (fun v9 v8 W => ∃ (k : Nat) (z : Int), k ≤ i ∧ v9 = .int .i64 k ∧ v8 = .int .i64 z ∧ Aside0 (Seek (cntF Oi (cA i) j) (∀ k' : Nat, k' < k → ∀ m : Nat, m < (sc l k').nodes.length → rd (O.getD k' []) (m : Int) ≠ t) t z) ∧ Aside0 (IntsIn w Wg outs own vo v W)) (fun v9 _ _ => i - (intOf v9).toNat)
          case atStart => exact ⟨0, -1, by omega, rfl, rfl, ⟨.inl ⟨rfl, fun k h => by omega⟩⟩, HI⟩
          case round =>
            clear HI
            obtain ⟨k, z, hk, rfl, rfl, HZ, HI⟩ := hrel
            by_cases hki : k < i
            · by_cases hz : z < 0
              · have HP : Aside0 (∀ k' : Nat, k' < k → ∀ m : Nat, m < (sc l k').nodes.length → rd (O.getD k' []) (m : Int) ≠ t) := ⟨by
                  rcases HZ.out with h | h
                  · exact h.2
                  · omega⟩
                have hz1 : z = -1 := by
                  rcases HZ.out with h | h
                  · exact h.1
                  · omega
                subst hz1
                obtain ⟨ad', E, g, e, y0, y1, hg, hD⟩ := at_scene HR.out k (by omega)
                injection e with e
                subst e
                have x0 := pw_cell_below HI.out.below HX.out.1
                have x1 := pw_cell_below HI.out.below HX.out.2
                replace y0 := pw_cell_below HI.out.below y0
                replace y1 := pw_cell_below HI.out.below y1
                have HD := Aside0.mk hD
                have HSk := Aside0.mk (HS.out k (by omega))
                have hnk : (sc l k).nodes.length ≤ 400000 := HSk.out.1
                have HNk := Aside0.mk (HA.out _ (sc_mem (show k < l.length by omega)))
                have HKi := Aside0.mk hki
                have hkl : (k : Int) < (l.length : Int) := by omega
                clear hD hz HZ
                go_wp2
                go_still_tail 8, (by kernel_rfl)
                change wpList _ _ _ _ _ wr.drew
                have HJ := Aside0.mk (HI.out.later (pw_below_drewN (Below.refl _ _) 1))
                replace HJ : Aside0 (IntsIn w Wg outs own vo v wr.drew) := HJ
                generalize wr.drew = wq at HJ ⊢
                clear HI x0 x1 y0 y1
                go_wp2_with fail
                refine (alike_any B d (sc l i) E g (sc l k) wq (Kd.C_below HB.out HJ.out.below) hd (Kd.C_below HD.out HJ.out.below) hg HSi.out.2 (fun p hp q hq => (HNg.out p hp q hq).1) (fun p hp q hq => (HNk.out p hp q hq).1) (by have := HSi.out.1; omega) (by have := HSk.out.1; omega)).mono ?_
                rintro e w2 ⟨A2, c2, rfl, hc2, hTab, hB2⟩
                have HI2 := Aside0.mk (HJ.out.later hB2)
                have HTab := Aside0.mk hTab
                have HTr := Aside0.mk (fun (p : Nat) (hp : p < (sc l i).nodes.length) => alkT_row (sc l i).nodes (sc l k).nodes hp)
                have HAk2 := Aside0.mk (fun (m : Nat) (hm : m < (sc l k).nodes.length) => HAi.out k j m (by omega) hjl hm)
                clear hB2 hTab HJ
                generalize alkT (sc l i).nodes (sc l k).nodes (sc l i).nodes.length = tab at HTab HTr HAk2
                have HTs := Aside0.mk (show (tab.getD j []).length = (sc l k).nodes.length from by rw [HTr.out j hjl]; simp)
                clear HTr
                obtain ⟨wk, hwk⟩ : ∃ wk : World, wk = w2 := ⟨_, rfl⟩
                rw [← hwk] at HTab
                have HSame := Aside0.mk (show Below wk.heap.size wk w2 from by rw [hwk]; exact Below.refl _ _)
                clear hwk
                go_wp2
                go_loopw [11, 8] (fun v11 v8 W => ∃ (m : Nat) (z : Int), m ≤ (sc l k).nodes.length ∧ v11 = .int .i64 m ∧ v8 = .int .i64 z ∧ Aside0 (Seek (cntF Oi (cA i) j) (∀ m' : Nat, m' < m → rd (O.getD k []) (m' : Int) ≠ t) t z) ∧ Aside0 (Below wk.heap.size wk W) ∧ Aside0 (IntsIn w Wg outs own vo v W)) (fun v11 _ _ => (sc l k).nodes.length - (intOf v11).toNat)
                case atStart => exact ⟨0, -1, by omega, rfl, rfl, ⟨.inl ⟨rfl, fun k h => by omega⟩⟩, HSame, HI2⟩
                case round =>
                  clear HI2 HSame
                  obtain ⟨m, z, hm, rfl, rfl, HZ, HSm, HI⟩ := hrel
                  obtain ⟨ad', E', g', e, y0, y1, hg', hD⟩ := at_scene HR.out k (by have := HKi.out; have := HIl.out; omega)
                  injection e with e
                  subst e
                  have y0 := pw_cell_below HI.out.below y0
                  clear y1 hg' hD
                  have hkl : (k : Int) < (l.length : Int) := by have := HKi.out; have := HIl.out; omega
                  by_cases hml : m < (sc l k).nodes.length
                  · by_cases hz : z < 0
                    · obtain ⟨hz1, hP4⟩ := HZ.out.no hz
                      subst hz1
                      have HP4 := Aside0.mk hP4
                      obtain ⟨a2, Bp, dp, rfl, o0, -, hCp⟩ := at_bools HTab.out j hjl
                      rw [HTs.out] at o0 hCp
                      obtain ⟨ap, rfl, o1⟩ := at_bool hCp m hml
                      replace o0 := pw_cell_below HSm.out o0
                      replace o1 := pw_cell_below HSm.out o1
                      have hmi := HAk2.out m hml
                      have hjk : (j : Int) < ((sc l i).nodes.length : Int) := by omega
                      have hmk : (m : Int) < ((sc l k).nodes.length : Int) := by omega
                      rw [HTe.out] at hmi
                      clear hP4 hCp hz HZ
                      cases hzb : (tab.getD j []).getD m false with
                      | false =>
                        rw [hzb] at o1 hmi
                        have HP5 := Aside0.mk (ext_lt HP4.out (fun e => by have := hmi.2 e.symm; cases this))
                        clear hzb hmi
                        go_wp2
                        go_roundw
                        case rel => exact ⟨m + 1, -1, by omega, by go_num, rfl, ⟨.inl ⟨rfl, HP5.out⟩⟩, HSm, HI⟩
                        case measure => simp [intOf]; omega
                      | true =>
                        rw [hzb] at o1 hmi
                        have he := hmi.1 rfl
                        have hki := HKi.out
                        obtain ⟨Ao, co, hvo⟩ := Kd.R_slice HI.out.out
                        subst hvo
                        have hCo := (Kd.R_reads' HI.out.out).2.2
                        obtain ⟨ao, Bk, dk, rfl, r0, -, hCk⟩ := at_ints hCo k (by rw [HTk.out.1]; exact hki)
                        have hOk := HCs.out k (by have := HIl.out; omega)
                        rw [HTk.out.2 k hki] at r0 hCk
                        rw [hOk.2.2] at r0 hCk
                        obtain ⟨ak, rfl, r1⟩ := at_nat hCk m hml
                        rw [← he] at r1
                        have hko : (k : Int) < (outs.length : Int) := by have := HTk.out.1; omega
                        have HOld2 := HOld.out i k m (by have := HIl.out; omega) hki hml
                        rw [← he] at HOld2
                        have HS5 := Aside0.mk (show Seek (cntF Oi (cA i) j) (∀ m' : Nat, m' < m + 1 → rd (O.getD k []) (m' : Int) ≠ t) t t from .inr ⟨rfl, HOld2.1, by
                          have h1 := cnt_mono Oi (cA i) (i := 0) (j := j) (Nat.zero_le _)
                          have h2 : cntF Oi (cA i) 0 = cA i := rfl
                          omega⟩)
                        clear hzb hmi he hki hCo hCk hOk HOld2
                        go_wp2
                        go_roundw
                        case rel => exact ⟨m + 1, t, by omega, by go_num, rfl, HS5, HSm, HI⟩
                        case measure => simp [intOf]; omega
                    · have d0 : decide (z < 0) = false := decide_eq_false hz
                      have HS5 := Aside0.mk (show Seek (cntF Oi (cA i) j) (∀ k' : Nat, k' < k + 1 → ∀ m : Nat, m < (sc l k').nodes.length → rd (O.getD k' []) (m : Int) ≠ t) t z from .inr (HZ.out.yes hz))
                      clear hz HZ
                      go_wp2
                      have hki := HKi.out
                      have hil := HIl.out
                      go_roundw
                      case rel => exact ⟨k + 1, z, by omega, by go_num, rfl, HS5, HI⟩
                      case measure => simp [intOf]; omega
                  · obtain rfl : m = (sc l k).nodes.length := by omega
                    have HS5 := Aside0.mk (show Seek (cntF Oi (cA i) j) (∀ k' : Nat, k' < k + 1 → ∀ m : Nat, m < (sc l k').nodes.length → rd (O.getD k' []) (m : Int) ≠ t) t z from HZ.out.more (fun h => ext_lt HP.out h))
                    clear HZ
                    go_wp2
                    have hki := HKi.out
                    have hil := HIl.out
                    go_roundw
                    case rel => exact ⟨k + 1, z, by omega, by go_num, rfl, HS5, HI⟩
                    case measure => simp [intOf]; omega
              · have d0 : decide (z < 0) = false := decide_eq_false hz
                obtain ⟨hzt, ht0, htc⟩ := HZ.out.yes hz
                subst hzt
                have HTc := Aside0.mk htc
                obtain ⟨Av, cv, hv⟩ := Kd.R_slice HI.out.own
                subst hv
                clear hz HZ htc
                go_wp2_with (at_builtin; refine Kd.R_append (Kd.int .i64) (w0 := w) w.heap.size rfl (.tmp 114) (.tmp 116) 31 3 (.int .i64 0) 8 rfl Tryd.underlying31 info_int rfl (by decide) (by omega) (.slice Av own.length cv) own z [.int .i64 z] (fun q => Wg.heap.size ≤ q) (fun _ => False) rfl (by go_simp) rfl (fun _ h => h.elim) (fun k hk => Nat.le_trans HI.out.since.size hk) HI.out.own HI.out.below HI.out.below.size (by have := HOl2.out; omega) ?_; intro v7 w7 hR7 hB7 hg7 _; have HL := Aside0.mk (HI.out.pushed hR7 hB7 hg7); clear hR7 hB7 hg7)
                go_roundw
                case rel => exact ⟨j + 1, _, by omega, by go_num, by rw [cnt_old (by rw [HTe.out]; exact HTc.out)], rfl, by rw [HOw.out]; exact HL⟩
                case measure => simp [intOf]; omega
            · obtain rfl : i = k := by omega
              have HIl2 := HIl.out
              by_cases hz : z < 0
              · obtain ⟨hz1, hP⟩ := HZ.out.no hz
                subst hz1
                have HP := Aside0.mk hP
                have x0 := pw_cell_below HI.out.below HX.out.1
                have x1 := pw_cell_below HI.out.below HX.out.2
                have hil : (i : Int) < (l.length : Int) := by omega
                clear hP hz HZ
                go_wp2
                go_still_tail 8, (by kernel_rfl)
                change wpList _ _ _ _ _ wr.drew
                have HJ := Aside0.mk (HI.out.later (pw_below_drewN (Below.refl _ _) 1))
                replace HJ : Aside0 (IntsIn w Wg outs own vo v wr.drew) := HJ
                generalize wr.drew = wq at HJ ⊢
                clear HI x0 x1
                go_wp2_with fail
                refine (alike_any B d (sc l i) B d (sc l i) wq (Kd.C_below HB.out HJ.out.below) hd (Kd.C_below HB.out HJ.out.below) hd HSi.out.2 (fun p hp q hq => (HNg.out p hp q hq).1) (fun p hp q hq => (HNg.out p hp q hq).1) (by have := HSi.out.1; omega) (by have := HSi.out.1; omega)).mono ?_
                rintro e w2 ⟨A2, c2, rfl, hc2, hTab, hB2⟩
                have HI2 := Aside0.mk (HJ.out.later hB2)
                have HTab := Aside0.mk hTab
                have HTr := Aside0.mk (fun (p : Nat) (hp : p < (sc l i).nodes.length) => alkT_row (sc l i).nodes (sc l i).nodes hp)
                have HAk2 := Aside0.mk (fun (m : Nat) (hm : m < (sc l i).nodes.length) => HAo.out j m hjl hm)
                have HFx := Aside0.mk (HFi.out j hjl)
                rw [HTe.out] at HFx
                clear hB2 hTab HJ
                generalize alkT (sc l i).nodes (sc l i).nodes (sc l i).nodes.length = tab at HTab HTr HAk2
                have HTs := Aside0.mk (show (tab.getD j []).length = (sc l i).nodes.length from by rw [HTr.out j hjl]; simp)
                clear HTr
                obtain ⟨wk, hwk⟩ : ∃ wk : World, wk = w2 := ⟨_, rfl⟩
                rw [← hwk] at HTab
                have HSame := Aside0.mk (show Below wk.heap.size wk w2 from by rw [hwk]; exact Below.refl _ _)
                clear hwk
                go_wp2
                go_loopw [13, 8] (fun v13 v8 W => ∃ (m : Nat) (z : Int), m ≤ j ∧ v13 = .int .i64 m ∧ v8 = .int .i64 z ∧ Aside0 (Seek (cntF Oi (cA i) j) (∀ m' : Nat, m' < m → rd Oi (m' : Int) ≠ t) t z) ∧ Aside0 (Below wk.heap.size wk W) ∧ Aside0 (IntsIn w Wg outs own vo v W)) (fun v13 _ _ => j - (intOf v13).toNat)
                case atStart => exact ⟨0, -1, by omega, rfl, rfl, ⟨.inl ⟨rfl, fun k h => by omega⟩⟩, HSame, HI2⟩
                case round =>
                  clear HI2 HSame
                  obtain ⟨m, z, hm, rfl, rfl, HZ, HSm, HI⟩ := hrel
                  have x0 := pw_cell_below HI.out.below HX.out.1
                  by_cases hz : z < 0
                  · obtain ⟨hz1, hP4⟩ := HZ.out.no hz
                    subst hz1
                    have HP4 := Aside0.mk hP4
                    by_cases hml : m < j
                    · obtain ⟨a2, Bp, dp, rfl, o0, -, hCp⟩ := at_bools HTab.out j hjl
                      rw [HTs.out] at o0 hCp
                      obtain ⟨ap, rfl, o1⟩ := at_bool hCp m (by omega)
                      replace o0 := pw_cell_below HSm.out o0
                      replace o1 := pw_cell_below HSm.out o1
                      have hmi := HAk2.out m (by omega)
                      have hjk : (j : Int) < ((sc l i).nodes.length : Int) := by omega
                      have hmk : (m : Int) < ((sc l i).nodes.length : Int) := by omega
                      rw [HTe.out] at hmi
                      clear hP4 hCp hz HZ
                      cases hzb : (tab.getD j []).getD m false with
                      | false =>
                        rw [hzb] at o1 hmi
                        have HP5 := Aside0.mk (ext_lt HP4.out (fun e => by have := hmi.2 e.symm; cases this))
                        clear hzb hmi
                        go_wp2
                        go_roundw
                        case rel => exact ⟨m + 1, -1, by omega, by go_num, rfl, ⟨.inl ⟨rfl, HP5.out⟩⟩, HSm, HI⟩
                        case measure => simp [intOf]; omega
                      | true =>
                        rw [hzb] at o1 hmi
                        have he := hmi.1 rfl
                        obtain ⟨Av, cv, hv⟩ := Kd.R_slice HI.out.own
                        subst hv
                        obtain ⟨av, rfl, r1⟩ := at_nat (Kd.R_reads' HI.out.own).2.2 m (by have := HOl2.out.1; omega)
                        rw [HOl2.out.2.2 m hml, ← he] at r1
                        have hmo : (m : Int) < (own.length : Int) := by have := HOl2.out.1; omega
                        have hlt2 := HCi.out.1.lt (i := m) (m := j) hml (by omega)
                        have h02 := (HCi.out.1 m (by omega)).1
                        rw [← he] at hlt2 h02
                        have HS5 := Aside0.mk (show Seek (cntF Oi (cA i) j) (∀ m' : Nat, m' < m + 1 → rd Oi (m' : Int) ≠ t) t t from .inr ⟨rfl, h02, hlt2⟩)
                        clear hzb hmi he hlt2 h02
                        go_wp2
                        go_roundw
                        case rel => exact ⟨m + 1, t, by omega, by go_num, rfl, HS5, HSm, HI⟩
                        case measure => simp [intOf]; omega
                    · obtain rfl : j = m := by omega
                      have HTq := Aside0.mk (HFx.out HP.out hP4)
                      obtain ⟨Av, cv, hv⟩ := Kd.R_slice HI.out.own
                      subst hv
                      have hcb : cntF Oi (cA i) j ≤ 1000000000 + 400000 := by
                        have h1 : ∀ n : Nat, cntF Oi (cA i) n ≤ cA i + n := fun n => by
                          induction n with
                          | zero => exact Nat.le_refl _
                          | succ n ih =>
                            show (if rd Oi (n : Int) = (cntF Oi (cA i) n : Int) then cntF Oi (cA i) n + 1 else cntF Oi (cA i) n) ≤ cA i + (n + 1)
                            split <;> omega
                        have := h1 j
                        have := HCb.out
                        omega
                      have HTt := HTq.out
                      subst HTt
                      clear hP4 hz HZ
                      generalize hcn : cntF Oi (cA i) j = cn at hcb HTq
                      go_wp2_with (at_builtin; refine Kd.R_append (Kd.int .i64) (w0 := w) w.heap.size rfl (.tmp 114) (.tmp 116) 31 3 (.int .i64 0) 8 rfl Tryd.underlying31 info_int rfl (by decide) (by omega) (.slice Av own.length cv) own (cn : Int) [.int .i64 cn] (fun q => Wg.heap.size ≤ q) (fun _ => False) rfl (by go_simp) rfl (fun _ h => h.elim) (fun k hk => Nat.le_trans HI.out.since.size hk) HI.out.own HI.out.below HI.out.below.size (by have := HOl2.out; omega) ?_; intro v7 w7 hR7 hB7 hg7 _; have HL := Aside0.mk (HI.out.pushed hR7 hB7 hg7); clear hR7 hB7 hg7)
                      rw [← hcn] at HTq
                      go_roundw
                      case rel => exact ⟨j + 1, _, by omega, by go_num, by rw [cnt_new (by rw [HTe.out]), hcn]; go_num, rfl, by rw [HOw.out, hcn]; exact HL⟩
                      case measure => simp [intOf]; omega
                  · have d0 : decide (z < 0) = false := decide_eq_false hz
                    obtain ⟨hzt, ht0, htc⟩ := HZ.out.yes hz
                    subst hzt
                    have HTc := Aside0.mk htc
                    obtain ⟨Av, cv, hv⟩ := Kd.R_slice HI.out.own
                    subst hv
                    clear hz HZ htc
                    go_wp2_with (at_builtin; refine Kd.R_append (Kd.int .i64) (w0 := w) w.heap.size rfl (.tmp 114) (.tmp 116) 31 3 (.int .i64 0) 8 rfl Tryd.underlying31 info_int rfl (by decide) (by omega) (.slice Av own.length cv) own z [.int .i64 z] (fun q => Wg.heap.size ≤ q) (fun _ => False) rfl (by go_simp) rfl (fun _ h => h.elim) (fun k hk => Nat.le_trans HI.out.since.size hk) HI.out.own HI.out.below HI.out.below.size (by have := HOl2.out; omega) ?_; intro v7 w7 hR7 hB7 hg7 _; have HL := Aside0.mk (HI.out.pushed hR7 hB7 hg7); clear hR7 hB7 hg7)
                    all_goals
                      go_roundw
                      case rel => exact ⟨j + 1, _, by omega, by go_num, by rw [cnt_old (by rw [HTe.out]; exact HTc.out)], rfl, by rw [HOw.out]; exact HL⟩
                      case measure => simp [intOf]; omega
              · have d0 : decide (z < 0) = false := decide_eq_false hz
                obtain ⟨hzt, ht0, htc⟩ := HZ.out.yes hz
                subst hzt
                have HTc := Aside0.mk htc
                obtain ⟨Av, cv, hv⟩ := Kd.R_slice HI.out.own
                subst hv
                clear hz HZ htc
                go_wp2_with (at_builtin; refine Kd.R_append (Kd.int .i64) (w0 := w) w.heap.size rfl (.tmp 114) (.tmp 116) 31 3 (.int .i64 0) 8 rfl Tryd.underlying31 info_int rfl (by decide) (by omega) (.slice Av own.length cv) own z [.int .i64 z] (fun q => Wg.heap.size ≤ q) (fun _ => False) rfl (by go_simp) rfl (fun _ h => h.elim) (fun k hk => Nat.le_trans HI.out.since.size hk) HI.out.own HI.out.below HI.out.below.size (by have := HOl2.out; omega) ?_; intro v7 w7 hR7 hB7 hg7 _; have HL := Aside0.mk (HI.out.pushed hR7 hB7 hg7); clear hR7 hB7 hg7)
                go_roundw
                case rel => exact ⟨j + 1, _, by omega, by go_num, by rw [cnt_old (by rw [HTe.out]; exact HTc.out)], rfl, by rw [HOw.out]; exact HL⟩
                case measure => simp [intOf]; omega
        · obtain rfl : j = (sc l i).nodes.length := by omega
          have hol := HTk.out.1
          have e1 : Oi.take (sc l i).nodes.length = Oi := by rw [← HCi.out.2.2, List.take_length]
          rw [e1] at HI
          have e2 := HCi.out.2.1
          obtain ⟨Av, cv, hv⟩ := Kd.R_slice HI.out.own
          subst hv
          rw [e2]
          have HE2 := Aside0.mk e2
          clear e1 e2 x1
          go_wp2_with (at_builtin; refine Kd.R_append kInts (w0 := w) w.heap.size rfl (.tmp 118) (.tmp 120) 25 31 (.slice none 0 0) 24 rfl Tryd.underlying25 infoInts rfl (by decide) (by omega) vo outs Oi [.slice Av Oi.length cv] (fun _ => True) (fun q => Wg.heap.size ≤ q) rfl (by go_simp) ⟨_, rfl, HI.out.own⟩ (fun k hk => ⟨trivial, fun e => by have := HI.out.out.1 k e.symm; omega⟩) (fun _ _ => trivial) (Kd.R_mono HI.out.out (fun _ _ => trivial)) HI.out.below HI.out.below.size (by omega) ?_; intro v7 w7 hR7 hB7 hg7 _; have HL := Aside0.mk (IntsOut.mk hR7 hB7); clear hR7 hB7 hg7)
          go_roundw
          case rel => exact ⟨i + 1, _, by omega, by go_num, rfl, rfl, by rw [HOi.out]; exact HL⟩
          case measure => simp [intOf]; omega
    · obtain rfl : i = l.length := by omega
      go_wp2
      go_ret
      exact RowPost.mk (by have := HO.out.out; rwa [← HOl.out, List.take_length] at this) HO.out.below
end Go.Proofs.YtdfneldenipljaaDoor.L
end
section
namespace Go.Proofs.YtdfneldenipljaaDoor.L
open Go.RowKit Go.ChangeShapes Go.WideShapes Go.Proofs.YtdfneldenipljaaDoorW.PrintWords Go.Proofs.YtdfneldenipljaaDoorW.PrintLast Go.Proofs.YtdfneldenipljaaDoorW.PrintMore
attribute [local go_sem] max2_int min2_int max_two min_two max_three min_three max_four min_four
set_option maxRecDepth 100000 in
set_option maxHeartbeats 8000000 in
theorem classNumbers_any (T : Lib.PrintTabs) (A : Option Addr) (c : Nat) (l : List Scene) (w : World) (h : kScene.C w A l.length l) (hc : l.length ≤ c) (hN : ∀ i : Nat, i < l.length → ∀ j : Nat, j < (sc l i).nodes.length → NBd (nd (sc l i).nodes j)) (hT : QTabs T w) :
    Calls Tryd.prog 3 #[.slice A l.length c] w fun e w' => e = .returned (.bool true) ∧ Below w.heap.size w w' := by
  have HR := Aside0.mk h
  have HN := Aside0.mk hN
  have HT := Aside0.mk hT
  have b0 := h.2.1
  clear h hN hT
  go_enter Tryd.func3, Tryd.ntmps3
  go_wp2_with fail
  refine (cawake_any T _ HT.out).mono ?_
  rintro e w1 ⟨rfl, hB1⟩
  have HB1 := Aside0.mk hB1
  clear hB1
  go_wp2_with fail
  refine (great19_any A c l _ (Kd.C_below HR.out HB1.out)).mono ?_
  rintro e w2 ⟨rfl, hB2⟩
  have HB2 := Aside0.mk (below_step HB1.out hB2)
  clear hB2 HB1
  cases hg : great19 l with
  | true =>
    clear hg
    go_wp2_with fail
    refine (cawake_any T _ (HT.out.below HB2.out)).mono ?_
    rintro e w3 ⟨rfl, hB3⟩
    have HB3 := Aside0.mk (below_step HB2.out hB3)
    clear hB3
    go_wp2
    go_ret
    exact ⟨rfl, HB3.out⟩
  | false =>
    have HG := Aside0.mk (great19_bd hg HN.out)
    have hl4 : l.length ≤ 4 := HG.out.1
    clear hg
    go_wp2_with (at_builtin; refine Kd.R_append_rows (elder kScene w) (Rr := kScene.K w) (w0 := w2) w2.heap.size rfl (.tmp 15) (.tmp 16) 22 34 (.agg #[.slice none 0 0, .int .i64 0]) 32 rfl Tryd.underlying22 info_sc rfl (show 0 < 2 from by decide) (by omega) (.slice (some ⟨w2.heap.size, 0, none⟩) 0 0) [] l _ _ _ (fun _ => True) (fun _ => False) rfl rfl (R_empty _ _ _ _ (Nat.le_refl _)) (rows_later HR.out (below_alloc HB2.out _)) (fun _ _ h => h) (fun _ h => h.elim) (fun _ _ => trivial) (below_alloc (Below.refl _ _) _) (by simp) (by simp; omega) ?_; intro v4 w4 hR4 hB4 _ _; have HR4 := Aside0.mk hR4; have HB4 := Aside0.mk hB4; clear hR4 hB4; obtain ⟨A4, c4, hv4⟩ := Kd.R_slice (show Kd.R (elder kScene w) 34 w4 w2.heap.size (fun _ => True) v4 l from HR4.out); subst hv4)
    have HB4 := Aside0.mk (below_step HB2.out HB4.out)
    have HC4 := Aside0.mk (elder_C HB4.out (Kd.R_reads' (show Kd.R (elder kScene w) 34 w4 w2.heap.size (fun _ => True) (.slice A4 l.length c4) l from HR4.out)).2.2)
    have HOl := Aside0.mk (all_len T l.length l rfl)
    clear HR4 HB2
    refine (numbers_any T A4 c4 l w4 HC4.out (fun i hi => (HG.out.2 i hi).1) (by omega) (HT.out.below HB4.out)).mono ?_
    rintro e w5 ⟨hB5, (⟨hall, v, rfl, hR5⟩ | ⟨hbad, rfl⟩)⟩
    · have HIc := Aside0.mk (show allC l = true from decide_eq_true hall)
      have HAl := Aside0.mk hall
      obtain ⟨A5, c5, hv5⟩ := Kd.R_slice hR5
      subst hv5
      have HB5 := Aside0.mk (below_step HB4.out hB5)
      have HL5 := Aside0.mk (Kd.R_reads' hR5).2.2
      clear hR5 hB5 HC4 HB4 hall
      rw [HOl.out]
      rw [HOl.out] at HL5
      go_wp2_with fail
      refine (is19_any A c l _ (Kd.C_below HR.out HB5.out) (fun i hi => (HG.out.2 i hi).1)).mono ?_
      rintro e w6 ⟨rfl, hB6⟩
      have HL6 := Aside0.mk (Kd.C_below HL5.out hB6)
      have HB6 := Aside0.mk (below_step HB5.out hB6)
      rw [HIc.out]
      clear hB6 HB5 HL5
      go_wp2_with fail
      refine (rnumbers_any T A c l _ (Kd.C_below HR.out HB6.out) (fun s hs => by
        obtain ⟨k, hk, rfl⟩ := List.getElem_of_mem hs
        have e : sc l k = l[k] := by unfold sc; rw [getD_eq _ hk]
        rw [← e]
        exact fun p hp q hq => isC_ahead (isC_right (HAl.out k hk)) (HAl.out k hk) hp hq) (fun i hi => ⟨by have := (HG.out.2 i hi).2; omega, fun j hj => ((HG.out.2 i hi).1.1 j hj).1⟩) (by omega)).mono ?_
      rintro e w7 ⟨A7, c7, rfl, hR7, hB7⟩
      have HL7 := Aside0.mk (Kd.C_below HL6.out hB7)
      have HM7 := Aside0.mk (Kd.R_reads' hR7).2.2
      have HB7 := Aside0.mk (below_step HB6.out hB7)
      clear hR7 hB7 HL6 HB6
      rw [HOl.out]
      rw [HOl.out] at HM7
      generalize (allS T l).2 = O at HOl HL7 HM7
      go_wp2
      go_loopw [44] (fun v44 W => ∃ i : Nat, i ≤ l.length ∧ v44 = .int .i64 i ∧ Drawn0 w7 W) (fun v44 _ => l.length - (intOf v44).toNat)
      case atStart => exact ⟨0, by omega, rfl, Drawn0.refl _⟩
      case round =>
        obtain ⟨i, hi, rfl, ⟨m, rfl⟩⟩ := hrel
        have hbm := pw_below_drewN (Below.refl w7.heap.size w7) m
        by_cases hlt : i < l.length
        · obtain ⟨ad, B, d, rfl, x0, -, hC⟩ := at_ints HL7.out i hlt
          obtain ⟨bd, E, g, rfl, y0, -, hD⟩ := at_ints HM7.out i hlt
          replace x0 := pw_cell_below hbm x0
          replace y0 := pw_cell_below hbm y0
          have HC := Aside0.mk (Kd.C_below hC hbm)
          have HD := Aside0.mk (Kd.C_below hD hbm)
          have hil : (i : Int) < (l.length : Int) := by omega
          clear hC hD hbm
          generalize O.getD i [] = own at x0 y0 HC HD
          generalize hwm : w7.drewN m = wm at x0 y0 HC HD ⊢
          go_wp2
          go_quiet (first | (go_at_call 18; with_reducible exact ints_same B d own E g wm HC.out HD.out _))
          go_wp2
          go_roundw
          case rel => exact ⟨i + 1, by omega, by go_num, by rw [← hwm]; exact ⟨m + nq, by simp [World.drewN_drewN]⟩⟩
          case measure => simp [intOf]; omega
        · obtain rfl : i = l.length := by omega
          go_wp2
          go_ret
          exact ⟨rfl, below_step HB7.out hbm⟩
    · have HIc := Aside0.mk (show allC l = false from decide_eq_false (fun hh => by
        obtain ⟨i, hi, hb⟩ := hbad
        rw [hh i hi] at hb
        cases hb))
      have HB5 := Aside0.mk (below_step HB4.out hB5)
      clear hB5 HC4 HB4 hbad
      go_wp2_with fail
      refine (is19_any A c l _ (Kd.C_below HR.out HB5.out) (fun i hi => (HG.out.2 i hi).1)).mono ?_
      rintro e w6 ⟨rfl, hB6⟩
      have HB6 := Aside0.mk (below_step HB5.out hB6)
      rw [HIc.out]
      clear hB6 HB5
      go_wp2
      go_ret
      exact ⟨rfl, HB6.out⟩
end Go.Proofs.YtdfneldenipljaaDoor.L
end
section
namespace Go.Proofs.YtdfneldenipljaaDoor.L
open Go.RowKit Go.ChangeShapes Go.WideShapes Go.Proofs.YtdfneldenipljaaDoorW.PrintWords Go.Proofs.YtdfneldenipljaaDoorW.PrintLast Go.Proofs.YtdfneldenipljaaDoorW.PrintMore
attribute [local go_sem] max2_int min2_int max_two min_two max_three min_three max_four min_four
namespace classNumbers
open Go.ChangeShapes Go.WideShapes Go.ChangeAt Go.RowKit
set_option maxRecDepth 100000 in
theorem lifted (os : Os) (started : os.Started) (H : Type) (enc : TypeId × Value → H) :
    ReturnsInHanded {} Tryd.checked os 3 .any (fun w args => (Rows.classNumbersSpec.pre enc Tryd.prog Tryd.f3 [] false w args ∧ laidMetH Tryd.prog rowLaid w) ∧ sizedMet enc Tryd.prog Tryd.f3 (OpenSpec.ofChange Rows.classNumbersSpec) false w args)
      (Rows.classNumbersSpec.post enc Tryd.prog Tryd.f3 false true false false) := by
  refine returnsInHanded_of_change_and (C := Tryd.checked) (X := fun w _ => laidMetH Tryd.prog rowLaid w) (fun _ _ _ hh h => h.of_heap hh) own started (by kernel_rfl) Tryd.func3
    (ChangeSpec.witness_shaped (enc := enc) (C := Tryd.checked) (os := os) (X := fun w _ => laidMetH Tryd.prog rowLaid w) false (World.laidAll Tryd.prog os rowLaid) #[.slice none 0 0] 8 (World.laidAll_os _ _ _)
      (World.shaped_of_ZipB (by kernel_rfl) (by kernel_rfl)) (by kernel_rfl) (by kernel_rfl) (by kernel_rfl) (laid_met os _)) ?_
  intro W base args ds gs before hval0 hW hc _ hL _
  have hval : ∀ (j : Nat) t v, (Tryd.f3).params[j]? = some t → args[j]? = some v → Value.okWide Tryd.prog W .any base t v := hval0
  have hW' := hW
  obtain ⟨p, q, hA0, hV, rfl, hfz, hnd⟩ := hW
  have hA : DataW.TrodAll enc Tryd.prog W 0 (fun _ => true) true (Tryd.f3).params.toList args.toList ds p := hA0
  rw [Tryd.params3] at hA hval
  obtain ⟨v0, vs0, d0, ds0, p0, q0, hargs, rfl, rfl, h0, r0⟩ := trodAll_cons hA
  obtain ⟨rfl, rfl, rfl⟩ := trodAll_nil r0
  obtain rfl : args = #[v0] := by cases args; simp_all
  obtain ⟨rfl, rfl⟩ := trodVars_none hV
  have lt0 : ∀ x ∈ p0, x.block < W.heap.size := by obtain ⟨m, hm⟩ := h0; exact DataW.trod_lt m _ _ _ hm
  obtain ⟨A0, l0, c0, rfl, hlc0, hC0, hg0⟩ := Opens.arg_slice Tryd.underlying22 (opens_slice (e' := 34) Tryd.underlying22 (by kernel_rfl) opens_sceneB) (hval 0 22 v0 rfl rfl) h0
  clear hA0 hval0
  refine (classNumbers_any Lib.goPrintTabs A0 c0 l0 W hC0 hlc0 (fun i hi => hg0.2 _ (sc_mem hi)) (qtabs_of_laid hL)).mono fun e W' ⟨he, bel⟩ => ?_
  subst he
  exact ⟨_, rfl, _, _, _, [], _, [], hW', trodAll_mk1 (shut_bool Tryd.underlying4 _), (trodAll_cons_mk (Below.trod laidOut (by kernel_rfl) (of_decide_eq_true (by kernel_rfl)) h0 bel lt0) trodAll_mk0), rfl, bel.frame _, fun h => by cases h⟩
theorem over : Rows.ClassNumbersSaid :=
  OpenClaim.holds_of_wide 3 Tryd.f3 rfl rfl rfl rfl rfl rfl rfl ⟨rfl, rfl, rfl, rfl, rfl⟩ rfl rfl rfl rfl rfl (by kernel_rfl) Tryd.func3 (by kernel_rfl)
    (of_decide_eq_true (by kernel_rfl)) (by unfold Func.isWrapper; first | (rw [if_pos (by decide +kernel)]; kernel_rfl) | (rw [if_neg (by decide +kernel)]; exact ⟨rfl, rfl⟩))
    (fun os started H enc _ => lifted os started H enc)
theorem card_holds : Rows.ClassNumbersCardSaid :=
  Claim7.holds_tied_plain_at .later [] [.data, .data, .data, .data, .pinned, .pinned, .pinned, .pinned, .pinned, .pinned] true (true, "6733ca2e7fb67cc65005b080e6ff8756d91017a8676886b3aaa4db3429368ce6") false over (fun _ h => by cases h) (by kernel_rfl) (fun _ h => by cases h) classNumbers_row_tie rfl ⟨rfl, rfl⟩ (by kernel_rfl) rfl
    (fun f fn hf hfn => by
      obtain rfl : f = 3 := Option.some.inj ((show Tryd.prog.funcNamed "diorama/dioramalaw19.ClassNumbers" = some 3 by kernel_rfl).symm.trans hf) |>.symm
      obtain rfl : fn = Tryd.f3 := (Option.some.inj ((Tryd.func3).symm.trans hfn)).symm
      exact ⟨by kernel_rfl, fun j t ht => by
        rw [Tryd.params3] at ht
        have hm : t ∈ [22] := by simpa using Array.mem_of_getElem? ht
        have hall : ([22].all fun u => !Tryd.prog.wantsStandIn u) = true := by kernel_rfl
        exact (show Tryd.prog.wantsStandIn t = false by simpa using List.all_eq_true.1 hall t hm)⟩)
    (by kernel_rfl)
#print axioms card_holds
end classNumbers
end Go.Proofs.YtdfneldenipljaaDoor.L
end
