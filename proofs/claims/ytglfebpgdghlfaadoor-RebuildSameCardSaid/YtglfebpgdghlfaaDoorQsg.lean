/- All nodes of a whole scene kept place by place are it by rebuild.Apply, and all of them new are it, too; conditions: none (every two scenes; the two tables of unicode/utf8 read as the program's text lays them, and the card ties that). Conditions: those that each theorem states. -/
import Derived.Test.YtglfebpgdghlfaaDoorQsf
import Derived.Test.YtglfebpgdghlfaaDoorCards
import Derived.Test.YtglfebpgdghlfaaDoorTie
import Derived.OpenShut
import Derived.ChangeOld
import Derived.SizedLaws
import Derived.LaidMore
import Derived.Lay
import Derived.SevenTiedAt
import Derived.Stop.Joined
import Derived.Lib.LaidU8
set_option linter.unusedVariables false
set_option linter.unusedSimpArgs false
section
namespace Go.Proofs.YtglfebpgdghlfaaDoor.L
open Go.RowKit Go.ChangeShapes Go.WideShapes Go.Proofs.YtglfebpgdghlfaaDoorW.PrintWords Go.Proofs.YtglfebpgdghlfaaDoorW.PrintLast Go.Proofs.YtglfebpgdghlfaaDoorW.PrintMore
attribute [local go_sem] max2_int min2_int max_two min_two max_three min_three max_four min_four
open Go.Proofs.YtglfebpgdghlfaaDoor.PUpgradeUps
theorem refN_len (ns : List Node) (l : List Int) : (refCanL ns l).length = l.length := by simp [refCanL]
theorem take_succ_map {α β : Type} (f : α → β) (l : List α) (i : Nat) (h : i < l.length) : (l.map f).take (i + 1) = (l.map f).take i ++ [f l[i]] := by
  rw [List.take_succ_eq_append_getElem (by simpa using h)]
  simp
set_option maxRecDepth 100000 in
set_option maxHeartbeats 8000000 in
theorem rcanon_any (A : Option Addr) (c : Nat) (s : Scene) (l : List Int) (k : Nat) (w : World) (h : kNode.C w A s.nodes.length s.nodes) (hc : s.nodes.length ≤ c) (hS : ∀ i : Nat, i < s.nodes.length → Small (nd s.nodes i))
    (ho : dioramaref10_Order.f k (s.nodes.map toS) s.root = some l) (hl : l.length ≤ 1000000) (hp : ∀ x ∈ l, 0 ≤ x ∧ x < (s.nodes.length : Int)) :
    Calls Tryd.prog 33 #[.agg #[.slice A s.nodes.length c, .int .i64 s.root]] w (SceneRPost ⟨refCanL s.nodes l, (l.length : Int) - 1⟩ w) := by
  have HR := Aside0.mk h
  have HSm := Aside0.mk hS
  have HO := Aside0.mk ho
  have HP := Aside0.mk hp
  have HCc := Aside0.mk hc
  have b0 := h.2.1
  have HB := Aside0.mk (below_alloc (below_alloc (Below.refl w.heap.size w) (.cells #[.slice A s.nodes.length c, .int .i64 s.root] 39)) (.cells #[.slice none 0 0, .int .i64 0] 39))
  have k0 := box_cell2 w _ rfl #[.slice A s.nodes.length c, .int .i64 s.root] 39 (.cells #[.slice none 0 0, .int .i64 0] 39) 0 (.slice A s.nodes.length c) rfl
  have k1 := box_cell2 w _ rfl #[.slice A s.nodes.length c, .int .i64 s.root] 39 (.cells #[.slice none 0 0, .int .i64 0] 39) 1 (.int .i64 s.root) rfl
  have HL := Aside0.mk (show ((w.alloc (.cells #[.slice A s.nodes.length c, .int .i64 s.root] 39)).alloc (.cells #[.slice none 0 0, .int .i64 0] 39)).heap[w.heap.size + 1]? = some (.cells #[.slice none 0 0, .int .i64 0] 39 (0, 0)) from by
    have := heap_alloc_new (w.alloc (.cells #[.slice A s.nodes.length c, .int .i64 s.root] 39)) (.cells #[.slice none 0 0, .int .i64 0] 39)
    simpa using this)
  have hu := Tryd.underlying39
  have hun := Tryd.underlying26
  clear h hc hS ho hp
  go_enter Tryd.func33, Tryd.ntmps33
  go_wp2_with fail
  have hml : (s.nodes.map toS).length = s.nodes.length := List.length_map ..
  have hcall := dioramaref10_Order.calls k A c (s.nodes.map toS) s.root l ((w.alloc (.cells #[.slice A s.nodes.length c, .int .i64 s.root] 39)).alloc (.cells #[.slice none 0 0, .int .i64 0] 39)) (by rw [hml]; exact C_to (Kd.C_below HR.out HB.out)) (by rw [hml]; exact HCc.out) HO.out
  rw [hml] at hcall
  refine hcall.mono ?_
  clear hcall hml
  rintro e w1 ⟨v, rfl, hV, hB1⟩
  obtain ⟨A3, c3, rfl⟩ := Kd.V_slice hV
  have HV := Aside0.mk (Kd.V_reads' hV)
  have hlc : l.length ≤ c3 := HV.out.2.1
  have HB1 := Aside0.mk (below_step HB.out hB1)
  have HL1 := Aside0.mk ((hB1.block _ (blk_lt HL.out)).trans HL.out)
  have HK1 := Aside0.mk (pw_cell_below hB1 k0)
  have HI := Aside0.mk (CnRel.start w1 ((l.length : Int) - 1))
  have hw1 : IntKind.i64.wrap ((l.length : Int) - 1) = (l.length : Int) - 1 := wrap_i (by omega) (by omega)
  clear hV hB1 k0 k1 HL HB
  go_wp2
  generalize w1.alloc (.cells #[.slice none 0 0, .int .i64 ((l.length : Int) - 1)] 39) = W5 at HI ⊢
  go_loopw [5] (fun v5 W => ∃ i : Nat, i ≤ l.length ∧ v5 = .int .i64 i ∧ ∃ A4 c4, Aside0 (CnRel w1 ((l.length : Int) - 1) ((refCanL s.nodes l).take i) (.slice A4 i c4) W)) (fun v5 _ => l.length - (intOf v5).toNat)
  case atStart => exact ⟨0, by omega, rfl, none, 0, by rw [List.take_zero]; exact HI⟩
  case round =>
    clear HI
    obtain ⟨i, hi, rfl, A4, c4, HI⟩ := hrel
    by_cases hlt : i < l.length
    · obtain ⟨adl, rfl, z0⟩ := at_nat (Kd.C_below HV.out.2.2 HI.out.below) i hlt
      have hpi := HP.out _ (rd_mem hlt)
      obtain ⟨q, hq⟩ : ∃ q : Nat, rd l (i : Int) = (q : Int) := ⟨(rd l (i : Int)).toNat, by omega⟩
      rw [hq] at z0 hpi
      have hqn : q < s.nodes.length := by omega
      have HRN : Aside0 ((refCanL s.nodes l).take (i + 1) = (refCanL s.nodes l).take i ++ [⟨(nd s.nodes q).kind, (nd s.nodes q).ints, (nd s.nodes q).texts, (nd s.nodes q).kids.map (findI l)⟩]) := ⟨by
        unfold refCanL
        rw [take_succ_map _ _ _ hlt]
        have : l[i] = (q : Int) := by rw [← hq, rd_eq hlt]
        rw [this]; unfold refN; rw [Int.toNat_natCast]⟩
      clear hq hpi
      obtain ⟨adn, A1, c1, A2, c2, A5, c5, rfl, x0, x1, x2, x3, hN⟩ := at_node HR.out q hqn
      have k0 := pw_cell_below HI.out.below HK1.out
      have HW := Aside0.mk (below_step HB1.out HI.out.below)
      replace x0 := pw_cell_below HW.out x0
      replace x1 := pw_cell_below HW.out x1
      replace x2 := pw_cell_below HW.out x2
      replace x3 := pw_cell_below HW.out x3
      have HN := Aside0.mk hN
      clear hN
      have HSq := Aside0.mk (HSm.out q hqn)
      have hbz : (wr.alloc (.cells #[.int .i64 0, .slice none 0 0, .slice none 0 0, .slice none 0 0] 26)).drew.heap[wr.heap.size]? = some (.cells #[.int .i64 0, .slice none 0 0, .slice none 0 0, .slice none 0 0] 26 (0, 0)) := by
        show (wr.alloc _).heap[wr.heap.size]? = _
        simpa using heap_alloc_new wr _
      have HBZ := Aside0.mk hbz
      have hbA := below_drew (below_alloc (Below.refl wr.heap.size wr) (.cells #[.int .i64 0, .slice none 0 0, .slice none 0 0, .slice none 0 0] 26))
      have HBA := Aside0.mk hbA
      have n0 : wr.heap.size ≠ w.heap.size := World.new_ne wr _ k0
      have n1 := World.new_ne wr _ z0
      have n2 := World.new_ne wr _ x0
      clear hbz hbA
      have k0d : wr.drew.cell? ⟨w.heap.size, 0, none⟩ = some (.slice (some adn) s.nodes.length c) := k0
      have k0a : (wr.alloc (.cells #[.int .i64 0, .slice none 0 0, .slice none 0 0, .slice none 0 0] 26)).drew.cell? ⟨w.heap.size, 0, none⟩ = some (.slice (some adn) s.nodes.length c) := pw_cell_below HBA.out k0
      have z0d : wr.drew.cell? (adl.add i) = some (.int .i64 q) := z0
      have z0a : (wr.alloc (.cells #[.int .i64 0, .slice none 0 0, .slice none 0 0, .slice none 0 0] 26)).drew.cell? (adl.add i) = some (.int .i64 q) := pw_cell_below HBA.out z0
      have x0d : wr.drew.cell? (adn.add (q * 4)) = some (.int .i64 (nd s.nodes q).kind) := x0
      have x0a : (wr.alloc (.cells #[.int .i64 0, .slice none 0 0, .slice none 0 0, .slice none 0 0] 26)).drew.cell? (adn.add (q * 4)) = some (.int .i64 (nd s.nodes q).kind) := pw_cell_below HBA.out x0
      have x1d : wr.drew.cell? ⟨(adn.add (q * 4)).block, (adn.add (q * 4)).off + 1, none⟩ = some (.slice A1 (nd s.nodes q).ints.length c1) := x1
      have x1a : (wr.alloc (.cells #[.int .i64 0, .slice none 0 0, .slice none 0 0, .slice none 0 0] 26)).drew.cell? ⟨(adn.add (q * 4)).block, (adn.add (q * 4)).off + 1, none⟩ = some (.slice A1 (nd s.nodes q).ints.length c1) := pw_cell_below HBA.out x1
      have x2d : wr.drew.cell? ⟨(adn.add (q * 4)).block, (adn.add (q * 4)).off + 2, none⟩ = some (.slice A2 (nd s.nodes q).texts.length c2) := x2
      have x2a : (wr.alloc (.cells #[.int .i64 0, .slice none 0 0, .slice none 0 0, .slice none 0 0] 26)).drew.cell? ⟨(adn.add (q * 4)).block, (adn.add (q * 4)).off + 2, none⟩ = some (.slice A2 (nd s.nodes q).texts.length c2) := pw_cell_below HBA.out x2
      have x3d : wr.drew.cell? ⟨(adn.add (q * 4)).block, (adn.add (q * 4)).off + 3, none⟩ = some (.slice A5 (nd s.nodes q).kids.length c5) := x3
      have x3a : (wr.alloc (.cells #[.int .i64 0, .slice none 0 0, .slice none 0 0, .slice none 0 0] 26)).drew.cell? ⟨(adn.add (q * 4)).block, (adn.add (q * 4)).off + 3, none⟩ = some (.slice A5 (nd s.nodes q).kids.length c5) := pw_cell_below HBA.out x3
      go_wp2
      go_region_held3 (fun W => W.cell? ⟨w.heap.size, 0, none⟩ = some (.slice (some adn) s.nodes.length c) ∧ W.cell? (adl.add i) = some (.int .i64 q) ∧ W.cell? (adn.add (q * 4)) = some (.int .i64 (nd s.nodes q).kind) ∧ W.cell? ⟨(adn.add (q * 4)).block, (adn.add (q * 4)).off + 1, none⟩ = some (.slice A1 (nd s.nodes q).ints.length c1) ∧ W.cell? ⟨(adn.add (q * 4)).block, (adn.add (q * 4)).off + 2, none⟩ = some (.slice A2 (nd s.nodes q).texts.length c2) ∧ W.cell? ⟨(adn.add (q * 4)).block, (adn.add (q * 4)).off + 3, none⟩ = some (.slice A5 (nd s.nodes q).kids.length c5))
        (first
          | (go_split_ands
             (repeat' apply And.intro)
             all_goals first
               | with_reducible assumption
               | with_reducible exact pw_cell_below hB (by assumption)
               | with_reducible exact pw_cell_below (below_alloc (Below.refl _ _) _) (pw_cell_below hB k0d)
               | with_reducible exact pw_cell_below (below_alloc (Below.refl _ _) _) (pw_cell_below hB z0d)
               | with_reducible exact pw_cell_below (below_alloc (Below.refl _ _) _) (pw_cell_below hB x0d)
               | with_reducible exact pw_cell_below (below_alloc (Below.refl _ _) _) (pw_cell_below hB x1d)
               | with_reducible exact pw_cell_below (below_alloc (Below.refl _ _) _) (pw_cell_below hB x2d)
               | with_reducible exact pw_cell_below (below_alloc (Below.refl _ _) _) (pw_cell_below hB x3d)
               | with_reducible exact far_set (far_set (far_set (far_set (by assumption) _ _ (by assumption) _) _ _ (by assumption) _) _ _ (by assumption) _) _ _ (by assumption) _
               | (simp [*]; done)))
        (first
          | (go_at_call 13; refine (rcopy_any (nd s.nodes q) A1 c1 A2 c2 A5 c5 wr.drew (HN.out.below (below_drew HW.out)) HSq.out).mono ?_; rintro e w6 ⟨_, rfl, ⟨v1, v2, v3, rfl, hM⟩, hB⟩; obtain ⟨v1', v2', v3', ev, hR1, hR2, hR3⟩ := kNode_openM hM; injection ev with _ ev; injection ev with e1 ev; injection ev with e2 ev; injection ev with e3 _; subst e1 e2 e3; obtain ⟨B1, d1, rfl⟩ := Kd.R_slice hR1; obtain ⟨B2, d2, rfl⟩ := Kd.R_slice hR2; obtain ⟨B3, d3, rfl⟩ := Kd.R_slice hR3)
          | (go_at_call 13; refine (rcopy_any (nd s.nodes q) A1 c1 A2 c2 A5 c5 (wr.alloc (.cells #[.int .i64 0, .slice none 0 0, .slice none 0 0, .slice none 0 0] 26)).drew (HN.out.below (below_step HW.out HBA.out)) HSq.out).mono ?_; rintro e w6 ⟨_, rfl, ⟨v1, v2, v3, rfl, hM⟩, hB⟩; obtain ⟨v1', v2', v3', ev, hR1, hR2, hR3⟩ := kNode_openM hM; injection ev with _ ev; injection ev with e1 ev; injection ev with e2 ev; injection ev with e3 _; subst e1 e2 e3; obtain ⟨B1, d1, rfl⟩ := Kd.R_slice hR1; obtain ⟨B2, d2, rfl⟩ := Kd.R_slice hR2; obtain ⟨B3, d3, rfl⟩ := Kd.R_slice hR3; have hb6 := (hB.block _ (blk_lt HBZ.out)).trans HBZ.out; have f0 := (blk_cell hb6 0).trans rfl; have f0f := blk_frozen hb6 0; have f1 := (blk_cell (blk_set hb6 0 (.int .i64 (nd s.nodes q).kind)) 1).trans rfl; have f1f := blk_frozen (blk_set hb6 0 (.int .i64 (nd s.nodes q).kind)) 1; have f2 := (blk_cell (blk_set (blk_set hb6 0 (.int .i64 (nd s.nodes q).kind)) 1 (.slice B1 (nd s.nodes q).ints.length d1)) 2).trans rfl; have f2f := blk_frozen (blk_set (blk_set hb6 0 (.int .i64 (nd s.nodes q).kind)) 1 (.slice B1 (nd s.nodes q).ints.length d1)) 2; have f3 := (blk_cell (blk_set (blk_set (blk_set hb6 0 (.int .i64 (nd s.nodes q).kind)) 1 (.slice B1 (nd s.nodes q).ints.length d1)) 2 (.slice B2 (nd s.nodes q).texts.length d2)) 3).trans rfl; have f3f := blk_frozen (blk_set (blk_set (blk_set hb6 0 (.int .i64 (nd s.nodes q).kind)) 1 (.slice B1 (nd s.nodes q).ints.length d1)) 2 (.slice B2 (nd s.nodes q).texts.length d2)) 3))
      have HK : Aside0 (KidB (findI l) (nd s.nodes q) (.slice B1 (nd s.nodes q).ints.length d1) (.slice B2 (nd s.nodes q).texts.length d2) (.slice B3 (nd s.nodes q).kids.length d3) 0 w6.heap.size wr (w6.alloc (.cells #[.int .i64 (nd s.nodes q).kind, .slice B1 (nd s.nodes q).ints.length d1, .slice B2 (nd s.nodes q).texts.length d2, .slice B3 (nd s.nodes q).kids.length d3] 26))) := ⟨⟨below_step ((below_drew (Below.refl _ _)).trans hB) (below_alloc (Below.refl _ _) _), hB.size, by simpa using heap_alloc_new w6 _, Kd.R_alloc hR1 _, Kd.R_alloc hR2 _, by rw [mapTake_zero]; exact Kd.R_alloc hR3 _⟩⟩
      clear hM hR1 hR2 hR3 hB k0 z0 x0 x1 x2 x3 k0d z0d x0d x1d x2d x3d k0a z0a x0a x1a x2a x3a n0 n1 n2
      generalize (w6.alloc (.cells #[.int .i64 (nd s.nodes q).kind, .slice B1 (nd s.nodes q).ints.length d1, .slice B2 (nd s.nodes q).texts.length d2, .slice B3 (nd s.nodes q).kids.length d3] 26)) = W7 at HK ⊢
      generalize w6.heap.size = g6 at HK ⊢
      rotate_left
      have HK : Aside0 (KidB (findI l) (nd s.nodes q) (.slice B1 (nd s.nodes q).ints.length d1) (.slice B2 (nd s.nodes q).texts.length d2) (.slice B3 (nd s.nodes q).kids.length d3) 0 wr.heap.size wr ((((w6.setCell ⟨wr.heap.size, 0, none⟩ (.int .i64 (nd s.nodes q).kind)).setCell ⟨wr.heap.size, 1, none⟩ (.slice B1 (nd s.nodes q).ints.length d1)).setCell ⟨wr.heap.size, 2, none⟩ (.slice B2 (nd s.nodes q).texts.length d2)).setCell ⟨wr.heap.size, 3, none⟩ (.slice B3 (nd s.nodes q).kids.length d3))) := ⟨by
        have hlt2 : wr.heap.size < (wr.alloc (.cells #[.int .i64 0, .slice none 0 0, .slice none 0 0, .slice none 0 0] 26)).drew.heap.size := by show _ < (wr.alloc _).heap.size; simp
        exact ⟨below_set4 (below_step HBA.out hB) (Nat.le_refl _), Nat.le_refl _, box4 hb6 _ _ _ _, Kd.R_lower (R_old4 hR1 hlt2 _ _ _ _) (Nat.le_of_lt hlt2), Kd.R_lower (R_old4 hR2 hlt2 _ _ _ _) (Nat.le_of_lt hlt2), by rw [mapTake_zero]; exact Kd.R_lower (R_old4 hR3 hlt2 _ _ _ _) (Nat.le_of_lt hlt2)⟩⟩
      clear hM hR1 hR2 hR3 hB k0 z0 x0 x1 x2 x3 k0d z0d x0d x1d x2d x3d k0a z0a x0a x1a x2a x3a n0 n1 n2 hb6 f0 f0f f1 f1f f2 f2f f3 f3f
      generalize ((((w6.setCell ⟨wr.heap.size, 0, none⟩ (.int .i64 (nd s.nodes q).kind)).setCell ⟨wr.heap.size, 1, none⟩ (.slice B1 (nd s.nodes q).ints.length d1)).setCell ⟨wr.heap.size, 2, none⟩ (.slice B2 (nd s.nodes q).texts.length d2)).setCell ⟨wr.heap.size, 3, none⟩ (.slice B3 (nd s.nodes q).kids.length d3)) = W7 at HK ⊢
      generalize hg6 : wr.heap.size = g6 at HK ⊢
      all_goals
        obtain ⟨W0, hW0⟩ : ∃ W, W = wr := ⟨_, rfl⟩
        have HW0 := Aside0.mk hW0
        rw [← hW0] at HI HK HW
        have hkl : (nd s.nodes q).kids.length ≤ 1000000 := HSq.out.2.2
        clear hW0 HBZ HBA
        go_wp2
        go_loopw [7] (fun v7 W => ∃ j : Nat, j ≤ (nd s.nodes q).kids.length ∧ v7 = .int .i64 j ∧ Aside0 (KidB (findI l) (nd s.nodes q) (.slice B1 (nd s.nodes q).ints.length d1) (.slice B2 (nd s.nodes q).texts.length d2) (.slice B3 (nd s.nodes q).kids.length d3) j g6 W0 W)) (fun v7 _ => (nd s.nodes q).kids.length - (intOf v7).toNat)
        case atStart => exact ⟨0, by omega, rfl, HK⟩
        case round =>
          clear HK
          obtain ⟨j, hj, rfl, HJ⟩ := hrel
          have hq3 : wr.cell? ⟨g6, 3, none⟩ = some (.slice B3 (nd s.nodes q).kids.length d3) := (blk_cell HJ.out.box 3).trans rfl
          by_cases hjl : j < (nd s.nodes q).kids.length
          · obtain ⟨g7, c7', hv, -⟩ := Kd.R_form HJ.out.r3 (by rw [mapTake_len]; omega)
            injection hv with hA hmm hcc
            clear hmm
            subst hA hcc
            obtain ⟨s1, s2, s3, -⟩ := HJ.out.set hjl
            have HLs := Aside0.mk (Kd.C_below HV.out.2.2 (below_step HI.out.below HJ.out.below))
            go_wp2
            go_region_with (first
                | (go_at_call 61; refine (find_C (some adl) c3 l (rd (nd s.nodes q).kids (j : Int)) _ (Kd.C_drew HLs.out) hlc hl).mono ?_; rintro e w8 ⟨rfl, ⟨nn, rfl⟩⟩; obtain ⟨t1, t2, -, t4⟩ := (HJ.out.drewN (1 + nn)).set hjl))
            all_goals
              have HS4 := Aside0.mk t4
              clear t1 t2 t4 s1 s2 hq3
              go_wp2
              go_roundw
              case rel => exact ⟨j + 1, by omega, by go_num, HS4⟩
              case measure => simp [intOf]; omega
          · obtain rfl : j = (nd s.nodes q).kids.length := by omega
            have HI7 := Aside0.mk (HI.out.later HJ.out.below)
            have q0 := (blk_cell HJ.out.box 0).trans rfl
            have q1 := (blk_cell HJ.out.box 1).trans rfl
            have q2 := (blk_cell HJ.out.box 2).trans rfl
            have o0 := (blk_cell HI7.out.out 0).trans rfl
            have hsz1 := HI.out.below.size
            have HMk := Aside0.mk (node_off (n := ⟨(nd s.nodes q).kind, (nd s.nodes q).ints, (nd s.nodes q).texts, (nd s.nodes q).kids.map (findI l)⟩) (Kd.R_lower HJ.out.r1 hsz1) (Kd.R_lower HJ.out.r2 hsz1) (Kd.R_lower (by have h := HJ.out.r3; rw [mapTake_all] at h; exact h) hsz1) HI7.out.row)
            have hlnx : ((refCanL s.nodes l).take i).length ≤ 1000000 := by rw [List.length_take, refN_len]; omega
            have hln : ((refCanL s.nodes l).take (i + 1)).length = i + 1 := by rw [List.length_take, refN_len]; omega
            go_wp2_with (at_builtin; refine Kd.R_append kNode (w0 := w1) w1.heap.size rfl (.tmp 48) (.tmp 50) 30 26 (.agg #[.int .i64 0, .slice none 0 0, .slice none 0 0, .slice none 0 0]) 80 rfl Tryd.underlying30 info_nodez rfl (by decide) (by omega) (.slice A4 i c4) ((refCanL s.nodes l).take i) ⟨(nd s.nodes q).kind, (nd s.nodes q).ints, (nd s.nodes q).texts, (nd s.nodes q).kids.map (findI l)⟩ [.int .i64 (nd s.nodes q).kind, .slice B1 (nd s.nodes q).ints.length d1, .slice B2 (nd s.nodes q).texts.length d2, .slice B3 (nd s.nodes q).kids.length d3] (fun _ => True) (fun k => some k ≠ (Value.slice A4 i c4).ownBlock) rfl (by go_simp) HMk.out (fun k hk => ⟨trivial, hk⟩) (fun _ _ => trivial) HI7.out.row HI7.out.below HI7.out.below.size (by omega) ?_; intro v5 w8 hR8 hB8 hg8 hat8; rw [← HRN.out] at hR8; obtain ⟨A5', c5', rfl⟩ := Kd.R_slice hR8; rw [hln] at hR8 ⊢; obtain ⟨hb8, hN8⟩ := HI7.out.put hR8 hB8 hg8; have HN8 := Aside0.mk hN8; have y0 := (blk_cell hb8 0).trans rfl; have y0f := blk_frozen hb8 0; clear hR8 hB8 hg8 hat8 hN8 q0 q1 q2 o0 hq3)
            go_roundw
            case rel => exact ⟨i + 1, by omega, by go_num, A5', c5', HN8⟩
            case measure => simp [intOf]; omega
    · obtain rfl : i = l.length := by omega
      have hlall : (refCanL s.nodes l).take l.length = refCanL s.nodes l := List.take_of_length_le (Nat.le_of_eq (refN_len _ _))
      have o0 := (blk_cell HI.out.out 0).trans rfl
      have o1 := (blk_cell HI.out.out 1).trans rfl
      have hres := (HI.out.below.block _ (blk_lt HL1.out)).trans HL1.out
      have l0 := (blk_cell hres 0).trans rfl
      have l0f := blk_frozen hres 0
      have l1 := (blk_cell (blk_set hres 0 (.slice A4 l.length c4)) 1).trans rfl
      have l1f := blk_frozen (blk_set hres 0 (.slice A4 l.length c4)) 1
      go_wp2
      have h2 := And.intro ((blk_cell (box2 hres (.slice A4 l.length c4) (.int .i64 ((l.length : Int) - 1))) 0).trans rfl) ((blk_cell (box2 hres (.slice A4 l.length c4) (.int .i64 ((l.length : Int) - 1))) 1).trans rfl)
      have hRR := Kd.R_lower (R_type (R_type HI.out.row hres (by decide) (.slice A4 l.length c4) 0) (blk_set hres 0 _) (by decide) (.int .i64 ((l.length : Int) - 1)) 1) HB1.out.size
      rw [hlall] at hRR
      exact bodyPost_ret (v := .agg #[.slice A4 l.length c4, .int .i64 ((l.length : Int) - 1)]) (by simp [results, Tryd.results33, go_sem, h2]) rfl
        ⟨A4, c4, by rw [refN_len], by rw [refN_len]; exact hRR, below_set2 (below_step HB1.out HI.out.below) (by omega)⟩
end Go.Proofs.YtglfebpgdghlfaaDoor.L
end
section
namespace Go.Proofs.YtglfebpgdghlfaaDoor.L
open Go.RowKit Go.ChangeShapes Go.WideShapes Go.Proofs.YtglfebpgdghlfaaDoorW.PrintWords Go.Proofs.YtglfebpgdghlfaaDoorW.PrintLast Go.Proofs.YtglfebpgdghlfaaDoorW.PrintMore
attribute [local go_sem] max2_int min2_int max_two min_two max_three min_three max_four min_four
theorem nd_mem' (l : List Node) (k : Nat) (hk : k < l.length) : nd l k ∈ l := by
  unfold nd
  rw [List.getD_eq_getElem?_getD, List.getElem?_eq_getElem hk]
  exact List.getElem_mem hk
theorem isC_not {s : Scene} (h : rightB s = false) : isC s = false := by
  refine Bool.eq_false_iff.2 fun hc => ?_
  have h1 := gcheck_right.2 (isC_right hc)
  unfold rightB at h
  rw [h1] at h
  simp at h
set_option maxRecDepth 100000 in
set_option maxHeartbeats 4000000 in
theorem ris_any (A : Option Addr) (c : Nat) (s : Scene) (w : World) (h : kNode.C w A s.nodes.length s.nodes) (hc : s.nodes.length ≤ c) (hM : rows s.nodes ≤ 400000) (hS : ∀ i : Nat, i < s.nodes.length → Small (nd s.nodes i)) :
    Calls Tryd.prog 56 #[.agg #[.slice A s.nodes.length c, .int .i64 s.root]] w fun e w' => e = .returned (.bool (isC s)) ∧ Below w.heap.size w w' := by
  have HR := Aside0.mk h
  have HSm := Aside0.mk hS
  have HM := Aside0.mk hM
  have HCc := Aside0.mk hc
  have HB := Aside0.mk (below_alloc (Below.refl w.heap.size w) (.cells #[.slice A s.nodes.length c, .int .i64 s.root] 39))
  have k0 := box_cell w _ rfl #[.slice A s.nodes.length c, .int .i64 s.root] 39 0 (.slice A s.nodes.length c) rfl
  have k1 := box_cell w _ rfl #[.slice A s.nodes.length c, .int .i64 s.root] 39 1 (.int .i64 s.root) rfl
  have hu := Tryd.underlying39
  clear h hS hM hc
  cases hr : rightB s with
  | false =>
    have HI := Aside0.mk (isC_not hr)
    have HRb := Aside0.mk hr
    clear hr
    go_enter Tryd.func56, Tryd.ntmps56
    go_wp2
    go_region_with (first
        | (go_at_call 50; refine (rright_any A c s _ (Kd.C_drew (Kd.C_below HR.out HB.out)) HCc.out (by have := HM.out; omega)).mono ?_; rw [HRb.out]; rintro e w7 ⟨rfl, hB⟩; have HB7 := Aside0.mk (below_step (below_drew HB.out) hB); clear hB))
    all_goals
      clear k0 k1
      go_wp2
      go_ret
      exact ⟨ret_bool HI.out.symm, HB7.out⟩
  | true =>
    have hR : Right s := gcheck_right.1 (by unfold rightB at hr; simpa using hr)
    have HRt := Aside0.mk hR
    have HRb := Aside0.mk hr
    have HI := Aside0.mk (show sameS ⟨canonL s, (s.nodes.length : Int) - 1⟩ s = isC s from by
      cases hic : isC s with
      | true => exact sameS_yes ((isC_iff hR).1 hic)
      | false => exact sameS_no (fun e => by rw [(isC_iff hR).2 e] at hic; cases hic))
    have HCn := Aside0.mk (show (⟨refCanL s.nodes (ord s), ((ord s).length : Int) - 1⟩ : Scene) = ⟨canonL s, (s.nodes.length : Int) - 1⟩ from by rw [refCan_eq hR.dag ⟨hR.r0, hR.r1⟩, ord_len hR])
    have HOl := Aside0.mk (ord_len hR)
    have HSc := Aside0.mk (show ∀ i : Nat, i < (canonL s).length → Small (nd (canonL s) i) from fun i hi => by
      have hm := nd_mem' (canonL s) i hi
      generalize nd (canonL s) i = x at hm
      obtain ⟨q, hq, rfl⟩ := List.mem_map.1 hm
      have hpl := ord_pl hR q hq
      have h1 := HSm.out q.toNat (by have := hpl.1; have := hpl.2; omega)
      exact ⟨h1.1, h1.2.1, by show (List.map _ _).length ≤ _; rw [List.length_map]; exact h1.2.2⟩)
    have hnl := Aside0.mk (len_rows s.nodes)
    clear hr hR
    go_enter Tryd.func56, Tryd.ntmps56
    go_wp2
    go_region_with (first
        | (go_at_call 50; refine (rright_any A c s _ (Kd.C_drew (Kd.C_below HR.out HB.out)) HCc.out (by have := HM.out; omega)).mono ?_; rw [HRb.out]; rintro e w7 ⟨rfl, hB⟩; have k07 := pw_cell_below hB (show World.cell? (World.drew _) _ = _ from k0); have k17 := pw_cell_below hB (show World.cell? (World.drew _) _ = _ from k1); have HB7 := Aside0.mk (below_step (below_drew HB.out) hB); clear hB)
        | (go_at_call 33; refine (rcanon_any A c s (ord s) _ w7 (Kd.C_below HR.out HB7.out) HCc.out HSm.out (order_f HRt.out.dag ⟨HRt.out.r0, HRt.out.r1⟩ (by have := HM.out; omega)) (by have := HM.out; have := hnl.out; have := HOl.out; omega) (ord_met' HRt.out.dag ⟨HRt.out.r0, HRt.out.r1⟩).shut.pl).mono ?_; rw [HCn.out]; rintro e w8 ⟨B2, d2, rfl, hR2, hB⟩; have k08 := pw_cell_below hB k07; have k18 := pw_cell_below hB k17; have HC8 := Aside0.mk (Kd.R_reads' hR2).2.2; have HB8 := Aside0.mk (below_step HB7.out hB); clear hB hR2)
        | (go_at_call 23; refine (sameS_any B2 d2 ⟨canonL s, (s.nodes.length : Int) - 1⟩ A c s w8 HC8.out (Kd.C_below HR.out HB8.out) HSc.out).mono ?_; rw [HI.out]; rintro e w9 ⟨rfl, hB⟩; have HB9 := Aside0.mk (below_step HB8.out hB); clear hB))
    all_goals
      clear k0 k1 k07 k17 k08 k18
      go_wp2
      go_ret
      exact ⟨rfl, HB9.out⟩
end Go.Proofs.YtglfebpgdghlfaaDoor.L
end
section
namespace Go.Proofs.YtglfebpgdghlfaaDoor.L
open Go.RowKit Go.ChangeShapes Go.WideShapes Go.Proofs.YtglfebpgdghlfaaDoorW.PrintWords Go.Proofs.YtglfebpgdghlfaaDoorW.PrintLast Go.Proofs.YtglfebpgdghlfaaDoorW.PrintMore
attribute [local go_sem] max2_int min2_int max_two min_two max_three min_three max_four min_four
theorem drew_alloc' (W : World) (o : Obj) : (W.alloc o).drew = W.drew.alloc o := rfl
abbrev fB (b n : Nat) : Value := .func (.func n) #[.pointer (some ⟨b, 0, none⟩)] #[]
noncomputable def doF (b : Nat) : Lit → Option Value := putF (putF (putF (fun _ => none) (.int .i64 1) (fB b 90)) (.int .i64 2) (fB b 91)) (.int .i64 3) (fB b 92)
noncomputable def zFn : Value := (match (Tryd.prog.info? 117) with | some i => i.zero.getD undef | none => undef)
theorem zeroFn (w : World) : (zeroValue 117).run Tryd.prog w = .ok zFn w := by kernel_rfl
theorem doF_1 (b : Nat) {k : Int} (h : k = 1) (z : Value) : (doF b (.int .i64 k)).getD z = fB b 90 ∧ (doF b (.int .i64 k)).isSome = true := by subst h; simp [doF, putF]
theorem doF_2 (b : Nat) {k : Int} (h : k = 2) (z : Value) : (doF b (.int .i64 k)).getD z = fB b 91 ∧ (doF b (.int .i64 k)).isSome = true := by subst h; simp [doF, putF]
theorem doF_3 (b : Nat) {k : Int} (h : k = 3) (z : Value) : (doF b (.int .i64 k)).getD z = fB b 92 ∧ (doF b (.int .i64 k)).isSome = true := by subst h; simp [doF, putF]
theorem doF_no (b : Nat) {k : Int} (h1 : ¬ k = 1) (h2 : ¬ k = 2) (h3 : ¬ k = 3) (z : Value) : (doF b (.int .i64 k)).getD z = z ∧ (doF b (.int .i64 k)).isSome = false := by simp [doF, putF, h1, h2, h3]
def KeepsS (W W1 : World) : Prop := ∀ (q : Nat) (cs : Array Value), W.heap[q]? = some (.cells cs 39 (0, 0)) → W1.heap[q]? = some (.cells cs 39 (0, 0))
theorem KeepsS.trans {W W1 W2 : World} (h : KeepsS W W1) (k : KeepsS W1 W2) : KeepsS W W2 := fun q cs hq => k q cs (h q cs hq)
theorem KeepsS.below {W W1 : World} (h : Below W.heap.size W W1) : KeepsS W W1 := fun q _ hq => (h.block q (blk_lt hq)).trans hq
theorem KeepsS.map {P : Program} {k : TypeId} {W W1 : World} {mb n : Nat} {f : Lit → Option Value} (hm : MapF P k W mb n f) (hg : W.grownBy W1 (some mb)) : KeepsS W W1 := fun q _ hq => (hg.block q (blk_lt hq) (fun e => by injection e with e; exact hm.not_cells (by rw [← e]; exact hq))).trans hq
section
variable {a : Scene} {A : Option Addr} {c b mb cnt : Nat} {f : Lit → Option Value} {out : List Node} {w W W1 : World}
theorem BRel.keepsS {v v1 : Value} (h : BRel a A c b mb cnt f v out w W) (hg : W.grownBy W1 v.ownBlock) : KeepsS W (W1.setCell ⟨b, 3, none⟩ v1) := fun q cs hq => by
  have h1 := blk_grown hq hg (Kd.R_ne h.rows hq (by decide))
  refine (Below.heap_setCell W1 ⟨b, 3, none⟩ v1 q (fun e => ?_)).trans h1
  have e' : q = b := e
  have h2 := h.blk
  rw [← e', hq] at h2
  injection h2 with h2
  injection h2 with _ h2
  exact absurd h2 (by decide)
theorem BRel.push {v v1 : Value} {m : Node} (h : BRel a A c b mb cnt f v out w W) (hR : kNode.R 26 W1 w.heap.size (fun _ => True) v1 (out ++ [m])) (hB : Below w.heap.size w W1) (hg : W.grownBy W1 v.ownBlock) :
    W1.heap[b]? = some (.cells #[.slice A a.nodes.length c, .int .i64 a.root, .map (some mb), v] 89 (0, 0)) ∧ BRel a A c b mb cnt f v1 (out ++ [m]) w (W1.setCell ⟨b, 3, none⟩ v1) := by
  have hblk := blk_grown h.blk hg (Kd.R_ne h.rows h.blk (by decide))
  have hmb : mb ≠ b := fun e => h.map.not_cells (by rw [e]; exact h.blk)
  refine ⟨hblk, below_set hB h.bge, ?_, (h.map.kept hg (h.map.ne_row h.rows)).setCell (a := ⟨b, 3, none⟩) hmb _, R_type hR hblk (by decide) _ _, h.bge, h.mge⟩
  have := blk_set hblk 3 v1
  simpa using this
end
theorem M_off {W : World} {base : Nat} {n : Node} {v1 v2 v3 v4 : Value} {xs : List Node} (h : kNode.M W base (fun _ => True) n [.int .i64 n.kind, v1, v2, v3]) (hr : kNode.R 26 W base (fun _ => True) v4 xs) : kNode.M W base (fun k => some k ≠ v4.ownBlock) n [.int .i64 n.kind, v1, v2, v3] := by
  obtain ⟨x1, x2, x3, e, h1, h2, h3⟩ := kNode_openM h
  injection e with _ e
  injection e with e1 e
  injection e with e2 e
  injection e with e3 _
  subst e1 e2 e3
  exact node_off h1 h2 h3 hr
def DoPost (a : Scene) (A : Option Addr) (c b mb cnt : Nat) (base : List Int) (out : List Node) (w W : World) (o : Opn) (e : Ending) (W' : World) : Prop :=
  e = .returned (.int .i64 (doErr a.nodes base out.length o)) ∧ (doErr a.nodes base out.length o = 0 → ∃ cnt' v', cnt' ≤ cnt + 1 ∧ BRel a A c b mb cnt' (imgF (base ++ [baseOf o])) v' (out ++ [(oneN a.nodes base o).1]) w W') ∧ KeepsS W W' ∧ Below w.heap.size w W'
section
variable {a : Scene} {A : Option Addr} {c b mb cnt : Nat} {base : List Int} {v : Value} {out : List Node} {w : World}
theorem one_any (hlen : out.length = base.length) (hc : kNode.C w A a.nodes.length a.nodes) (hS : ∀ i : Nat, i < a.nodes.length → Small (nd a.nodes i)) (hKl : ∀ i : Nat, i < a.nodes.length → (nd a.nodes i).kids.length ≤ 400000) (hP : Places a.nodes) (hn : a.nodes.length ≤ 1000000) (hcn : cnt ≤ 1000000)
    (o : Opn) (B1 : Option Addr) (d1 : Nat) (B2 : Option Addr) (d2 : Nat) (A1 : Option Addr) (c1 : Nat) (A2 : Option Addr) (c2 : Nat) (A3 : Option Addr) (c3 : Nat) (hO : OpnC w o B1 d1 B2 d2 A1 c1 A2 c2 A3 c3) (hs : Small o.node) (hls : o.sets.length ≤ 1000000) (hle : o.script.length ≤ 1000000) (hb0 : -9223372036854775808 ≤ o.base) (hb1 : o.base ≤ 9223372036854775807) (hk : o.kind = 1 ∨ o.kind = 2 ∨ o.kind = 3) :
    ∃ n, (∀ z, (doF b (.int .i64 o.kind)).getD z = .func (.func n) #[.pointer (some ⟨b, 0, none⟩)] #[] ∧ (doF b (.int .i64 o.kind)).isSome = true) ∧ (∀ args w, (callFunc n args).run Tryd.prog w = .ok (.enter n args) w) ∧ ∀ W, BRel a A c b mb cnt (imgF base) v out w W → Calls Tryd.prog n #[.pointer (some ⟨b, 0, none⟩), .agg (opV o B1 d1 B2 d2 A1 c1 A2 c2 A3 c3)] W (OnePost a A c b mb cnt base v out w o (oneN a.nodes base o) W) := by
  rcases hk with hk | hk | hk
  · refine ⟨_, doF_1 b hk, fun args w => by simp [go_sem], fun W h => ?_⟩
    rw [show oneN a.nodes base o = keepN a.nodes base o by unfold oneN; rw [if_pos hk]]
    exact keep_any W h hlen hc hS hP hn hcn o B1 d1 B2 d2 A1 c1 A2 c2 A3 c3 (hO.below h.below) hb0 hb1 (by omega)
  · refine ⟨_, doF_2 b hk, fun args w => by simp [go_sem], fun W h => ?_⟩
    rw [show oneN a.nodes base o = changeN a.nodes base o by unfold oneN; rw [if_neg (by omega), if_pos hk]]
    exact edit_any W h hlen hc hS hKl hP hn hcn o B1 d1 B2 d2 A1 c1 A2 c2 A3 c3 hO hls hle hb0 hb1 (by omega)
  · refine ⟨_, doF_3 b hk, fun args w => by simp [go_sem], fun W h => ?_⟩
    rw [show oneN a.nodes base o = freshN o by unfold oneN; rw [if_neg (by omega), if_neg (by omega), if_pos hk]]
    exact fresh_any W h o B1 d1 B2 d2 A1 c1 A2 c2 A3 c3 (hO.below h.below) hs hk
set_option maxRecDepth 100000 in
set_option maxHeartbeats 8000000 in
theorem do_any (W : World) (h : BRel a A c b mb cnt (imgF base) v out w W) (hlen : out.length = base.length) (hc : kNode.C w A a.nodes.length a.nodes) (hS : ∀ i : Nat, i < a.nodes.length → Small (nd a.nodes i)) (hKl : ∀ i : Nat, i < a.nodes.length → (nd a.nodes i).kids.length ≤ 400000) (hP : Places a.nodes) (hn : a.nodes.length ≤ 1000000) (hcn : cnt ≤ 1000000) (hol : out.length ≤ 1000000)
    (o : Opn) (B1 : Option Addr) (d1 : Nat) (B2 : Option Addr) (d2 : Nat) (A1 : Option Addr) (c1 : Nat) (A2 : Option Addr) (c2 : Nat) (A3 : Option Addr) (c3 : Nat) (hO : OpnC w o B1 d1 B2 d2 A1 c1 A2 c2 A3 c3) (hs : Small o.node) (hls : o.sets.length ≤ 1000000) (hle : o.script.length ≤ 1000000) (hb0 : -9223372036854775808 ≤ o.base) (hb1 : o.base ≤ 9223372036854775807) (hk0 : -9223372036854775808 ≤ o.kind) (hk1 : o.kind ≤ 9223372036854775807) :
    Calls Tryd.prog 55 #[.pointer (some ⟨b, 0, none⟩), .agg (opV o B1 d1 B2 d2 A1 c1 A2 c2 A3 c3)] W (DoPost a A c b mb cnt base out w W o) := by
  obtain ⟨Av, cv, hvs⟩ := Kd.R_slice h.rows
  subst hvs
  have HB := Aside0.mk h
  have HO := Aside0.mk hO
  have HC := Aside0.mk hc
  have HSm := Aside0.mk hS
  have HKl := Aside0.mk hKl
  have HPl := Aside0.mk hP
  have HLen := Aside0.mk hlen
  have HSn := Aside0.mk hs
  have HLs := Aside0.mk (And.intro hls hle)
  have hmm := @run_makeMap Tryd.prog
  have huo := Tryd.underlying61
  have hun := Tryd.underlying26
  have hub := Tryd.underlying89
  have HK := Aside0.mk (keyI_of hk0 hk1)
  have hBW1 : Below W.heap.size W ((W.alloc (.cells #[.pointer (some ⟨b, 0, none⟩)] 86)).alloc (.cells (opV o B1 d1 B2 d2 A1 c1 A2 c2 A3 c3) 61)) := below_alloc (below_alloc (Below.refl _ _) _) _
  have hp1 : ((W.alloc (.cells #[.pointer (some ⟨b, 0, none⟩)] 86)).alloc (.cells (opV o B1 d1 B2 d2 A1 c1 A2 c2 A3 c3) 61)).heap[W.heap.size]? = some (.cells #[.pointer (some ⟨b, 0, none⟩)] 86 (0, 0)) := by
    refine ((below_alloc (Below.refl _ _) _).block _ (by simp)).trans ?_
    simpa using heap_alloc_new W (.cells #[.pointer (some ⟨b, 0, none⟩)] 86)
  have ho1 : ((W.alloc (.cells #[.pointer (some ⟨b, 0, none⟩)] 86)).alloc (.cells (opV o B1 d1 B2 d2 A1 c1 A2 c2 A3 c3) 61)).heap[W.heap.size + 1]? = some (.cells (opV o B1 d1 B2 d2 A1 c1 A2 c2 A3 c3) 61 (0, 0)) := by
    have := heap_alloc_new (W.alloc (.cells #[.pointer (some ⟨b, 0, none⟩)] 86)) (.cells (opV o B1 d1 B2 d2 A1 c1 A2 c2 A3 c3) 61)
    simpa using this
  have hBm := below_alloc (Below.refl ((W.alloc (.cells #[.pointer (some ⟨b, 0, none⟩)] 86)).alloc (.cells (opV o B1 d1 B2 d2 A1 c1 A2 c2 A3 c3) 61)).heap.size ((W.alloc (.cells #[.pointer (some ⟨b, 0, none⟩)] 86)).alloc (.cells (opV o B1 d1 B2 d2 A1 c1 A2 c2 A3 c3) 61))) (.map #[] 0)
  have HM0 := Aside0.mk (show MapF Tryd.prog 3 (((W.alloc (.cells #[.pointer (some ⟨b, 0, none⟩)] 86)).alloc (.cells (opV o B1 d1 B2 d2 A1 c1 A2 c2 A3 c3) 61)).alloc (.map #[] 0)) (W.heap.size + 1 + 1) 0 (fun _ => none) from by
    have := MapF.made Tryd.prog 3 ((W.alloc (.cells #[.pointer (some ⟨b, 0, none⟩)] 86)).alloc (.cells (opV o B1 d1 B2 d2 A1 c1 A2 c2 A3 c3) 61))
    simpa using this)
  have HB0 := Aside0.mk (below_step hBW1 hBm)
  have HP0 := Aside0.mk ((hBm.block _ (blk_lt hp1)).trans hp1)
  have HO0 := Aside0.mk ((hBm.block _ (blk_lt ho1)).trans ho1)
  clear h hO hc hS hP hlen hKl hls hle hs hBm hp1 ho1 hBW1
  go_enter Tryd.func55, Tryd.ntmps55
  by_cases hno : ¬ o.kind = 1 ∧ ¬ o.kind = 2 ∧ ¬ o.kind = 3
  · have HI := Aside0.mk (doF_no b hno.1 hno.2.1 hno.2.2 zFn)
    have HE : Aside0 (oneN a.nodes base o = (nodez, 21)) := ⟨by unfold oneN; rw [if_neg hno.1, if_neg hno.2.1, if_neg hno.2.2]⟩
    have HE2 : Aside0 (doErr a.nodes base out.length o = 21) := ⟨by unfold doErr; rw [HE.out]; rfl⟩
    clear hno
    go_wp2_with (first
          | (refine wpList_insert_F _ rfl (.tmp 10) _ (.tmp 12) 118 rfl 3 117 keyI Tryd.underlying118 (W.heap.size + 1 + 1) 0 (fun _ => none) rfl HM0.out (by decide) (.int .i64 1) (fB b 90) (.int .i64 1) rfl rfl (keyI_of (by omega) (by omega)) ?_; intro w1 hM1 hg1; have HM1 := Aside0.mk hM1; have HB1 := Aside0.mk (below_map HB0.out HB0.out.size hg1 (by omega)); have HP1 := Aside0.mk (blk_grown HP0.out hg1 (fun e => by injection e with e; omega)); have HO1 := Aside0.mk (blk_grown HO0.out hg1 (fun e => by injection e with e; omega)); have p1 : w1.cell? ⟨W.heap.size, 0, none⟩ = some (.pointer (some ⟨b, 0, none⟩)) := blk_at HP1.out 0 rfl; clear hM1 hg1)
          | (refine wpList_insert_F _ rfl (.tmp 10) _ (.tmp 14) 118 rfl 3 117 keyI Tryd.underlying118 (W.heap.size + 1 + 1) 1 _ rfl HM1.out (by decide) (.int .i64 2) (fB b 91) (.int .i64 2) rfl rfl (keyI_of (by omega) (by omega)) ?_; intro w2 hM2 hg2; have HM2 := Aside0.mk hM2; have HB2 := Aside0.mk (below_map HB1.out HB1.out.size hg2 (by omega)); have HP2 := Aside0.mk (blk_grown HP1.out hg2 (fun e => by injection e with e; omega)); have HO2 := Aside0.mk (blk_grown HO1.out hg2 (fun e => by injection e with e; omega)); have p2 : w2.cell? ⟨W.heap.size, 0, none⟩ = some (.pointer (some ⟨b, 0, none⟩)) := blk_at HP2.out 0 rfl; clear hM2 hg2)
          | (refine wpList_insert_F _ rfl (.tmp 10) _ (.tmp 16) 118 rfl 3 117 keyI Tryd.underlying118 (W.heap.size + 1 + 1) 2 _ rfl HM2.out (by decide) (.int .i64 3) (fB b 92) (.int .i64 3) rfl rfl (keyI_of (by omega) (by omega)) ?_; intro w3 hM3 hg3; have HM3 := Aside0.mk hM3; have HB3 := Aside0.mk (below_map HB2.out HB2.out.size hg3 (by omega)); have HP3 := Aside0.mk (blk_grown HP2.out hg3 (fun e => by injection e with e; omega)); have HO3 := Aside0.mk (blk_grown HO2.out hg3 (fun e => by injection e with e; omega)); have p3 : w3.cell? ⟨W.heap.size, 0, none⟩ = some (.pointer (some ⟨b, 0, none⟩)) := blk_at HP3.out 0 rfl; have q0 : w3.cell? ⟨W.heap.size + 1, 0, none⟩ = some (.int .i64 o.kind) := blk_at HO3.out 0 rfl; have q1 : w3.cell? ⟨W.heap.size + 1, 1, none⟩ = some (.int .i64 o.base) := blk_at HO3.out 1 rfl; have q2 : w3.cell? ⟨W.heap.size + 1, 2, none⟩ = some (.slice B1 o.sets.length d1) := blk_at HO3.out 2 rfl; have q3 : w3.cell? ⟨W.heap.size + 1, 3, none⟩ = some (.slice B2 o.script.length d2) := blk_at HO3.out 3 rfl; have q4 : w3.cell? ⟨W.heap.size + 1, 4, none⟩ = some (.int .i64 o.node.kind) := blk_at HO3.out 4 rfl; have q5 : w3.cell? ⟨W.heap.size + 1, 5, none⟩ = some (.slice A1 o.node.ints.length c1) := blk_at HO3.out 5 rfl; have q6 : w3.cell? ⟨W.heap.size + 1, 6, none⟩ = some (.slice A2 o.node.texts.length c2) := blk_at HO3.out 6 rfl; have q7 : w3.cell? ⟨W.heap.size + 1, 7, none⟩ = some (.slice A3 o.node.kids.length c3) := blk_at HO3.out 7 rfl; clear hM3 hg3)
          | (at_lookup; refine wpList_lookup_F_ok _ rfl (.tmp 19) (.tmp 21) 118 rfl 3 117 keyI Tryd.underlying118 (zeroFn _) (W.heap.size + 1 + 1) 3 (doF b) rfl HM3.out (.int .i64 o.kind) (.int .i64 o.kind) rfl HK.out _ HI.out.1 false HI.out.2 ?_))
    go_ret
    exact ⟨ret_int HE2.out.symm, fun hz => absurd (HE2.out.symm.trans hz) (by decide), KeepsS.below HB3.out, (HB.out.later HB3.out).below⟩
  · have hk3 : o.kind = 1 ∨ o.kind = 2 ∨ o.kind = 3 := by omega
    clear hno
    obtain ⟨fnn, hI, hrun, hCall⟩ := one_any (b := b) (mb := mb) (v := .slice Av out.length cv) HLen.out HC.out HSm.out HKl.out HPl.out hn hcn o B1 d1 B2 d2 A1 c1 A2 c2 A3 c3 HO.out HSn.out HLs.out.1 HLs.out.2 hb0 hb1 hk3
    have HI := Aside0.mk (hI zFn)
    have HCall := Aside0.mk hCall
    clear hI hCall
    go_wp2_with (first
        | (refine wpList_insert_F _ rfl (.tmp 10) _ (.tmp 12) 118 rfl 3 117 keyI Tryd.underlying118 (W.heap.size + 1 + 1) 0 (fun _ => none) rfl HM0.out (by decide) (.int .i64 1) (fB b 90) (.int .i64 1) rfl rfl (keyI_of (by omega) (by omega)) ?_; intro w1 hM1 hg1; have HM1 := Aside0.mk hM1; have HB1 := Aside0.mk (below_map HB0.out HB0.out.size hg1 (by omega)); have HP1 := Aside0.mk (blk_grown HP0.out hg1 (fun e => by injection e with e; omega)); have HO1 := Aside0.mk (blk_grown HO0.out hg1 (fun e => by injection e with e; omega)); have p1 : w1.cell? ⟨W.heap.size, 0, none⟩ = some (.pointer (some ⟨b, 0, none⟩)) := blk_at HP1.out 0 rfl; clear hM1 hg1)
        | (refine wpList_insert_F _ rfl (.tmp 10) _ (.tmp 14) 118 rfl 3 117 keyI Tryd.underlying118 (W.heap.size + 1 + 1) 1 _ rfl HM1.out (by decide) (.int .i64 2) (fB b 91) (.int .i64 2) rfl rfl (keyI_of (by omega) (by omega)) ?_; intro w2 hM2 hg2; have HM2 := Aside0.mk hM2; have HB2 := Aside0.mk (below_map HB1.out HB1.out.size hg2 (by omega)); have HP2 := Aside0.mk (blk_grown HP1.out hg2 (fun e => by injection e with e; omega)); have HO2 := Aside0.mk (blk_grown HO1.out hg2 (fun e => by injection e with e; omega)); have p2 : w2.cell? ⟨W.heap.size, 0, none⟩ = some (.pointer (some ⟨b, 0, none⟩)) := blk_at HP2.out 0 rfl; clear hM2 hg2)
        | (refine wpList_insert_F _ rfl (.tmp 10) _ (.tmp 16) 118 rfl 3 117 keyI Tryd.underlying118 (W.heap.size + 1 + 1) 2 _ rfl HM2.out (by decide) (.int .i64 3) (fB b 92) (.int .i64 3) rfl rfl (keyI_of (by omega) (by omega)) ?_; intro w3 hM3 hg3; have HM3 := Aside0.mk hM3; have HB3 := Aside0.mk (below_map HB2.out HB2.out.size hg3 (by omega)); have HP3 := Aside0.mk (blk_grown HP2.out hg3 (fun e => by injection e with e; omega)); have HO3 := Aside0.mk (blk_grown HO2.out hg3 (fun e => by injection e with e; omega)); have p3 : w3.cell? ⟨W.heap.size, 0, none⟩ = some (.pointer (some ⟨b, 0, none⟩)) := blk_at HP3.out 0 rfl; have q0 : w3.cell? ⟨W.heap.size + 1, 0, none⟩ = some (.int .i64 o.kind) := blk_at HO3.out 0 rfl; have q1 : w3.cell? ⟨W.heap.size + 1, 1, none⟩ = some (.int .i64 o.base) := blk_at HO3.out 1 rfl; have q2 : w3.cell? ⟨W.heap.size + 1, 2, none⟩ = some (.slice B1 o.sets.length d1) := blk_at HO3.out 2 rfl; have q3 : w3.cell? ⟨W.heap.size + 1, 3, none⟩ = some (.slice B2 o.script.length d2) := blk_at HO3.out 3 rfl; have q4 : w3.cell? ⟨W.heap.size + 1, 4, none⟩ = some (.int .i64 o.node.kind) := blk_at HO3.out 4 rfl; have q5 : w3.cell? ⟨W.heap.size + 1, 5, none⟩ = some (.slice A1 o.node.ints.length c1) := blk_at HO3.out 5 rfl; have q6 : w3.cell? ⟨W.heap.size + 1, 6, none⟩ = some (.slice A2 o.node.texts.length c2) := blk_at HO3.out 6 rfl; have q7 : w3.cell? ⟨W.heap.size + 1, 7, none⟩ = some (.slice A3 o.node.kids.length c3) := blk_at HO3.out 7 rfl; clear hM3 hg3)
        | (at_lookup; refine wpList_lookup_F_ok _ rfl (.tmp 19) (.tmp 21) 118 rfl 3 117 keyI Tryd.underlying118 (zeroFn _) (W.heap.size + 1 + 1) 3 (doF b) rfl HM3.out (.int .i64 o.kind) (.int .i64 o.kind) rfl HK.out _ HI.out.1 true HI.out.2 ?_))
    have HKp3 := Aside0.mk (KeepsS.below HB3.out)
    have HB3 := Aside0.mk (HB.out.later HB3.out)
    refine (HCall.out w3 HB3.out).mono ?_
    rintro e w4 ⟨v1, v2, v3, rfl, hM4, hR4, hg4⟩
    obtain ⟨r, hr⟩ : ∃ r, oneN a.nodes base o = r := ⟨_, rfl⟩
    have HE := Aside0.mk hr
    rw [hr] at hM4 hR4 ⊢
    clear hr
    obtain ⟨m, er⟩ := r
    dsimp only at hM4 hR4 ⊢
    obtain ⟨A5, c5, A6, c6, A7, c7, rfl, rfl, rfl⟩ := M_slices hM4
    have HB4 := Aside0.mk (HB3.out.below.grown hg4 HB3.out.below.size (fun q hq => by injection hq with hq; have := HB.out.mge; omega))
    have HKp4 := Aside0.mk (HKp3.out.trans (KeepsS.map HB3.out.map hg4))
    have HP4 := Aside0.mk ((hg4.block _ (blk_lt HP3.out) (fun e => by injection e with e; exact HB3.out.map.not_cells (by rw [← e]; exact HP3.out))).trans HP3.out)
    have HA5 := Aside0.mk (below_alloc (Below.refl w4.heap.size w4) (.cells #[.int .i64 m.kind, .slice A5 m.ints.length c5, .slice A6 m.texts.length c6, .slice A7 m.kids.length c7] 26))
    have HM5 := Aside0.mk (M_below (M_lower hM4 HB3.out.below.size) HA5.out)
    have HX5 := Aside0.mk (show (w4.alloc (.cells #[.int .i64 m.kind, .slice A5 m.ints.length c5, .slice A6 m.texts.length c6, .slice A7 m.kids.length c7] 26)).heap[w4.heap.size]? = some (.cells #[.int .i64 m.kind, .slice A5 m.ints.length c5, .slice A6 m.texts.length c6, .slice A7 m.kids.length c7] 26 (0, 0)) from by simpa using heap_alloc_new w4 _)
    have HP5 := Aside0.mk ((HA5.out.block _ (blk_lt HP4.out)).trans HP4.out)
    have HR4 := Aside0.mk hR4
    clear hM4 hR4 hg4 p1 p2 p3 q0 q1 q2 q3 q4 q5 q6 q7
    by_cases hz : er = 0
    · subst hz
      obtain ⟨cnt', hc', hR⟩ := HR4.out rfl
      have HR5 := Aside0.mk (hR.later HA5.out)
      have HC' := Aside0.mk hc'
      have p5 : (w4.alloc (.cells #[.int .i64 m.kind, .slice A5 m.ints.length c5, .slice A6 m.texts.length c6, .slice A7 m.kids.length c7] 26)).cell? ⟨W.heap.size, 0, none⟩ = some (.pointer (some ⟨b, 0, none⟩)) := blk_at HP5.out 0 rfl
      have HCap := Aside0.mk (show CapB W.heap.size out.length _ from ⟨b, Av, cv, p5, blk_at HR5.out.blk 3 rfl, (Kd.R_reads' HR5.out.rows).2.2.2.1⟩)
      clear hR hc'
      go_wp2_with fail
      refine (aheadHas_any A7 c7 m.kids W.heap.size out.length _ (M_nodeC HM5.out).k HCap.out).mono ?_
      rintro e w6 ⟨rfl, hB6⟩
      have HB6 := Aside0.mk hB6
      clear hB6 p5
      by_cases hkb : kidsBad out.length m.kids = true
      · have HEr : Aside0 (doErr a.nodes base out.length o = 13) := ⟨by unfold doErr; rw [HE.out]; exact (if_pos rfl).trans (if_pos hkb)⟩
        rw [hkb]
        clear hkb
        go_wp2
        go_ret
        exact ⟨ret_int HEr.out.symm, fun hz => absurd (HEr.out.symm.trans hz) (by decide), HKp4.out.trans (KeepsS.below (below_step HA5.out HB6.out)), below_step (below_step HB4.out HA5.out) HB6.out⟩
      · have HEr : Aside0 (doErr a.nodes base out.length o = 0) := ⟨by unfold doErr; rw [HE.out]; exact (if_pos rfl).trans (if_neg hkb)⟩
        rw [Bool.eq_false_iff.2 hkb]
        clear hkb
        have HR6 := Aside0.mk (HR5.out.later HB6.out)
        have HM6 := Aside0.mk (M_below HM5.out HB6.out)
        have HP6 := Aside0.mk ((HB6.out.block _ (blk_lt HP5.out)).trans HP5.out)
        have HX6 := Aside0.mk ((HB6.out.block _ (blk_lt HX5.out)).trans HX5.out)
        have p6 : w6.cell? ⟨W.heap.size, 0, none⟩ = some (.pointer (some ⟨b, 0, none⟩)) := blk_at HP6.out 0 rfl
        have b6 : w6.cell? ⟨b, 3, none⟩ = some (.slice Av out.length cv) := blk_at HR6.out.blk 3 rfl
        have y0 : w6.cell? ⟨w4.heap.size, 0, none⟩ = some (.int .i64 m.kind) := blk_at HX6.out 0 rfl
        have y1 : w6.cell? ⟨w4.heap.size, 1, none⟩ = some (.slice A5 m.ints.length c5) := blk_at HX6.out 1 rfl
        have y2 : w6.cell? ⟨w4.heap.size, 2, none⟩ = some (.slice A6 m.texts.length c6) := blk_at HX6.out 2 rfl
        have y3 : w6.cell? ⟨w4.heap.size, 3, none⟩ = some (.slice A7 m.kids.length c7) := blk_at HX6.out 3 rfl
        have hba := below_alloc (Below.refl w6.heap.size w6) (.cells #[.int .i64 m.kind, .slice A5 m.ints.length c5, .slice A6 m.texts.length c6, .slice A7 m.kids.length c7] 26)
        have p6a := pw_cell_below hba p6
        have b6a := pw_cell_below hba b6
        have HR6d := Aside0.mk HR6.out.drew
        have HP6d := Aside0.mk (show w6.drew.heap[W.heap.size]? = _ from HP6.out)
        have HMk := Aside0.mk (M_off (M_below HM6.out (pw_below_drewN (Below.refl _ _) 1)) HR6d.out.rows)
        clear hba HX5 HX6 HM5 HM6 HP5 HP6 HR5 HR6 HCap
        go_wp2
        go_region_law (first
            | (rw [drew_alloc']; refine Kd.R_append_step kNode (W := w6.drew) (w0 := w) w.heap.size (by rfl) (.tmp 44) (.tmp 46) 30 26 (.agg #[.int .i64 0, .slice none 0 0, .slice none 0 0, .slice none 0 0]) 80 rfl Tryd.underlying30 info_nodez rfl (by decide) (by omega) (.slice Av out.length cv) out m [.int .i64 m.kind, .slice A5 m.ints.length c5, .slice A6 m.texts.length c6, .slice A7 m.kids.length c7] (fun _ => True) (fun k => some k ≠ (Value.slice Av out.length cv).ownBlock) rfl rfl HMk.out (fun k hk => ⟨trivial, hk⟩) (fun _ _ => trivial) HR6d.out.rows HR6d.out.below HR6d.out.below.size (by omega) ?_; intro v5 w8 hR8 hB8 hg8 hat8; obtain ⟨A8, c8, hv8⟩ := Kd.R_slice hR8; rw [show (out ++ [m]).length = out.length + 1 from by simp] at hv8; subst hv8; obtain ⟨hb8, hN8⟩ := HR6d.out.push hR8 hB8 hg8; have HKp8 := Aside0.mk (HKp4.out.trans ((KeepsS.below (below_step HA5.out HB6.out)).trans (KeepsS.trans (KeepsS.below (pw_below_drewN (Below.refl _ _) 1)) (HR6d.out.keepsS (v1 := .slice A8 (out.length + 1) c8) hg8)))); have HN8 := Aside0.mk hN8; have f3 : w8.cell? ⟨b, 3, none⟩ = some (.slice Av out.length cv) := blk_at hb8 3 rfl; have f3f := blk_frozen hb8 3; have p8 : w8.cell? ⟨W.heap.size, 0, none⟩ = some (.pointer (some ⟨b, 0, none⟩)) := blk_at (blk_grown HP6d.out hg8 (Kd.R_ne HR6d.out.rows HP6d.out (by decide))) 0 rfl; clear hR8 hB8 hg8 hat8 hN8 hb8))
        all_goals
          clear p6 b6 y0 y1 y2 y3 p6a b6a f3 f3f p8
          go_wp2
          go_ret
          exact ⟨ret_int HEr.out.symm, fun _ => ⟨cnt', _, HC'.out, by rw [HE.out]; exact HN8.out⟩, HKp8.out, HN8.out.below⟩
    · have HEr : Aside0 (doErr a.nodes base out.length o = er) := ⟨by unfold doErr; rw [HE.out]; exact if_neg hz⟩
      have dz : (er != 0) = true := by simpa using hz
      have HZ := Aside0.mk hz
      clear hz
      go_wp2
      go_ret
      exact ⟨ret_int HEr.out.symm, fun hz => absurd (HEr.out.symm.trans hz) HZ.out, HKp4.out.trans (KeepsS.below HA5.out), below_step HB4.out HA5.out⟩
end
end Go.Proofs.YtglfebpgdghlfaaDoor.L
end
section
namespace Go.Proofs.YtglfebpgdghlfaaDoor.L
open Go.RowKit Go.ChangeShapes Go.WideShapes Go.Proofs.YtglfebpgdghlfaaDoorW.PrintWords Go.Proofs.YtglfebpgdghlfaaDoorW.PrintLast Go.Proofs.YtglfebpgdghlfaaDoorW.PrintMore
attribute [local go_sem] max2_int min2_int max_two min_two max_three min_three max_four min_four
theorem slots2 {W : World} {rb : Nat} {y0 y1 : Value} {T : TypeId} (h : W.heap[rb]? = some (.cells #[y0, y1] T (0, 0))) (u0 : Value) :
    W.cell? ⟨rb, 0, none⟩ = some y0 ∧ W.frozen? ⟨rb, 0, none⟩ = false ∧ (W.setCell ⟨rb, 0, none⟩ u0).cell? ⟨rb, 1, none⟩ = some y1 ∧ (W.setCell ⟨rb, 0, none⟩ u0).frozen? ⟨rb, 1, none⟩ = false :=
  ⟨(blk_cell h 0).trans rfl, blk_frozen h 0, (blk_cell (blk_set h 0 u0) 1).trans rfl, blk_frozen (blk_set h 0 u0) 1⟩
theorem res2 {W : World} {rb : Nat} {y0 y1 : Value} {T : TypeId} (h : W.heap[rb]? = some (.cells #[y0, y1] T (0, 0))) (u0 u1 : Value) :
    ((W.setCell ⟨rb, 0, none⟩ u0).setCell ⟨rb, 1, none⟩ u1).cell? ⟨rb, 0, none⟩ = some u0 ∧ ((W.setCell ⟨rb, 0, none⟩ u0).setCell ⟨rb, 1, none⟩ u1).cell? ⟨rb, 1, none⟩ = some u1 :=
  ⟨(blk_cell (box2 h u0 u1) 0).trans rfl, (blk_cell (box2 h u0 u1) 1).trans rfl⟩
abbrev zeroS : Array Value := #[.slice none 0 0, .int .i64 0]
def RebPost (r : Scene × Int × Int) (w : World) (e : Ending) (w' : World) : Prop :=
  ∃ A c, e = .returned (.tuple #[.agg #[.slice A r.1.nodes.length c, .int .i64 r.1.root], .int .i64 r.2.1, .int .i64 r.2.2]) ∧ kNode.R 26 w' w.heap.size (fun _ => True) (.slice A r.1.nodes.length c) r.1.nodes ∧ Below w.heap.size w w'
theorem RebPost.no {r : Scene × Int × Int} {w w' : World} {er p : Int} (hr : r = (⟨[], 0⟩, er, p)) (hB : Below w.heap.size w w') : RebPost r w (.returned (.tuple #[.agg #[.slice none 0 0, .int .i64 0], .int .i64 er, .int .i64 p])) w' := by
  subst hr
  exact ⟨none, 0, rfl, Kd.R_nil _ _ _ _ _, hB⟩
set_option maxRecDepth 100000 in
set_option maxHeartbeats 8000000 in
theorem rapp_any (A : Option Addr) (c : Nat) (a : Scene) (Al : Option Addr) (cl : Nat) (l : List Opn) (w : World) (h : kNode.C w A a.nodes.length a.nodes) (hl : kOpn.C w Al l.length l) (hT : Tabs w) (hn : a.nodes.length ≤ 1000000) (hM : rows a.nodes ≤ 400000) (ha : ∀ i : Nat, i < a.nodes.length → OkN 4000 (nd a.nodes i)) (ho : ∀ k : Nat, k < l.length → OpOk (op l k)) (hn60 : l.length ≤ 60) :
    Calls Tryd.prog 29 #[.agg #[.slice A a.nodes.length c, .int .i64 a.root], .slice Al l.length cl] w (RebPost (applyR a l) w) := by
  have HR := Aside0.mk h
  have HOps := Aside0.mk hl
  have HT := Aside0.mk hT
  have HM := Aside0.mk hM
  have HOk := Aside0.mk ha
  have HOp := Aside0.mk ho
  have HB := Aside0.mk (below_alloc (below_alloc (Below.refl w.heap.size w) (.cells #[.slice A a.nodes.length c, .int .i64 a.root] 39)) (.cells zeroS 39))
  have k0 := box_cell2 w _ rfl #[.slice A a.nodes.length c, .int .i64 a.root] 39 (.cells zeroS 39) 0 (.slice A a.nodes.length c) rfl
  have k1 := box_cell2 w _ rfl #[.slice A a.nodes.length c, .int .i64 a.root] 39 (.cells zeroS 39) 1 (.int .i64 a.root) rfl
  have HRes := Aside0.mk (show ((w.alloc (.cells #[.slice A a.nodes.length c, .int .i64 a.root] 39)).alloc (.cells zeroS 39)).heap[w.heap.size + 1]? = some (.cells zeroS 39 (0, 0)) from by
    have := heap_alloc_new (w.alloc (.cells #[.slice A a.nodes.length c, .int .i64 a.root] 39)) (.cells zeroS 39)
    simpa using this)
  have hu := Tryd.underlying39
  have hub := Tryd.underlying89
  have hmm := @run_makeMap Tryd.prog
  clear h hl hT hM ha ho
  go_enter Tryd.func29, Tryd.ntmps29
  go_wp2_with fail
  refine (typed_any A c a _ (Kd.C_below HR.out HB.out) (HT.out.below HB.out) (fun i hi => (HOk.out i hi).texts)).mono ?_
  rintro e w1 ⟨rfl, hB1⟩
  replace k0 := pw_cell_below hB1 k0
  replace k1 := pw_cell_below hB1 k1
  have HRes1 := Aside0.mk ((hB1.block _ (blk_lt HRes.out)).trans HRes.out)
  have HB1 := Aside0.mk (below_step HB.out hB1)
  clear hB1 HRes HB
  by_cases hty : ¬ (typedS newTab a.nodes).1 = 0
  · have HE := Aside0.mk (show applyR a l = (⟨[], 0⟩, (typedS newTab a.nodes).1, -1) from if_neg hty)
    have dz : ((typedS newTab a.nodes).1 != 0) = true := by simpa using hty
    obtain ⟨e0, e0f, e1, e1f⟩ := slots2 HRes1.out (.slice none 0 0)
    clear hty
    go_wp2
    have h2 := res2 HRes1.out (.slice none 0 0) (.int .i64 0)
    exact bodyPost_ret (v := .tuple #[.agg #[.slice none 0 0, .int .i64 0], .int .i64 (typedS newTab a.nodes).1, .int .i64 (-1)]) (by simp [results, Tryd.results29, go_sem, h2]) rfl (RebPost.no HE.out (below_set2 HB1.out (Nat.le_succ _)))
  replace hty := Classical.byContradiction hty
  have HTy := Aside0.mk hty
  rw [hty]
  clear hty
  go_wp2_with fail
  refine (is_any A c a _ (Kd.C_below HR.out HB1.out) HM.out).mono ?_
  rintro e w2 ⟨rfl, hB2⟩
  replace k0 := pw_cell_below hB2 k0
  replace k1 := pw_cell_below hB2 k1
  have HRes2 := Aside0.mk ((hB2.block _ (blk_lt HRes1.out)).trans HRes1.out)
  have HB2 := Aside0.mk (below_step HB1.out hB2)
  clear hB2 HRes1 HB1
  by_cases hic : ¬ isC a = true
  · have HE := Aside0.mk (show applyR a l = (⟨[], 0⟩, 16, -1) from by unfold applyR; rw [if_pos HTy.out, if_neg hic])
    rw [Bool.eq_false_iff.2 hic]
    obtain ⟨e0, e0f, e1, e1f⟩ := slots2 HRes2.out (.slice none 0 0)
    clear hic
    go_wp2
    have h2 := res2 HRes2.out (.slice none 0 0) (.int .i64 0)
    exact bodyPost_ret (v := .tuple #[.agg #[.slice none 0 0, .int .i64 0], .int .i64 16, .int .i64 (-1)]) (by simp [results, Tryd.results29, go_sem, h2]) rfl (RebPost.no HE.out (below_set2 HB2.out (Nat.le_succ _)))
  replace hic := Classical.byContradiction hic
  have HIc := Aside0.mk hic
  have HPl := Aside0.mk (isC_right hic).pl
  have HE : Aside0 (applyR a l = resR (runO a.nodes l [] [] 0)) := ⟨by unfold applyR; rw [if_pos HTy.out, if_pos hic]⟩
  rw [hic]
  clear hic
  have hm0 := MapF.made Tryd.prog 3 w2
  have hAm := below_alloc (Below.refl w2.heap.size w2) (.map #[] 0)
  have hAb := below_alloc (Below.refl (w2.alloc (.map #[] 0)).heap.size (w2.alloc (.map #[] 0))) (.cells #[.slice A a.nodes.length c, .int .i64 a.root, .map (some w2.heap.size), .slice none 0 0] 89)
  have HBR := Aside0.mk (show BRel a A c (w2.heap.size + 1) w2.heap.size 0 (imgF []) (.slice none 0 0) [] w ((w2.alloc (.map #[] 0)).alloc (.cells #[.slice A a.nodes.length c, .int .i64 a.root, .map (some w2.heap.size), .slice none 0 0] 89)) from
    ⟨below_step (below_step HB2.out hAm) hAb, by
      have := heap_alloc_new (w2.alloc (.map #[] 0)) (.cells #[.slice A a.nodes.length c, .int .i64 a.root, .map (some w2.heap.size), .slice none 0 0] 89)
      simpa using this, by rw [imgF_nil]; exact hm0.below hAb, Kd.R_nil _ _ _ _ _, Nat.le_succ_of_le HB2.out.size, HB2.out.size⟩)
  have HResB := Aside0.mk ((hAb.block _ (Nat.lt_of_lt_of_le (blk_lt HRes2.out) hAm.size)).trans ((hAm.block _ (blk_lt HRes2.out)).trans HRes2.out))
  clear hm0 hAm hAb
  go_wp2
  clear k0 k1 hmm
  generalize (w2.alloc (.map #[] 0)).alloc (.cells #[.slice A a.nodes.length c, .int .i64 a.root, .map (some w2.heap.size), .slice none 0 0] 89) = W3 at HBR HResB ⊢
  generalize w2.heap.size + 1 = b at HBR ⊢
  generalize w2.heap.size = mb at HBR ⊢
  go_loopw [37] (fun v37 W => ∃ k : Nat, k ≤ l.length ∧ v37 = .int .i64 k ∧ ∃ base v out cnt, cnt ≤ k ∧ Aside0 (out.length = base.length ∧ out.length = k ∧ runO a.nodes (l.drop k) base out k = runO a.nodes l [] [] 0 ∧ ∀ i : Nat, i < out.length → OkN 5000 (nd out i)) ∧ Aside0 (BRel a A c b mb cnt (imgF base) v out w W) ∧ Aside0 (W.heap[w.heap.size + 1]? = some (.cells zeroS 39 (0, 0)))) (fun v37 _ => l.length - (intOf v37).toNat)
  case atStart => exact ⟨0, by omega, rfl, [], _, [], 0, by omega, ⟨rfl, rfl, rfl, fun i hi => by simp at hi⟩, HBR, HResB⟩
  case round =>
    clear HBR HResB
    obtain ⟨k, hk, rfl, base, v, out, cnt, hcnt, HI, HBR, HRes⟩ := hrel
    by_cases hlt : k < l.length
    · obtain ⟨ad, B1, d1, B2, d2, A1, c1, A2, c2, A3, c3, rfl, x0, x1, x2, x3, x4, x5, x6, x7, hO⟩ := at_op HOps.out k hlt
      replace x0 := pw_cell_below HBR.out.below x0
      replace x1 := pw_cell_below HBR.out.below x1
      replace x2 := pw_cell_below HBR.out.below x2
      replace x3 := pw_cell_below HBR.out.below x3
      replace x4 := pw_cell_below HBR.out.below x4
      replace x5 := pw_cell_below HBR.out.below x5
      replace x6 := pw_cell_below HBR.out.below x6
      replace x7 := pw_cell_below HBR.out.below x7
      have HO := Aside0.mk hO
      have hop := HOp.out k hlt
      have HOk1 := Aside0.mk hop
      have HStep := Aside0.mk (fun hz => (runO_step (a := a.nodes) (base := base) (out := out) hlt hz))
      have HBad := Aside0.mk (fun hz => (runO_bad (a := a.nodes) (base := base) (out := out) hlt hz))
      generalize op l k = o at x0 x1 x2 x3 x4 x5 x6 x7 HO HOk1 HStep HBad
      have hAo := below_alloc (Below.refl wr.heap.size wr) (.cells (opV o B1 d1 B2 d2 A1 c1 A2 c2 A3 c3) 61)
      have HBo := Aside0.mk (HBR.out.later hAo)
      have HReso := Aside0.mk ((hAo.block _ (blk_lt HRes.out)).trans HRes.out)
      clear hO hop hAo
      go_wp2_with fail
      refine (do_any (base := base) (cnt := cnt) _ HBo.out HI.out.1 HR.out (fun i hi => (HOk.out i hi).small (by omega)) (fun i hi => Nat.le_trans (HOk.out i hi).2.2.1 (by omega)) HPl.out hn (by omega) (by have := HI.out.2.1; omega) o B1 d1 B2 d2 A1 c1 A2 c2 A3 c3 HO.out (HOk1.out.node.small (by omega)) HOk1.out.sets (Nat.le_trans HOk1.out.script (by omega)) HOk1.out.b0 HOk1.out.b1 HOk1.out.k0 HOk1.out.k1).mono ?_
      rintro e w4 ⟨rfl, hR, hK, hB⟩
      have HRes4 := Aside0.mk (hK _ _ HReso.out)
      have HB4 := Aside0.mk hB
      have HR4 := Aside0.mk hR
      clear hR hK hB x0 x1 x2 x3 x4 x5 x6 x7
      by_cases hz : doErr a.nodes base out.length o = 0
      · obtain ⟨cnt', v', hc', hBR⟩ := HR4.out hz
        have HBR' := Aside0.mk hBR
        have h0 : (oneN a.nodes base o).2 = 0 := by
          refine Classical.byContradiction fun hn0 => ?_
          unfold doErr at hz
          rw [if_neg hn0] at hz
          exact hn0 hz
        have HI' := Aside0.mk (show (out ++ [(oneN a.nodes base o).1]).length = (base ++ [baseOf o]).length ∧ (out ++ [(oneN a.nodes base o).1]).length = k + 1 ∧ runO a.nodes (l.drop (k + 1)) (base ++ [baseOf o]) (out ++ [(oneN a.nodes base o).1]) (k + 1) = runO a.nodes l [] [] 0 ∧ ∀ i : Nat, i < (out ++ [(oneN a.nodes base o).1]).length → OkN 5000 (nd (out ++ [(oneN a.nodes base o).1]) i) from
          ⟨by rw [List.length_append, List.length_append, HI.out.1]; rfl, by rw [List.length_append, HI.out.2.1]; rfl, (HStep.out hz).symm.trans HI.out.2.2.1, nd_snoc HI.out.2.2.2 (oneN_ok HOk.out HOk1.out h0)⟩)
        rw [hz]
        clear hz hBR h0
        go_wp2
        go_roundw
        case rel => exact ⟨k + 1, by omega, by go_num, _, v', _, cnt', by omega, HI', HBR', HRes4⟩
        case measure => simp [intOf]; omega
      · have HE' := Aside0.mk (show applyR a l = (⟨[], 0⟩, doErr a.nodes base out.length o, (k : Int)) from by rw [HE.out, ← HI.out.2.2.1, HBad.out hz]; rfl)
        have dz : (doErr a.nodes base out.length o != 0) = true := by simpa using hz
        obtain ⟨e0, e0f, e1, e1f⟩ := slots2 HRes4.out (.slice none 0 0)
        clear hz
        generalize doErr a.nodes base out.length o = er at dz HE' ⊢
        go_wp2
        have h2 := res2 HRes4.out (.slice none 0 0) (.int .i64 0)
        exact bodyPost_ret (v := .tuple #[.agg #[.slice none 0 0, .int .i64 0], .int .i64 er, .int .i64 (k : Int)]) (by simp [results, Tryd.results29, go_sem, h2]) rfl (RebPost.no HE'.out (below_set2 HB4.out (Nat.le_succ _)))
    · have HRun := Aside0.mk (show runO a.nodes l [] [] 0 = .inl out from by rw [← HI.out.2.2.1]; exact runO_end (by omega))
      have HE' := Aside0.mk (show applyR a l = finR out from by rw [HE.out, HRun.out]; rfl)
      obtain ⟨Av, cv, hv⟩ := Kd.R_slice HBR.out.rows
      subst hv
      have hol : out.length ≤ 60 := by have := HI.out.2.1; omega
      have b3 : wr.cell? ⟨b, 3, none⟩ = some (.slice Av out.length cv) := blk_at HBR.out.blk 3 rfl
      have hbl := blk_lt HBR.out.blk
      have hwp : IntKind.i64.wrap ((out.length : Int) - 1) = (out.length : Int) - 1 := wrap_i (by omega) (by omega)
      go_wp2
      go_region
      have hA5 := below_alloc (Below.refl wr.heap.size wr) (.cells #[.slice Av out.length cv, .int .i64 ((out.length : Int) - 1)] 39)
      have hA5d : Below wr.heap.size wr (wr.alloc (.cells #[.slice Av out.length cv, .int .i64 ((out.length : Int) - 1)] 39)).drew := below_drew hA5
      have HBR5 := Aside0.mk (HBR.out.later hA5d)
      have HRes5 := Aside0.mk ((hA5d.block _ (blk_lt HRes.out)).trans HRes.out)
      have hX5 : (wr.alloc (.cells #[.slice Av out.length cv, .int .i64 ((out.length : Int) - 1)] 39)).drew.heap[wr.heap.size]? = some (.cells #[.slice Av out.length cv, .int .i64 ((out.length : Int) - 1)] 39 (0, 0)) := by
        show (wr.alloc _).heap[wr.heap.size]? = _
        simpa using heap_alloc_new wr _
      have HX5 := Aside0.mk hX5
      have hge : w.heap.size + 1 < wr.heap.size := blk_lt HRes.out
      have HGe := Aside0.mk hge
      clear hA5 hA5d hX5 b3 hbl hwp hge HBR HRes
      generalize (wr.alloc (.cells #[.slice Av out.length cv, .int .i64 ((out.length : Int) - 1)] 39)).drew = W5 at HBR5 HRes5 HX5 ⊢
      generalize wr.heap.size = g at HX5 HGe ⊢
      have s0 : W5.cell? ⟨g, 0, none⟩ = some (.slice Av out.length cv) := blk_at HX5.out 0 rfl
      have s1 : W5.cell? ⟨g, 1, none⟩ = some (.int .i64 ((out.length : Int) - 1)) := blk_at HX5.out 1 rfl
      have HC5 := Aside0.mk (Kd.R_reads' HBR5.out.rows).2.2
      go_wp2_with fail
      refine (typed_any Av cv (⟨out, (out.length : Int) - 1⟩ : Scene) W5 HC5.out (HT.out.below HBR5.out.below) (fun i hi => (HI.out.2.2.2 i hi).texts)).mono ?_
      rintro e w6 ⟨rfl, hB6⟩
      replace s0 := pw_cell_below hB6 s0
      replace s1 := pw_cell_below hB6 s1
      have HRes6 := Aside0.mk ((hB6.block _ (blk_lt HRes5.out)).trans HRes5.out)
      have HBR6 := Aside0.mk (HBR5.out.later hB6)
      clear hB6 HC5 HRes5 HBR5 HX5
      dsimp only
      by_cases hty2 : ¬ (typedS newTab out).1 = 0
      · have HX := Aside0.mk (show applyR a l = (⟨[], 0⟩, (typedS newTab out).1, -1) from by rw [HE'.out]; unfold finR; rw [if_neg hty2])
        have dz : ((typedS newTab out).1 != 0) = true := by simpa using hty2
        obtain ⟨e0, e0f, e1, e1f⟩ := slots2 HRes6.out (.slice none 0 0)
        have HB6 := Aside0.mk HBR6.out.below
        clear hty2
        generalize (typedS newTab out).1 = er at dz HX ⊢
        go_wp2
        have h2 := res2 HRes6.out (.slice none 0 0) (.int .i64 0)
        exact bodyPost_ret (v := .tuple #[.agg #[.slice none 0 0, .int .i64 0], .int .i64 er, .int .i64 (-1)]) (by simp [results, Tryd.results29, go_sem, h2]) rfl (RebPost.no HX.out (below_set2 HB6.out (Nat.le_succ _)))
      replace hty2 := Classical.byContradiction hty2
      have HTy2 := Aside0.mk hty2
      rw [hty2]
      clear hty2
      have HC6 := Aside0.mk (Kd.R_reads' HBR6.out.rows).2.2
      have HRw := Aside0.mk (rows_ok HI.out.2.2.2 hol)
      go_wp2_with fail
      refine (gcheck_any Av cv (⟨out, (out.length : Int) - 1⟩ : Scene) w6 HC6.out HRw.out).mono ?_
      rintro e w7 ⟨rfl, hB7⟩
      replace s0 := pw_cell_below hB7 s0
      replace s1 := pw_cell_below hB7 s1
      have HRes7 := Aside0.mk ((hB7.block _ (blk_lt HRes6.out)).trans HRes6.out)
      have HBR7 := Aside0.mk (HBR6.out.later hB7)
      clear hB7 HC6 HRes6 HBR6
      by_cases hgc : ¬ (gcheck (⟨out, (out.length : Int) - 1⟩ : Scene)).1 = 0
      · have HX := Aside0.mk (show applyR a l = (⟨[], 0⟩, (gcheck (⟨out, (out.length : Int) - 1⟩ : Scene)).1, -1) from by rw [HE'.out]; unfold finR; rw [if_pos HTy2.out]; exact if_neg hgc)
        have dz : ((gcheck (⟨out, (out.length : Int) - 1⟩ : Scene)).1 != 0) = true := by simpa using hgc
        obtain ⟨e0, e0f, e1, e1f⟩ := slots2 HRes7.out (.slice none 0 0)
        have HB6 := Aside0.mk HBR7.out.below
        clear hgc
        generalize (gcheck (⟨out, (out.length : Int) - 1⟩ : Scene)).1 = er at dz HX ⊢
        go_wp2
        have h2 := res2 HRes7.out (.slice none 0 0) (.int .i64 0)
        exact bodyPost_ret (v := .tuple #[.agg #[.slice none 0 0, .int .i64 0], .int .i64 er, .int .i64 (-1)]) (by simp [results, Tryd.results29, go_sem, h2]) rfl (RebPost.no HX.out (below_set2 HB6.out (Nat.le_succ _)))
      replace hgc := Classical.byContradiction hgc
      have HGc := Aside0.mk hgc
      rw [hgc]
      clear hgc
      have HC7 := Aside0.mk (Kd.R_reads' HBR7.out.rows).2.2
      go_wp2_with fail
      refine (is_any Av cv (⟨out, (out.length : Int) - 1⟩ : Scene) w7 HC7.out HRw.out).mono ?_
      rintro e w8 ⟨rfl, hB8⟩
      replace s0 := pw_cell_below hB8 s0
      replace s1 := pw_cell_below hB8 s1
      have HRes8 := Aside0.mk ((hB8.block _ (blk_lt HRes7.out)).trans HRes7.out)
      have HBR8 := Aside0.mk (HBR7.out.later hB8)
      clear hB8 HC7 HRes7 HBR7
      by_cases hcc : ¬ isC (⟨out, (out.length : Int) - 1⟩ : Scene) = true
      · have HX := Aside0.mk (show applyR a l = (⟨[], 0⟩, 16, -1) from by rw [HE'.out]; unfold finR; rw [if_pos HTy2.out]; exact (if_pos HGc.out).trans (if_neg hcc))
        rw [Bool.eq_false_iff.2 hcc]
        obtain ⟨e0, e0f, e1, e1f⟩ := slots2 HRes8.out (.slice none 0 0)
        have HB6 := Aside0.mk HBR8.out.below
        clear hcc
        go_wp2
        have h2 := res2 HRes8.out (.slice none 0 0) (.int .i64 0)
        exact bodyPost_ret (v := .tuple #[.agg #[.slice none 0 0, .int .i64 0], .int .i64 16, .int .i64 (-1)]) (by simp [results, Tryd.results29, go_sem, h2]) rfl (RebPost.no HX.out (below_set2 HB6.out (Nat.le_succ _)))
      replace hcc := Classical.byContradiction hcc
      have HX := Aside0.mk (show applyR a l = ((⟨out, (out.length : Int) - 1⟩ : Scene), 0, 0) from by rw [HE'.out]; unfold finR; rw [if_pos HTy2.out]; exact (if_pos HGc.out).trans (if_pos hcc))
      rw [hcc]
      clear hcc
      obtain ⟨e0, e0f, e1, e1f⟩ := slots2 HRes8.out (.slice Av out.length cv)
      have hne : g ≠ w.heap.size + 1 := by have := HGe.out; omega
      go_wp2
      have h2 := res2 HRes8.out (.slice Av out.length cv) (.int .i64 ((out.length : Int) - 1))
      refine bodyPost_ret (v := .tuple #[.agg #[.slice Av out.length cv, .int .i64 ((out.length : Int) - 1)], .int .i64 0, .int .i64 0]) (by simp [results, Tryd.results29, go_sem, h2]) rfl
        ⟨Av, cv, by rw [HX.out], ?_, below_set2 HBR8.out.below (Nat.le_succ _)⟩
      rw [HX.out]
      exact R_type (R_type HBR8.out.rows HRes8.out (by decide) _ _) (blk_set HRes8.out 0 _) (by decide) _ _
end Go.Proofs.YtglfebpgdghlfaaDoor.L
end
section
namespace Go.Proofs.YtglfebpgdghlfaaDoor.L
open Go.RowKit Go.ChangeShapes Go.WideShapes Go.Proofs.YtglfebpgdghlfaaDoorW.PrintWords Go.Proofs.YtglfebpgdghlfaaDoorW.PrintLast Go.Proofs.YtglfebpgdghlfaaDoorW.PrintMore
attribute [local go_sem] max2_int min2_int max_two min_two max_three min_three max_four min_four
structure ABx (w : World) (A : Option Addr) (c : Nat) (a : Scene) (W : World) : Prop where
  below : Below w.heap.size w W
  sb : W.heap[w.heap.size]? = some (.cells #[.slice A a.nodes.length c, .int .i64 a.root] 39 (0, 0))
  res : W.heap[w.heap.size + 1]? = some (.cells zeroS 39 (0, 0))
  non : W.heap[w.heap.size + 2]? = some (.cells zeroS 39 (0, 0))
theorem ABx.later {w : World} {A : Option Addr} {c : Nat} {a : Scene} {W W1 : World} (h : ABx w A c a W) (hb : Below W.heap.size W W1) : ABx w A c a W1 :=
  ⟨below_step h.below hb, (hb.block _ (blk_lt h.sb)).trans h.sb, (hb.block _ (blk_lt h.res)).trans h.res, (hb.block _ (blk_lt h.non)).trans h.non⟩
structure AppRel (w : World) (g : Nat) (root : Int) (base : List Int) (bv : Value) (out : List Node) (ov : Value) (W : World) : Prop where
  box : W.heap[g]? = some (.cells #[ov, .int .i64 root] 39 (0, 0))
  ge : w.heap.size + 2 < g
  rows : kNode.R 26 W w.heap.size (fun k => some k ≠ bv.ownBlock) ov out
  br : (Kd.int .i64).R 3 W w.heap.size (fun _ => True) bv base
theorem AppRel.later {w : World} {g : Nat} {root : Int} {base : List Int} {bv : Value} {out : List Node} {ov : Value} {W W1 : World} (h : AppRel w g root base bv out ov W) (hb : Below W.heap.size W W1) : AppRel w g root base bv out ov W1 :=
  ⟨(hb.block _ (blk_lt h.box)).trans h.box, h.ge, Kd.R_below h.rows hb, Kd.R_below h.br hb⟩
theorem RebPost.bad {r : Scene × Int × Int} {w w' : World} {er p : Int} (hr : r = (⟨[], 0⟩, er, p)) (hB : Below w.heap.size w w') : RebPost r w (.returned (.tuple #[.agg #[.slice none 0 0, .int .i64 0], .int .i64 er, .int .i64 p])) w' := RebPost.no hr hB
theorem Lives.box4 {b : Nat} {W : World} (h : Lives 4 b W) (u0 u1 u2 u3 : Value) : ∃ T, ((((W.setCell ⟨b, 0, none⟩ u0).setCell ⟨b, 1, none⟩ u1).setCell ⟨b, 2, none⟩ u2).setCell ⟨b, 3, none⟩ u3).heap[b]? = some (.cells #[u0, u1, u2, u3] T (0, 0)) := by
  obtain ⟨cs, hk, T, h⟩ := h
  have h2 := blk_set (blk_set (blk_set (blk_set h 0 u0) 1 u1) 2 u2) 3 u3
  refine ⟨T, h2.trans ?_⟩
  obtain ⟨l⟩ := cs
  match l, hk with
  | [_, _, _, _], _ => rfl
theorem ABx.grown {w : World} {A : Option Addr} {c : Nat} {a : Scene} {W W1 : World} {v : Value} (h : ABx w A c a W) (hne : ∀ (q : Nat) (cs : Array Value), W.heap[q]? = some (.cells cs 39 (0, 0)) → some q ≠ v.ownBlock) (hg : W.grownBy W1 v.ownBlock) (hB : Below w.heap.size w W1) : ABx w A c a W1 :=
  ⟨hB, blk_grown h.sb hg (hne _ _ h.sb), blk_grown h.res hg (hne _ _ h.res), blk_grown h.non hg (hne _ _ h.non)⟩
theorem ABx.far {w : World} {A : Option Addr} {c : Nat} {a : Scene} {W : World} {g i : Nat} (h : ABx w A c a W) (hg : w.heap.size + 2 < g) (u : Value) : ABx w A c a (W.setCell ⟨g, i, none⟩ u) :=
  ⟨below_set h.below (by omega), (Below.heap_setCell W ⟨g, i, none⟩ u _ (by show w.heap.size ≠ g; omega)).trans h.sb, (Below.heap_setCell W ⟨g, i, none⟩ u _ (by show w.heap.size + 1 ≠ g; omega)).trans h.res, (Below.heap_setCell W ⟨g, i, none⟩ u _ (by show w.heap.size + 2 ≠ g; omega)).trans h.non⟩
section
variable {w : World} {g : Nat} {root : Int} {base : List Int} {bv : Value} {out : List Node} {ov : Value} {W W1 : World}
theorem AppRel.push {v1 : Value} {m : Node} (h : AppRel w g root base bv out ov W) (hR : kNode.R 26 W1 w.heap.size (fun k => some k ≠ bv.ownBlock) v1 (out ++ [m])) (hg : W.grownBy W1 ov.ownBlock) :
    W1.heap[g]? = some (.cells #[ov, .int .i64 root] 39 (0, 0)) ∧ AppRel w g root base bv (out ++ [m]) v1 (W1.setCell ⟨g, 0, none⟩ v1) := by
  have hblk := blk_grown h.box hg (Kd.R_ne h.rows h.box (by decide))
  refine ⟨hblk, ?_, h.ge, R_type hR hblk (by decide) _ _, R_type (Kd.R_over h.br (Kd.R_mono h.rows (fun _ _ => trivial) : kNode.R 26 W w.heap.size (fun _ => True) ov out) (by decide) hg) hblk (by decide) _ _⟩
  have := blk_set hblk 0 v1
  simpa using this
end
end Go.Proofs.YtglfebpgdghlfaaDoor.L
end
section
namespace Go.Proofs.YtglfebpgdghlfaaDoor.L
open Go.RowKit Go.ChangeShapes Go.WideShapes Go.Proofs.YtglfebpgdghlfaaDoorW.PrintWords Go.Proofs.YtglfebpgdghlfaaDoorW.PrintLast Go.Proofs.YtglfebpgdghlfaaDoorW.PrintMore
attribute [local go_sem] max2_int min2_int max_two min_two max_three min_three max_four min_four
def PO (ns : List Node) (m : List Int) : Prop := ∀ (a : List Int) (x : Int) (b : List Int), m = a ++ x :: b → ∀ k ∈ kids ns x, k ∈ a
theorem PO.nil (ns : List Node) : PO ns [] := fun a x b e => by
  have := congrArg List.length e
  simp at this
theorem PO.snoc {ns : List Node} {m : List Int} {x : Int} (h : PO ns m) (hk : ∀ k ∈ kids ns x, k ∈ m) : PO ns (m ++ [x]) := fun a y b e => by
  rcases snoc_cases b with rfl | ⟨b', z, rfl⟩
  · have e1 : m ++ [x] = a ++ [y] := e
    obtain ⟨rfl, e2⟩ := List.append_inj' e1 rfl
    injection e2 with e2
    subst e2
    exact hk
  · have e1 : m ++ [x] = (a ++ y :: b') ++ [z] := by rw [e]; simp
    obtain ⟨e2, _⟩ := List.append_inj' e1 rfl
    exact h a y b' e2
theorem M_po {ns : List Node} (h : Dag ns) : ∀ (N : Nat) (a : Int) (met : List Int), reachN ns a < N → Pl ns a → Shut ns met → PO ns met → PO ns (M ns a met)
  | 0, _, _, hN, _, _, _ => by omega
  | N + 1, a, met, hN, ha, hs, hp => by
    by_cases hm : a ∈ met
    · rw [M_in h ha hm]; exact hp
    · rw [M_out h ha hm]
      have key : ∀ (l met : List Int), (∀ k ∈ l, k ∈ kids ns a) → Shut ns met → PO ns met → (PO ns (ML ns l met) ∧ (∀ x ∈ met, x ∈ ML ns l met) ∧ ∀ k ∈ l, k ∈ ML ns l met) := by
        intro l
        induction l with
        | nil => intro met _ hs hp; exact ⟨hp, fun x hx => hx, fun k hk => by simp at hk⟩
        | cons k l ih =>
          intro met hl hs hp
          have hk := hl k (by simp)
          have hN' : reachN ns k < N := by have := h.lower ha hk; omega
          have m1 := M_met h N k met hN' (h.kid ha hk) hs (shut_next hs k)
          have p1 := M_po h N k met hN' (h.kid ha hk) hs hp
          obtain ⟨r1, e1, _⟩ := m1.ext
          obtain ⟨p2, i2, k2⟩ := ih (M ns k met) (fun y hy => hl y (by simp [hy])) m1.shut p1
          rw [ML_cons]
          refine ⟨p2, fun x hx => i2 x (by rw [e1]; exact List.mem_append_left _ hx), fun y hy => ?_⟩
          rcases List.mem_cons.1 hy with rfl | hy
          · exact i2 _ m1.here
          · exact k2 y hy
      obtain ⟨p2, _, k2⟩ := key (kids ns a) met (fun _ hk => hk) hs hp
      exact p2.snoc k2
theorem ord_po {s : Scene} (h : Right s) : PO s.nodes (ord s) := M_po h.dag _ _ _ (Nat.lt_succ_self _) ⟨h.r0, h.r1⟩ (Shut.nil _) (PO.nil _)
theorem idx_kid {s : Scene} (h : Right s) {p : Nat} (hp : p < s.nodes.length) {k : Int} (hk : k ∈ (nd s.nodes p).kids) : idx s k < idx s (p : Int) := by
  obtain ⟨a, b, e⟩ := List.append_of_mem (ord_all h p hp)
  have hka : k ∈ a := ord_po h a (p : Int) b e k (by rw [kids_nat]; exact hk)
  have hnd := ord_nodup h
  have hpa : ¬ (p : Int) ∈ a := fun hm => by
    rw [e] at hnd
    exact (List.nodup_append.1 hnd).2.2 _ hm _ (by simp) rfl
  unfold idx
  rw [e, List.idxOf_append, if_pos hka, List.idxOf_append, if_neg hpa]
  have := List.idxOf_lt_length_of_mem hka
  omega
theorem isC_ahead {s : Scene} (h : Right s) (hc : isC s = true) {p : Nat} (hp : p < s.nodes.length) {k : Int} (hk : k ∈ (nd s.nodes p).kids) : 0 ≤ k ∧ k < (p : Int) := by
  have hpl := h.pl p hp k hk
  obtain ⟨q, rfl⟩ : ∃ q : Nat, k = (q : Int) := ⟨k.toNat, by omega⟩
  have h1 := idx_kid h hp hk
  rw [isC_idx h hc (by omega), isC_idx h hc hp] at h1
  omega
theorem isC_root {s : Scene} (h : Right s) (hc : isC s = true) : s.root = (s.nodes.length : Int) - 1 := by
  have e := isC_eq h hc
  have e2 : s.root = (⟨canonL s, (s.nodes.length : Int) - 1⟩ : Scene).root := congrArg Scene.root e
  exact e2
def keepO (i : Nat) : Opn := ⟨1, (i : Int), [], [], nodez⟩
def newO (n : Node) : Opn := ⟨3, 0, [], [], n⟩
def keepsFrom (i m : Nat) : List Opn := (List.range' i m).map keepO
theorem kids_fine {s : Scene} (h : Right s) (hc : isC s = true) {p : Nat} (hp : p < s.nodes.length) : kidsBad p (nd s.nodes p).kids = false := by
  refine Bool.eq_false_iff.2 (fun hb => ?_)
  obtain ⟨j, hj, hn⟩ := of_decide_eq_true hb
  have hk : rd (nd s.nodes p).kids (j : Int) ∈ (nd s.nodes p).kids := by rw [rd_eq hj]; exact List.getElem_mem hj
  have := isC_ahead h hc hp hk
  unfold noPlace at hn
  rcases Bool.or_eq_true_iff.1 hn with h1 | h1
  · have := of_decide_eq_true h1; omega
  · have := of_decide_eq_true h1; omega
theorem iota_succ (n : Nat) : iota (n + 1) = iota n ++ [(n : Int)] := by
  unfold iota
  rw [List.range_succ, List.map_append]; rfl
theorem mem_iota {n : Nat} {k : Int} : k ∈ iota n ↔ 0 ≤ k ∧ k < (n : Int) := by
  unfold iota
  rw [List.mem_map]
  constructor
  · rintro ⟨p, hp, rfl⟩
    have := List.mem_range.1 hp
    omega
  · intro h
    exact ⟨k.toNat, List.mem_range.2 (by omega), by omega⟩
theorem one_keep {s : Scene} (h : Right s) (hc : isC s = true) {i : Nat} (hi : i < s.nodes.length) : oneN s.nodes (iota i) (keepO i) = (nd s.nodes i, 0) := by
  have e1 : oneN s.nodes (iota i) (keepO i) = keepN s.nodes (iota i) (keepO i) := by unfold oneN; exact if_pos rfl
  rw [e1]
  unfold keepN
  rw [if_pos ⟨rfl, rfl, rfl, decide_eq_true ⟨by show (0 : Int) ≤ (i : Int); omega, by show (i : Int) < _; omega, fun hm => by have := (mem_iota.1 hm).2; have e : (keepO i).base = (i : Int) := rfl; omega⟩⟩]
  have e2 : (keepO i).base.toNat = i := by show (i : Int).toNat = i; omega
  rw [e2]
  unfold imgN
  have e3 : (nd s.nodes i).kids.map (img (iota i)) = (nd s.nodes i).kids := by
    conv => rhs; rw [← List.map_id (nd s.nodes i).kids]
    refine List.map_congr_left (fun k hk => ?_)
    obtain ⟨h0, h1⟩ := isC_ahead h hc hi hk
    obtain ⟨q, rfl⟩ : ∃ q : Nat, k = (q : Int) := ⟨k.toNat, by omega⟩
    unfold img
    rw [if_pos (mem_iota.2 ⟨h0, h1⟩), idxOf_iota _ _ (by omega)]
    rfl
  rw [e3]
theorem take_nd {ns : List Node} {i : Nat} (hi : i < ns.length) : ns.take i ++ [nd ns i] = ns.take (i + 1) := by
  rw [take_succ_getD nodez hi]; rfl
theorem run_keep {s : Scene} (h : Right s) (hc : isC s = true) : ∀ (m i : Nat), i + m = s.nodes.length → runO s.nodes (keepsFrom i m) (iota i) (s.nodes.take i) i = .inl s.nodes
  | 0, i, hi => by
    show Sum.inl (s.nodes.take i) = _
    rw [List.take_of_length_le (by omega)]
  | m + 1, i, hi => by
    have hlt : i < s.nodes.length := by omega
    have h1 := one_keep h hc hlt
    have hl : (s.nodes.take i).length = i := by rw [List.length_take]; omega
    have h2 : doErr s.nodes (iota i) (s.nodes.take i).length (keepO i) = 0 := by
      unfold doErr
      rw [h1, hl, kids_fine h hc hlt]
      rfl
    show (if doErr s.nodes (iota i) (s.nodes.take i).length (keepO i) = 0 then runO s.nodes (keepsFrom (i + 1) m) (iota i ++ [baseOf (keepO i)]) (s.nodes.take i ++ [(oneN s.nodes (iota i) (keepO i)).1]) (i + 1) else _) = _
    rw [if_pos h2, h1]
    have e1 : baseOf (keepO i) = (i : Int) := rfl
    rw [e1, ← iota_succ, take_nd hlt]
    exact run_keep h hc m (i + 1) (by omega)
theorem run_new {a : List Node} {s : Scene} (h : Right s) (hc : isC s = true) : ∀ (m i : Nat) (base : List Int), i + m = s.nodes.length → runO a ((s.nodes.drop i).map newO) base (s.nodes.take i) i = .inl s.nodes
  | 0, i, base, hi => by
    rw [List.drop_eq_nil_of_le (by omega)]
    show Sum.inl (s.nodes.take i) = _
    rw [List.take_of_length_le (by omega)]
  | m + 1, i, base, hi => by
    have hlt : i < s.nodes.length := by omega
    have hnd : s.nodes[i] = nd s.nodes i := by unfold nd; rw [getD_eq _ hlt]
    have hl : (s.nodes.take i).length = i := by rw [List.length_take]; omega
    rw [List.drop_eq_getElem_cons hlt, List.map_cons, hnd]
    have h1 : oneN a base (newO (nd s.nodes i)) = (nd s.nodes i, 0) := by
      unfold oneN
      have e1 : ¬ (newO (nd s.nodes i)).kind = 1 := by show ¬ (3 : Int) = 1; decide
      have e2 : ¬ (newO (nd s.nodes i)).kind = 2 := by show ¬ (3 : Int) = 2; decide
      have e3 : (newO (nd s.nodes i)).kind = 3 := rfl
      rw [if_neg e1, if_neg e2, if_pos e3]
      unfold freshN
      exact if_pos ⟨rfl, rfl, rfl⟩
    have h2 : doErr a base (s.nodes.take i).length (newO (nd s.nodes i)) = 0 := by
      unfold doErr
      rw [h1, hl, kids_fine h hc hlt]
      rfl
    show (if doErr a base (s.nodes.take i).length (newO (nd s.nodes i)) = 0 then runO a ((s.nodes.drop (i + 1)).map newO) (base ++ [baseOf (newO (nd s.nodes i))]) (s.nodes.take i ++ [(oneN a base (newO (nd s.nodes i))).1]) (i + 1) else _) = _
    rw [if_pos h2, h1, take_nd hlt]
    exact run_new h hc m (i + 1) _ (by omega)
theorem fin_same {s : Scene} (hty : (typedS newTab s.nodes).1 = 0) (h : Right s) (hc : isC s = true) : finR s.nodes = (s, 0, 0) := by
  have e : sceneOf s.nodes = s := by
    unfold sceneOf
    rw [← isC_root h hc]
  unfold finR
  rw [if_pos hty, e, if_pos (gcheck_right.2 h), if_pos hc]
theorem apply_keep {s : Scene} (hty : (typedS newTab s.nodes).1 = 0) (hc : isC s = true) : applyR s (keepsFrom 0 s.nodes.length) = (s, 0, 0) := by
  have h := isC_right hc
  unfold applyR
  rw [if_pos hty, if_pos hc]
  have := run_keep h hc s.nodes.length 0 (by omega)
  have e : iota 0 = [] := rfl
  rw [e, List.take_zero] at this
  rw [this]
  exact fin_same hty h hc
theorem apply_new {a s : Scene} (hta : (typedS newTab a.nodes).1 = 0) (hca : isC a = true) (hty : (typedS newTab s.nodes).1 = 0) (hc : isC s = true) : applyR a (s.nodes.map newO) = (s, 0, 0) := by
  have h := isC_right hc
  unfold applyR
  rw [if_pos hta, if_pos hca]
  have := run_new (a := a.nodes) h hc s.nodes.length 0 [] (by omega)
  rw [List.take_zero, List.drop_zero] at this
  rw [this]
  exact fin_same hty h hc
end Go.Proofs.YtglfebpgdghlfaaDoor.L
end
section
namespace Go.Proofs.YtglfebpgdghlfaaDoor.L
open Go.RowKit Go.ChangeShapes Go.WideShapes Go.Proofs.YtglfebpgdghlfaaDoorW.PrintWords Go.Proofs.YtglfebpgdghlfaaDoorW.PrintLast Go.Proofs.YtglfebpgdghlfaaDoorW.PrintMore
attribute [local go_sem] max2_int min2_int max_two min_two max_three min_three max_four min_four
theorem one_right (n : Node) (hk : n.kids = []) : Right ⟨[n], 0⟩ := by
  have hk0 : ∀ p : Nat, p < 1 → kids [n] (p : Int) = [] := fun p hp => by
    obtain rfl : p = 0 := by omega
    exact hk
  refine ⟨by show (0 : Int) ≤ 0; omega, by show (0 : Int) < ([n].length : Int); simp, fun p hp k hk' => ?_, fun p hp hc => ?_, fun p hp => ?_⟩
  · have h1 : p < 1 := by simpa using hp
    have h2 : k ∈ kids [n] (p : Int) := by rw [kids_nat]; exact hk'
    rw [hk0 p h1] at h2
    simp at h2
  · have h1 : p < 1 := by simpa using hp
    have hc' : Rch [n] (kids [n] (p : Int)) (p : Int) := hc
    rw [hk0 p h1] at hc'
    have : ∀ x, ¬ Rch [n] [] x := fun x hr => by
      induction hr with
      | base hb => simp at hb
      | step _ _ ih => exact ih
    exact this _ hc'
  · obtain rfl : p = 0 := by simpa using hp
    exact .base (by simp)
theorem one_isC (n : Node) (hk : n.kids = []) : isC ⟨[n], 0⟩ = true := by
  refine (isC_iff (one_right n hk)).2 ?_
  have ho : ord ⟨[n], 0⟩ = [0] := by
    have hl := ord_len (one_right n hk)
    have hp := ord_pl (one_right n hk)
    match h : ord ⟨[n], 0⟩, hl with
    | [x], _ =>
      have := hp x (by rw [h]; simp)
      have h1 := this.1
      have h2 := this.2
      have h3 : (([n] : List Node).length : Int) = 1 := rfl
      have : x = 0 := by
        have h4 : x < (([n] : List Node).length : Int) := h2
        omega
      rw [this]
  have hc : canonL ⟨[n], 0⟩ = [n] := by
    unfold canonL
    rw [ho]
    show [relab _ (nd [n] 0)] = [n]
    unfold relab
    have e : (nd [n] 0) = n := rfl
    rw [e, hk]
    cases n
    simp only at hk
    subst hk
    rfl
  rw [hc]
  rfl
def bA : Node := ⟨4, [1], [⟨#[97]⟩], []⟩
def bB : Node := ⟨4, [2], [⟨#[97]⟩], []⟩
def sA : Scene := ⟨[bA], 0⟩
def sB : Scene := ⟨[bB], 0⟩
def eO : Opn := ⟨2, 0, [⟨false, 0, 2, ByteArray.empty⟩], [], nodez⟩
theorem sA_typed : (typedS newTab sA.nodes).1 = 0 := by kernel_rfl
theorem sB_typed : (typedS newTab sB.nodes).1 = 0 := by kernel_rfl
theorem sA_c : isC sA = true := one_isC bA rfl
theorem sB_c : isC sB = true := one_isC bB rfl
theorem sA_edit : applyR sA [eO] = (sB, 0, 0) := by
  unfold applyR
  rw [if_pos sA_typed, if_pos sA_c]
  have h1 : oneN sA.nodes [] eO = (bB, 0) := by kernel_rfl
  have h2 : doErr sA.nodes [] 0 eO = 0 := by
    unfold doErr
    rw [h1]
    kernel_rfl
  have h3 : runO sA.nodes [eO] [] [] 0 = .inl [bB] := by
    show (if doErr sA.nodes [] 0 eO = 0 then Sum.inl ([] ++ [(oneN sA.nodes [] eO).1]) else _) = _
    rw [if_pos h2, h1]
    rfl
  rw [h3]
  exact fin_same sB_typed (isC_right sB_c) sB_c
theorem sA_twice : applyR sA [keepO 0, keepO 0] = (⟨[], 0⟩, 21, 1) := by
  unfold applyR
  rw [if_pos sA_typed, if_pos sA_c]
  have h1 : oneN sA.nodes [] (keepO 0) = (bA, 0) := by kernel_rfl
  have h2 : doErr sA.nodes [] 0 (keepO 0) = 0 := by
    unfold doErr
    rw [h1]
    kernel_rfl
  have h3 : doErr sA.nodes [0] 1 (keepO 0) = 21 := by kernel_rfl
  have h4 : runO sA.nodes [keepO 0, keepO 0] [] [] 0 = .inr (21, 1) := by
    show (if doErr sA.nodes [] 0 (keepO 0) = 0 then (if doErr sA.nodes [0] 1 (keepO 0) = 0 then _ else Sum.inr (doErr sA.nodes [0] 1 (keepO 0), 1)) else _) = _
    rw [if_pos h2, h3]
    rfl
  rw [h4]
  rfl
theorem sA_none : applyR sA [] = (⟨[], 0⟩, 13, -1) := by
  unfold applyR
  rw [if_pos sA_typed, if_pos sA_c]
  show finR [] = _
  unfold finR
  have h1 : (typedS newTab ([] : List Node)).1 = 0 := rfl
  have h2 : gcheck (sceneOf []) = (13, -1) := by
    unfold gcheck
    rw [if_pos (.inl (by decide))]
  rw [if_pos h1, h2]
  rfl
theorem sA_ok : ∀ i : Nat, i < sA.nodes.length → OkN 4000 (nd sA.nodes i) := fun i hi => by
  match i, hi with
  | 0, _ => exact ⟨by decide, by decide, by decide, fun x hx => by
      have : x = ⟨#[97]⟩ := by simpa [sA, bA, nd] using hx
      subst this
      decide⟩
  | i + 1, h => exact absurd h (by show ¬ i + 1 < 1; omega)
theorem sB_small : ∀ i : Nat, i < sB.nodes.length → Small (nd sB.nodes i) := fun i hi => by
  match i, hi with
  | 0, _ => exact ⟨by decide, by decide, by decide⟩
  | i + 1, h => exact absurd h (by show ¬ i + 1 < 1; omega)
theorem eO_ok : ∀ k : Nat, k < [eO].length → OpOk (op [eO] k) := fun k hk => by
  match k, hk with
  | 0, _ => exact ⟨⟨by decide, by decide, by decide, fun x hx => by simp [op, eO, nodez] at hx⟩, by decide, by decide, fun x hx => by
      have : x = ⟨false, 0, 2, ByteArray.empty⟩ := by simpa [op, eO] using hx
      subst this
      decide, by decide, by decide, by decide, by decide⟩
  | k + 1, h => exact absurd h (by show ¬ k + 1 < 1; omega)
theorem keepO_ok (i : Nat) (hi : i ≤ 1000000) : OpOk (keepO i) :=
  ⟨⟨by simp [keepO, nodez], by simp [keepO, nodez], by simp [keepO, nodez], fun x hx => by simp [keepO, nodez] at hx⟩, by simp [keepO], by simp [keepO], fun x hx => by simp [keepO] at hx, by simp [keepO], by simp [keepO], by show -9223372036854775808 ≤ (i : Int); omega, by show (i : Int) ≤ 9223372036854775807; omega⟩
theorem kk_ok : ∀ k : Nat, k < [keepO 0, keepO 0].length → OpOk (op [keepO 0, keepO 0] k) := fun k hk => by
  match k, hk with
  | 0, _ => exact keepO_ok 0 (by omega)
  | 1, _ => exact keepO_ok 0 (by omega)
  | k + 2, h => exact absurd h (by show ¬ k + 2 < 2; omega)
end Go.Proofs.YtglfebpgdghlfaaDoor.L
end
section
namespace Go.Proofs.YtglfebpgdghlfaaDoor.L
open Go.RowKit Go.ChangeShapes Go.WideShapes Go.Proofs.YtglfebpgdghlfaaDoorW.PrintWords Go.Proofs.YtglfebpgdghlfaaDoorW.PrintLast Go.Proofs.YtglfebpgdghlfaaDoorW.PrintMore
attribute [local go_sem] max2_int min2_int max_two min_two max_three min_three max_four min_four
def elder {α : Type} (d : Kd α) (W0 : World) : Kd α where
  sz := d.sz
  E := []
  K := fun _ x cs => d.K W0 x cs
  M := fun _ _ _ x cs => d.K W0 x cs
  K_len := d.K_len
  K_one := d.K_one
  K_below := fun _ h => h
  K_of_M := fun h => h
  M_mono := fun _ h => h
  M_bound := fun h => h
  M_move := fun _ h => h
  M_lower := fun _ h => h
theorem elder_C {α : Type} {d : Kd α} {W0 w : World} {A : Option Addr} {n : Nat} {xs : List α} (hb : Below W0.heap.size W0 w) (h : (elder d W0).C w A n xs) : d.C w A n xs :=
  ReadsRow.imp_ h (Below.refl _ _) (fun _ _ hp => d.K_below hb hp)
theorem kOpn_mk {w : World} {o : Opn} {B1 : Option Addr} {d1 : Nat} {B2 : Option Addr} {d2 : Nat} {A1 : Option Addr} {c1 : Nat} {A2 : Option Addr} {c2 : Nat} {A3 : Option Addr} {c3 : Nat} (h : OpnC w o B1 d1 B2 d2 A1 c1 A2 c2 A3 c3) :
    kOpn.K w o [.int .i64 o.kind, .int .i64 o.base, .slice B1 o.sets.length d1, .slice B2 o.script.length d2, .int .i64 o.node.kind, .slice A1 o.node.ints.length c1, .slice A2 o.node.texts.length c2, .slice A3 o.node.kids.length c3] :=
  ⟨[_], _, rfl, rfl, [_], _, rfl, rfl, [_], _, rfl, ⟨B1, d1, rfl, h.ls, h.s⟩, [_], _, rfl, ⟨B2, d2, rfl, h.le, h.e⟩, kNode_mk h.n⟩
theorem info_op : (Tryd.prog.info? 61).map (fun i => (i.zero, i.size, i.bytes)) = some (some (.agg #[.int .i64 0, .int .i64 0, .slice none 0 0, .slice none 0 0, .int .i64 0, .slice none 0 0, .slice none 0 0, .slice none 0 0]), 8, 144) := by kernel_rfl
end Go.Proofs.YtglfebpgdghlfaaDoor.L
end
section
namespace Go.Proofs.YtglfebpgdghlfaaDoor.L
open Go.RowKit Go.ChangeShapes Go.WideShapes Go.Proofs.YtglfebpgdghlfaaDoorW.PrintWords Go.Proofs.YtglfebpgdghlfaaDoorW.PrintLast Go.Proofs.YtglfebpgdghlfaaDoorW.PrintMore
attribute [local go_sem] max2_int min2_int max_two min_two max_three min_three max_four min_four
abbrev nO1 (x : Int) : Obj := .cells #[.int .i64 x] 2
abbrev nO2 : Obj := .cells #[.string ⟨#[97]⟩] 9
abbrev nO3 (g : Nat) : Obj := .cells #[.int .i64 4, .slice (some ⟨g, 0, none⟩) 1 1, .slice (some ⟨g + 1, 0, none⟩) 1 1, .slice none 0 0] 26
theorem nB_C (w : World) (x : Int) (g : Nat) (hg : w.heap.size = g) : kNode.C (((w.alloc (nO1 x)).alloc nO2).alloc (nO3 g)) (some ⟨g + 1 + 1, 0, none⟩) 1 [⟨4, [x], [⟨#[97]⟩], []⟩] := by
  subst hg
  refine C_lits kNode _ 26 _ (by simp) [⟨4, [x], [⟨#[97]⟩], []⟩] [.int .i64 4, .slice (some ⟨w.heap.size, 0, none⟩) 1 1, .slice (some ⟨w.heap.size + 1, 0, none⟩) 1 1, .slice none 0 0] ?_ (by simp) rfl
  refine ⟨_, _, (show _ = [_, _, _, _] ++ [] from rfl), ?_, rfl⟩
  exact kNode_mk (x := ⟨4, [x], [⟨#[97]⟩], []⟩) ⟨by simp, by simp, by simp, Kd.C_alloc (C_ints w _ _ rfl [x] (by simp) rfl) _, C_strs _ _ _ (by simp) [⟨#[97]⟩] (by simp) rfl, C_nil _ _⟩
theorem eO_C (w : World) (g : Nat) (hg : w.heap.size = g) : kOpn.C ((w.alloc (.cells #[.bool false, .int .i64 0, .int .i64 2, .string ByteArray.empty] 84)).alloc (.cells #[.int .i64 2, .int .i64 0, .slice (some ⟨g, 0, none⟩) 1 1, .slice none 0 0, .int .i64 0, .slice none 0 0, .slice none 0 0, .slice none 0 0] 61)) (some ⟨g + 1, 0, none⟩) 1 [eO] := by
  subst hg
  refine C_lits kOpn _ 61 _ (by simp) [eO] [.int .i64 2, .int .i64 0, .slice (some ⟨w.heap.size, 0, none⟩) 1 1, .slice none 0 0, .int .i64 0, .slice none 0 0, .slice none 0 0, .slice none 0 0] ?_ (by simp) rfl
  refine ⟨_, _, (show _ = [_, _, _, _, _, _, _, _] ++ [] from rfl), ?_, rfl⟩
  refine kOpn_mk (o := eO) ⟨by simp [eO], ?_, by simp [eO], C_nil _ _, by simp [eO, nodez], by simp [eO, nodez], by simp [eO, nodez], C_nil _ _, C_nil _ _, C_nil _ _⟩
  refine C_lits kSet w 84 _ rfl [⟨false, 0, 2, ByteArray.empty⟩] [.bool false, .int .i64 0, .int .i64 2, .string ByteArray.empty] ?_ (by simp) rfl
  exact ⟨_, _, (show _ = [_, _, _, _] ++ [] from rfl), kSet.K_of_M (kSet_mk w 0 (fun _ => True) ⟨false, 0, 2, ByteArray.empty⟩), rfl⟩
theorem kk_C (w : World) (g : Nat) (hg : w.heap.size = g) : kOpn.C (w.alloc (.cells #[.int .i64 1, .int .i64 0, .slice none 0 0, .slice none 0 0, .int .i64 0, .slice none 0 0, .slice none 0 0, .slice none 0 0, .int .i64 1, .int .i64 0, .slice none 0 0, .slice none 0 0, .int .i64 0, .slice none 0 0, .slice none 0 0, .slice none 0 0] 61)) (some ⟨g, 0, none⟩) 2 [keepO 0, keepO 0] := by
  subst hg
  have hk : kOpn.K w (keepO 0) [.int .i64 1, .int .i64 0, .slice none 0 0, .slice none 0 0, .int .i64 0, .slice none 0 0, .slice none 0 0, .slice none 0 0] :=
    kOpn_mk (o := keepO 0) ⟨by simp [keepO], C_nil _ _, by simp [keepO], C_nil _ _, by simp [keepO, nodez], by simp [keepO, nodez], by simp [keepO, nodez], C_nil _ _, C_nil _ _, C_nil _ _⟩
  refine C_lits kOpn _ 61 _ rfl [keepO 0, keepO 0] _ ⟨_, _, rfl, hk, _, _, (show _ = [_, _, _, _, _, _, _, _] ++ [] from rfl), hk, rfl⟩ (by simp) rfl
set_option maxRecDepth 100000 in
set_option maxHeartbeats 4000000 in
theorem rawake_any (w : World) (hT : Tabs w) : Calls Tryd.prog 27 #[] w fun e w' => e = .returned (.bool true) ∧ Below w.heap.size w w' := by
  have HT := Aside0.mk hT
  have hua := Tryd.underlying39
  have hun := Tryd.underlying26
  have huo := Tryd.underlying61
  have hus := Tryd.underlying84
  clear hT
  go_enter Tryd.func27, Tryd.ntmps27
  go_wp2_with fail
  refine (rapp_any _ _ sA _ _ [eO] _ ?_ ?_ ?_ (by decide) (by decide) sA_ok eO_ok (by decide)).mono ?_
  · exact Kd.C_alloc (Kd.C_alloc (Kd.C_alloc (Kd.C_alloc (Kd.C_alloc (Kd.C_alloc (Kd.C_alloc (nB_C w 1 _ rfl) _) _) _) _) _) _) _
  · exact eO_C _ _ (by simp)
  · exact HT.out.below (below_alloc (below_alloc (below_alloc (below_alloc (below_alloc (below_alloc (below_alloc (below_alloc (below_alloc (below_alloc (Below.refl _ _) _) _) _) _) _) _) _) _) _) _)
  rintro e w1 ⟨A1, c1, rfl, hR1, hB1⟩
  rw [sA_edit] at hR1 ⊢
  have HB1 : Aside0 (Below w.heap.size w w1) := ⟨below_step (below_alloc (below_alloc (below_alloc (below_alloc (below_alloc (below_alloc (below_alloc (below_alloc (below_alloc (below_alloc (Below.refl _ _) _) _) _) _) _) _) _) _) _) _) hB1⟩
  have k0 : w1.cell? ⟨w.heap.size + 1 + 1 + 1, 0, none⟩ = some (.slice (some ⟨w.heap.size + 1 + 1, 0, none⟩) 1 1) := pw_cell_below hB1 (pw_cell_below (below_alloc (below_alloc (below_alloc (below_alloc (below_alloc (below_alloc (Below.refl _ _) _) _) _) _) _) _) (box_cell _ _ (by simp) #[.slice (some ⟨w.heap.size + 1 + 1, 0, none⟩) 1 1, .int .i64 0] _ 0 _ rfl))
  have k1 : w1.cell? ⟨w.heap.size + 1 + 1 + 1, 1, none⟩ = some (.int .i64 0) := pw_cell_below hB1 (pw_cell_below (below_alloc (below_alloc (below_alloc (below_alloc (below_alloc (below_alloc (Below.refl _ _) _) _) _) _) _) _) (box_cell _ _ (by simp) #[.slice (some ⟨w.heap.size + 1 + 1, 0, none⟩) 1 1, .int .i64 0] _ 1 _ rfl))
  have k2 : w1.cell? ⟨w.heap.size + 1 + 1 + 1 + 1 + 1 + 1 + 1, 0, none⟩ = some (.slice (some ⟨w.heap.size + 1 + 1 + 1 + 1 + 1 + 1, 0, none⟩) 1 1) := pw_cell_below hB1 (pw_cell_below (below_alloc (below_alloc (Below.refl _ _) _) _) (box_cell _ _ (by simp) #[.slice (some ⟨w.heap.size + 1 + 1 + 1 + 1 + 1 + 1, 0, none⟩) 1 1, .int .i64 0] _ 0 _ rfl))
  have k3 : w1.cell? ⟨w.heap.size + 1 + 1 + 1 + 1 + 1 + 1 + 1, 1, none⟩ = some (.int .i64 0) := pw_cell_below hB1 (pw_cell_below (below_alloc (below_alloc (Below.refl _ _) _) _) (box_cell _ _ (by simp) #[.slice (some ⟨w.heap.size + 1 + 1 + 1 + 1 + 1 + 1, 0, none⟩) 1 1, .int .i64 0] _ 1 _ rfl))
  have HA : Aside0 (kNode.C w1 (some ⟨w.heap.size + 1 + 1, 0, none⟩) 1 sA.nodes) := ⟨Kd.C_below (Kd.C_alloc (Kd.C_alloc (Kd.C_alloc (Kd.C_alloc (Kd.C_alloc (Kd.C_alloc (Kd.C_alloc (nB_C w 1 _ rfl) _) _) _) _) _) _) _) hB1⟩
  have HBn : Aside0 (kNode.C w1 (some ⟨w.heap.size + 1 + 1 + 1 + 1 + 1 + 1, 0, none⟩) 1 sB.nodes) := ⟨Kd.C_below (Kd.C_alloc (Kd.C_alloc (Kd.C_alloc (nB_C _ 2 _ (by simp)) _) _) _) hB1⟩
  have HC1 := Aside0.mk (Kd.R_reads' hR1).2.2
  have q0 := box_cell w1 _ rfl #[.slice A1 sB.nodes.length c1, .int .i64 sB.root] 39 0 (.slice A1 sB.nodes.length c1) rfl
  have q1 := box_cell w1 _ rfl #[.slice A1 sB.nodes.length c1, .int .i64 sB.root] 39 1 (.int .i64 sB.root) rfl
  have hA1 := below_alloc (Below.refl w1.heap.size w1) (.cells #[.slice A1 sB.nodes.length c1, .int .i64 sB.root] 39)
  replace k0 := pw_cell_below hA1 k0
  replace k1 := pw_cell_below hA1 k1
  replace k2 := pw_cell_below hA1 k2
  replace k3 := pw_cell_below hA1 k3
  have HB2 := Aside0.mk (below_step HB1.out hA1)
  have HA2 := Aside0.mk (Kd.C_below HA.out hA1)
  have HBn2 := Aside0.mk (Kd.C_below HBn.out hA1)
  have HC2 := Aside0.mk (Kd.C_below HC1.out hA1)
  clear hR1 hB1 HA HBn HC1 hA1 HB1
  go_wp2_with fail
  refine (rapp_any _ _ sA _ _ [keepO 0, keepO 0] _ ?_ ?_ ?_ (by decide) (by decide) sA_ok kk_ok (by decide)).mono ?_
  · exact Kd.C_alloc HA2.out _
  · exact kk_C _ _ (by simp)
  · exact HT.out.below (below_alloc HB2.out _)
  rintro e w2 ⟨A2, c2, rfl, hR2, hB2⟩
  rw [sA_twice] at hR2 ⊢
  have HB3 := Aside0.mk (below_step (below_alloc HB2.out _) hB2)
  have HA3 := Aside0.mk (Kd.C_below (Kd.C_alloc HA2.out _) hB2)
  have HBn3 := Aside0.mk (Kd.C_below (Kd.C_alloc HBn2.out _) hB2)
  have HC3 := Aside0.mk (Kd.C_below (Kd.C_alloc HC2.out _) hB2)
  replace k0 := pw_cell_below hB2 (pw_cell_below (below_alloc (Below.refl _ _) _) k0)
  replace k1 := pw_cell_below hB2 (pw_cell_below (below_alloc (Below.refl _ _) _) k1)
  replace k2 := pw_cell_below hB2 (pw_cell_below (below_alloc (Below.refl _ _) _) k2)
  replace k3 := pw_cell_below hB2 (pw_cell_below (below_alloc (Below.refl _ _) _) k3)
  replace q0 := pw_cell_below hB2 (pw_cell_below (below_alloc (Below.refl _ _) _) q0)
  replace q1 := pw_cell_below hB2 (pw_cell_below (below_alloc (Below.refl _ _) _) q1)
  have hA3 := below_alloc (Below.refl w2.heap.size w2) (.cells #[.slice A2 0 c2, .int .i64 0] 39)
  replace k0 := pw_cell_below hA3 k0
  replace k1 := pw_cell_below hA3 k1
  replace k2 := pw_cell_below hA3 k2
  replace k3 := pw_cell_below hA3 k3
  replace q0 := pw_cell_below hA3 q0
  replace q1 := pw_cell_below hA3 q1
  have HB4 := Aside0.mk (below_step HB3.out hA3)
  have HA4 := Aside0.mk (Kd.C_below HA3.out hA3)
  have HBn4 := Aside0.mk (Kd.C_below HBn3.out hA3)
  have HC4 := Aside0.mk (Kd.C_below HC3.out hA3)
  clear hR2 hB2 HB2 HA2 HBn2 HC2 HB3 HA3 HBn3 HC3 hA3
  go_wp2_with fail
  refine (rapp_any _ _ sA _ _ [] _ ?_ ?_ ?_ (by decide) (by decide) sA_ok (fun k hk => absurd hk (Nat.not_lt_zero k)) (by decide)).mono ?_
  · exact HA4.out
  · exact C_nil _ _
  · exact HT.out.below HB4.out
  rintro e w3 ⟨A3, c3, rfl, hR3, hB3⟩
  rw [sA_none] at hR3 ⊢
  have hA5 := below_alloc (Below.refl w3.heap.size w3) (.cells #[.slice A3 0 c3, .int .i64 0] 39)
  replace k2 := pw_cell_below hA5 (pw_cell_below hB3 k2)
  replace k3 := pw_cell_below hA5 (pw_cell_below hB3 k3)
  replace q0 := pw_cell_below hA5 (pw_cell_below hB3 q0)
  replace q1 := pw_cell_below hA5 (pw_cell_below hB3 q1)
  have HB5 := Aside0.mk (below_step (below_step HB4.out hB3) hA5)
  have HBn5 := Aside0.mk (Kd.C_below (Kd.C_below HBn4.out hB3) hA5)
  have HC5 := Aside0.mk (Kd.C_below (Kd.C_below HC4.out hB3) hA5)
  clear hR3 hB3 HB4 HA4 HBn4 HC4 hA5 k0 k1
  go_wp2_with fail
  refine (sameS_any _ _ sB _ _ sB _ HC5.out HBn5.out sB_small).mono ?_
  rintro e w4 ⟨rfl, hB4⟩
  rw [sameS_yes rfl]
  have HB6 := Aside0.mk (below_step HB5.out hB4)
  clear hB4 k2 k3 q0 q1
  go_wp2
  go_ret
  exact ⟨rfl, HB6.out⟩
end Go.Proofs.YtglfebpgdghlfaaDoor.L
end
section
namespace Go.Proofs.YtglfebpgdghlfaaDoor.L
open Go.RowKit Go.ChangeShapes Go.WideShapes Go.Proofs.YtglfebpgdghlfaaDoorW.PrintWords Go.Proofs.YtglfebpgdghlfaaDoorW.PrintLast Go.Proofs.YtglfebpgdghlfaaDoorW.PrintMore
attribute [local go_sem] max2_int min2_int max_two min_two max_three min_three max_four min_four
def setsBad (l : List SetV) : Prop := ∃ i, i < l.length ∧ 500 < (st l i).s.size
def greatOp (o : Opn) : Prop := greatN o.node = true ∨ 50 < o.sets.length ∨ 100 < o.script.length ∨ setsBad o.sets
instance (l : List SetV) : Decidable (setsBad l) := by unfold setsBad; infer_instance
instance (o : Opn) : Decidable (greatOp o) := by unfold greatOp; infer_instance
end Go.Proofs.YtglfebpgdghlfaaDoor.L
end
section
namespace Go.Proofs.YtglfebpgdghlfaaDoor.L
open Go.RowKit Go.ChangeShapes Go.WideShapes Go.Proofs.YtglfebpgdghlfaaDoorW.PrintWords Go.Proofs.YtglfebpgdghlfaaDoorW.PrintLast Go.Proofs.YtglfebpgdghlfaaDoorW.PrintMore
attribute [local go_sem] max2_int min2_int max_two min_two max_three min_three max_four min_four
theorem RowsPost.drew {l : List Node} {w W : World} {e : Ending} (h : RowsPost l w e W) : RowsPost l w e W.drew := by
  obtain ⟨g, c, he, hS, hB⟩ := h
  exact ⟨g, c, he, Kd.S_drew hS, below_drew hB⟩
end Go.Proofs.YtglfebpgdghlfaaDoor.L
end
section
namespace Go.Proofs.YtglfebpgdghlfaaDoor.L
open Go.RowKit Go.ChangeShapes Go.WideShapes Go.Proofs.YtglfebpgdghlfaaDoorW.PrintWords Go.Proofs.YtglfebpgdghlfaaDoorW.PrintLast Go.Proofs.YtglfebpgdghlfaaDoorW.PrintMore
attribute [local go_sem] max2_int min2_int max_two min_two max_three min_three max_four min_four
open Go.Proofs.YtglfebpgdghlfaaDoor.PUpgradeUps
theorem CnRel.kid {w1 : World} {root : Int} {xs : List Node} {g m c : Nat} {W : World} (h : CnRel w1 root xs (.slice (some ⟨g, 0, none⟩) m c) W) (i : Nat) (hi : i < m) {v : Value} {q : List Int} (hv : (Kd.int .i64).R 3 W w1.heap.size (fun _ => True) v q) :
    (∃ x, W.cell? ⟨g, i * 4 + 3, none⟩ = some x) ∧ W.frozen? ⟨g, i * 4 + 3, none⟩ = false ∧ CnRel w1 root (xs.set i (withKids (nd xs i) q)) (.slice (some ⟨g, 0, none⟩) m c) (W.setCell ⟨g, i * 4 + 3, none⟩ v) := by
  obtain ⟨cs, hcl, hM, hcc, hfr⟩ := R_elemN h.row nodez i hi
  obtain ⟨v1, v2, v3, rfl, h1, h2, h3⟩ := kNode_openM hM
  have hM' : kNode.M W w1.heap.size (fun k => True ∧ k ≠ g) (withKids (nd xs i) q) [.int .i64 (nd xs i).kind, v1, v2, v] :=
    kNode_mkM h1 h2 (Kd.R_mono (Kd.R_tight rfl hv) (fun k hk => ⟨trivial, fun e => R_apart hv h.row (by decide) k hk (by rw [e]; rfl)⟩))
  obtain ⟨hs, hg⟩ := R_segN h.row i hi (seg := [v]) (j := 3) hcl hcc (Nat.le_refl 4) (x' := withKids (nd xs i) q) (okp := fun k => True ∧ k ≠ g) hM' (fun k hk => hk)
  have e : W.setCells g (i * kNode.sz + 3) [v] = W.setCell ⟨g, i * 4 + 3, none⟩ v := rfl
  rw [e] at hs hg
  have hgw := Kd.R_base h.row g rfl
  refine ⟨⟨_, hcc 3 _ rfl⟩, hfr 3, below_set h.below hgw, blk_grown h.out hg (fun e => ?_), hs⟩
  exact (Kd.R_ne h.row h.out (by decide)) e
theorem S_elem {w : World} {base m c : Nat} {A : Option Addr} {xs : List Node} (h : Kd.S kNode 26 w base (fun _ => True) (.slice A m c) xs) (j : Nat) (hj : j < xs.length) :
    ∃ g A1 c1 A2 c2 A3 c3, A = some ⟨g, 0, none⟩ ∧ m = xs.length ∧ w.cell? ⟨g, j * 4, none⟩ = some (.int .i64 (nd xs j).kind) ∧ w.cell? ⟨g, j * 4 + 1, none⟩ = some (.slice A1 (nd xs j).ints.length c1) ∧ w.cell? ⟨g, j * 4 + 2, none⟩ = some (.slice A2 (nd xs j).texts.length c2) ∧ w.cell? ⟨g, j * 4 + 3, none⟩ = some (.slice A3 (nd xs j).kids.length c3) ∧
      (Kd.int .i64).R 2 w base (fun _ => True) (.slice A1 (nd xs j).ints.length c1) (nd xs j).ints ∧ Kd.string.R 9 w base (fun _ => True) (.slice A2 (nd xs j).texts.length c2) (nd xs j).texts ∧ (Kd.int .i64).R 3 w base (fun _ => True) (.slice A3 (nd xs j).kids.length c3) (nd xs j).kids := by
  have hR := Kd.S_R h
  have hm := (Kd.R_reads' hR).1
  obtain ⟨g, c', hv, -⟩ := Kd.R_form hR (by omega)
  injection hv with hA _ hc
  subst hA hc
  obtain ⟨cs, hcl, hM, hcc, hfr⟩ := R_elemN hR nodez j (by omega)
  obtain ⟨v1, v2, v3, rfl, h1, h2, h3⟩ := kNode_openM hM
  obtain ⟨A1, c1, rfl⟩ := Kd.R_slice h1
  obtain ⟨A2, c2, rfl⟩ := Kd.R_slice h2
  obtain ⟨A3, c3, rfl⟩ := Kd.R_slice h3
  exact ⟨g, A1, c1, A2, c2, A3, c3, rfl, hm, hcc 0 _ rfl, hcc 1 _ rfl, hcc 2 _ rfl, hcc 3 _ rfl, Kd.R_mono h1 (fun _ _ => trivial), Kd.R_mono h2 (fun _ _ => trivial), Kd.R_mono h3 (fun _ _ => trivial)⟩
end Go.Proofs.YtglfebpgdghlfaaDoor.L
end
section
namespace Go.Proofs.YtglfebpgdghlfaaDoor.L
open Go.RowKit Go.ChangeShapes Go.WideShapes Go.Proofs.YtglfebpgdghlfaaDoorW.PrintWords Go.Proofs.YtglfebpgdghlfaaDoorW.PrintLast Go.Proofs.YtglfebpgdghlfaaDoorW.PrintMore
attribute [local go_sem] max2_int min2_int max_two min_two max_three min_three max_four min_four
def aS : Scene := ⟨[⟨2, [1, 2, 3, 4], [], [1]⟩, ⟨6, [9], [], []⟩], 0⟩
end Go.Proofs.YtglfebpgdghlfaaDoor.L
end
section
namespace Go.Proofs.YtglfebpgdghlfaaDoor.L
open Go.RowKit Go.ChangeShapes Go.WideShapes Go.Proofs.YtglfebpgdghlfaaDoorW.PrintWords Go.Proofs.YtglfebpgdghlfaaDoorW.PrintLast Go.Proofs.YtglfebpgdghlfaaDoorW.PrintMore
attribute [local go_sem] max2_int min2_int max_two min_two max_three min_three max_four min_four
theorem great_small {n : Node} (h : greatN n = false) : Small n ∧ TextsSmall n := by
  have h' := of_decide_eq_false h
  have h1 : ¬ 100 < n.ints.length := fun e => h' (.inl e)
  have h2 : ¬ 100 < n.texts.length := fun e => h' (.inr (.inl e))
  have h3 : ¬ 300 < n.kids.length := fun e => h' (.inr (.inr (.inl e)))
  refine ⟨⟨by omega, by omega, by omega⟩, fun j hj => ?_⟩
  have h4 : ¬ 500 < (str n.texts j).size := fun e => h' (.inr (.inr (.inr ⟨j, hj, e⟩)))
  omega
end Go.Proofs.YtglfebpgdghlfaaDoor.L
end
section
namespace Go.Proofs.YtglfebpgdghlfaaDoor.L
open Go.RowKit Go.ChangeShapes Go.WideShapes Go.Proofs.YtglfebpgdghlfaaDoorW.PrintWords Go.Proofs.YtglfebpgdghlfaaDoorW.PrintLast Go.Proofs.YtglfebpgdghlfaaDoorW.PrintMore
attribute [local go_sem] max2_int min2_int max_two min_two max_three min_three max_four min_four
open Go.Proofs.YtglfebpgdghlfaaDoor.PUpgradeUps
theorem greatS_small {s : Scene} (h : greatS s = false) : s.nodes.length ≤ 60 ∧ (∀ i : Nat, i < s.nodes.length → Small (nd s.nodes i)) ∧ (∀ i : Nat, i < s.nodes.length → TextsSmall (nd s.nodes i)) ∧ (∀ i : Nat, i < s.nodes.length → (nd s.nodes i).kids.length ≤ 300) := by
  have h' := of_decide_eq_false h
  have h1 : ¬ 60 < s.nodes.length := fun e => h' (.inl e)
  have hg : ∀ i : Nat, i < s.nodes.length → greatN (nd s.nodes i) = false := fun i hi => Bool.eq_false_iff.2 (fun e => h' (.inr (.inr ⟨i, hi, e⟩)))
  refine ⟨by omega, fun i hi => (great_small (hg i hi)).1, fun i hi => (great_small (hg i hi)).2, fun i hi => ?_⟩
  have h2 := of_decide_eq_false (hg i hi)
  have h3 : ¬ 300 < (nd s.nodes i).kids.length := fun e => h2 (.inr (.inr (.inl e)))
  omega
theorem sum_le_of {f : Nat → Nat} {b : Nat} : ∀ l : List Nat, (∀ x ∈ l, f x ≤ b) → (l.map f).sum ≤ l.length * b
  | [], _ => by simp
  | x :: l, h => by
    have := sum_le_of (f := f) (b := b) l (fun y hy => h y (by simp [hy]))
    have := h x (by simp)
    rw [List.map_cons, List.sum_cons, List.length_cons, Nat.succ_mul]
    omega
theorem rows_le {ns : List Node} {b : Nat} (h : ∀ i : Nat, i < ns.length → (nd ns i).kids.length ≤ b) : rows ns ≤ ns.length * (b + 1) := by
  unfold rows
  have := sum_le_of (f := wt ns) (b := b + 1) (List.range ns.length) (fun x hx => by
    have := h x (List.mem_range.1 hx)
    unfold wt
    omega)
  rwa [List.length_range] at this
end Go.Proofs.YtglfebpgdghlfaaDoor.L
end
section
namespace Go.Proofs.YtglfebpgdghlfaaDoor.L
open Go.RowKit Go.ChangeShapes Go.WideShapes Go.Proofs.YtglfebpgdghlfaaDoorW.PrintWords Go.Proofs.YtglfebpgdghlfaaDoorW.PrintLast Go.Proofs.YtglfebpgdghlfaaDoorW.PrintMore
attribute [local go_sem] max2_int min2_int max_two min_two max_three min_three max_four min_four
theorem great_okN {n : Node} {b : Nat} (h : greatN n = false) (hb : 300 ≤ b) : OkN b n := by
  obtain ⟨h1, h2⟩ := great_small h
  have h3 := of_decide_eq_false h
  have h4 : ¬ 300 < n.kids.length := fun e => h3 (.inr (.inr (.inl e)))
  refine ⟨h1.1, h1.2.1, by omega, fun x hx => ?_⟩
  obtain ⟨j, hj, rfl⟩ := List.getElem_of_mem hx
  have := h2 j hj
  unfold str at this
  rwa [List.getD_eq_getElem?_getD, List.getElem?_eq_getElem hj] at this
theorem greatS_okN {s : Scene} (h : greatS s = false) : ∀ i : Nat, i < s.nodes.length → OkN 4000 (nd s.nodes i) := fun i hi => by
  have h' := of_decide_eq_false h
  exact great_okN (Bool.eq_false_iff.2 (fun e => h' (.inr (.inr ⟨i, hi, e⟩)))) (by omega)
end Go.Proofs.YtglfebpgdghlfaaDoor.L
end
section
namespace Go.Proofs.YtglfebpgdghlfaaDoor.L
open Go.RowKit Go.ChangeShapes Go.WideShapes Go.Proofs.YtglfebpgdghlfaaDoorW.PrintWords Go.Proofs.YtglfebpgdghlfaaDoorW.PrintLast Go.Proofs.YtglfebpgdghlfaaDoorW.PrintMore
attribute [local go_sem] max2_int min2_int max_two min_two max_three min_three max_four min_four
set_option maxRecDepth 100000 in
set_option maxHeartbeats 4000000 in
theorem whole23_any (A : Option Addr) (c : Nat) (s : Scene) (w : World) (h : kNode.C w A s.nodes.length s.nodes) (hc : s.nodes.length ≤ c) (hS : ∀ i : Nat, i < s.nodes.length → Small (nd s.nodes i)) (hTS : ∀ i : Nat, i < s.nodes.length → TextsSmall (nd s.nodes i)) (hM : rows s.nodes ≤ 400000) :
    Calls Tryd.prog 32 #[.agg #[.slice A s.nodes.length c, .int .i64 s.root]] w fun e w' => e = .returned (.bool (whole2 s && isC s)) ∧ Below w.heap.size w w' := by
  have HR := Aside0.mk h
  have HM := Aside0.mk hM
  have HSm := Aside0.mk hS
  have HTS := Aside0.mk hTS
  have HB := Aside0.mk (below_alloc (Below.refl w.heap.size w) (.cells #[.slice A s.nodes.length c, .int .i64 s.root] 39))
  have k0 := box_cell w _ rfl #[.slice A s.nodes.length c, .int .i64 s.root] 39 0 (.slice A s.nodes.length c) rfl
  have k1 := box_cell w _ rfl #[.slice A s.nodes.length c, .int .i64 s.root] 39 1 (.int .i64 s.root) rfl
  have hu := Tryd.underlying39
  clear h hM hS hTS
  go_enter Tryd.func32, Tryd.ntmps32
  go_wp2_with fail
  refine (rwhole_2 A c s _ (Kd.C_below HR.out HB.out) hc HSm.out HTS.out (by have := HM.out; omega)).mono ?_
  rintro e w1 ⟨rfl, hB1⟩
  replace k0 := pw_cell_below hB1 k0
  replace k1 := pw_cell_below hB1 k1
  have HB1 := Aside0.mk (below_step HB.out hB1)
  clear hB1
  cases hg : whole2 s with
  | false =>
    have HE := Aside0.mk (show (whole2 s && isC s) = false from by rw [hg]; rfl)
    clear hg
    go_wp2
    go_ret
    exact ⟨ret_bool HE.out.symm, HB1.out⟩
  | true =>
    have HE := Aside0.mk (show (whole2 s && isC s) = isC s from by rw [hg]; rfl)
    clear hg
    go_wp2_with fail
    refine (ris_any A c s _ (Kd.C_below HR.out HB1.out) hc HM.out HSm.out).mono ?_
    rintro e w2 ⟨rfl, hB2⟩
    have HB2 := Aside0.mk (below_step HB1.out hB2)
    clear hB2 k0 k1
    go_wp2
    go_ret
    exact ⟨ret_bool HE.out.symm, HB2.out⟩
theorem whole_parts {s : Scene} (h : (whole2 s && isC s) = true) : (typedS newTab s.nodes).1 = 0 ∧ isC s = true := by
  obtain ⟨h1, h2⟩ := Bool.and_eq_true_iff.1 h
  unfold whole2 at h1
  exact ⟨by have := (Bool.and_eq_true_iff.1 h1).1; simpa using this, h2⟩
structure SmRel (s : Scene) (w0 : World) (k m : Nat) (v5 v6 : Value) (W : World) : Prop where
  below : Below w0.heap.size w0 W
  kr : (elder kOpn w0).R 61 W w0.heap.size (fun q => True ∧ some q ≠ v6.ownBlock) v5 (keepsFrom 0 k)
  fr : (elder kOpn w0).R 61 W w0.heap.size (fun q => True ∧ some q ≠ v5.ownBlock) v6 ((s.nodes.take m).map newO)
section
variable {s : Scene} {w0 : World} {k m : Nat} {v5 v6 : Value} {W W1 : World}
theorem SmRel.start (s : Scene) (w0 : World) : SmRel s w0 0 0 (.slice none 0 0) (.slice none 0 0) w0 := ⟨Below.refl _ _, Kd.R_nil _ _ _ _ _, by rw [List.take_zero]; exact Kd.R_nil _ _ _ _ _⟩
theorem SmRel.later (h : SmRel s w0 k m v5 v6 W) (hb : Below W.heap.size W W1) : SmRel s w0 k m v5 v6 W1 := ⟨below_step h.below hb, Kd.R_below h.kr hb, Kd.R_below h.fr hb⟩
theorem SmRel.fresh5 (h : SmRel s w0 k m v5 v6 W) (q : Nat) (hq : W.heap.size ≤ q) : True ∧ some q ≠ v6.ownBlock := ⟨trivial, fun e => by have := Kd.R_lt h.fr q e.symm; omega⟩
theorem SmRel.fresh6 (h : SmRel s w0 k m v5 v6 W) (q : Nat) (hq : W.heap.size ≤ q) : True ∧ some q ≠ v5.ownBlock := ⟨trivial, fun e => by have := Kd.R_lt h.kr q e.symm; omega⟩
theorem keeps_succ (k : Nat) : keepsFrom 0 (k + 1) = keepsFrom 0 k ++ [keepO k] := by
  unfold keepsFrom
  rw [List.range'_concat, List.map_append]
  simp
theorem keeps_len (k : Nat) : (keepsFrom 0 k).length = k := by simp [keepsFrom]
theorem news_succ (hk : k < s.nodes.length) : (s.nodes.take (k + 1)).map newO = (s.nodes.take k).map newO ++ [newO (nd s.nodes k)] := by
  rw [take_succ_getD nodez hk, List.map_append]; rfl
theorem SmRel.push5 {v1 : Value} (h : SmRel s w0 k m v5 v6 W) (hR : (elder kOpn w0).R 61 W1 w0.heap.size (fun q => True ∧ some q ≠ v6.ownBlock) v1 (keepsFrom 0 k ++ [keepO k])) (hB : Below w0.heap.size w0 W1) (hg : W.grownBy W1 v5.ownBlock) (hat : v1.ownBlock = v5.ownBlock ∨ ∃ b, v1.ownBlock = some b ∧ W.heap.size ≤ b) : SmRel s w0 (k + 1) m v1 v6 W1 :=
  ⟨hB, by rw [keeps_succ]; exact hR, Kd.R_after (ok := fun _ => True) h.fr hg hat⟩
theorem SmRel.push6 {v1 : Value} (h : SmRel s w0 k m v5 v6 W) (hm : m < s.nodes.length) (hR : (elder kOpn w0).R 61 W1 w0.heap.size (fun q => True ∧ some q ≠ v5.ownBlock) v1 ((s.nodes.take m).map newO ++ [newO (nd s.nodes m)])) (hB : Below w0.heap.size w0 W1) (hg : W.grownBy W1 v6.ownBlock) (hat : v1.ownBlock = v6.ownBlock ∨ ∃ b, v1.ownBlock = some b ∧ W.heap.size ≤ b) : SmRel s w0 k (m + 1) v5 v1 W1 :=
  ⟨hB, Kd.R_after (ok := fun _ => True) h.kr hg hat, by rw [news_succ hm]; exact hR⟩
theorem keepO_K (w : World) (k : Nat) : kOpn.K w (keepO k) [.int .i64 1, .int .i64 (k : Int), .slice none 0 0, .slice none 0 0, .int .i64 0, .slice none 0 0, .slice none 0 0, .slice none 0 0] :=
  kOpn_mk (o := keepO k) ⟨by simp [keepO], C_nil _ _, by simp [keepO], C_nil _ _, by simp [keepO, nodez], by simp [keepO, nodez], by simp [keepO, nodez], C_nil _ _, C_nil _ _, C_nil _ _⟩
theorem newO_K {w : World} {n : Node} {A1 A2 A3 : Option Addr} {c1 c2 c3 : Nat} (h : NodeC w n A1 c1 A2 c2 A3 c3) : kOpn.K w (newO n) [.int .i64 3, .int .i64 0, .slice none 0 0, .slice none 0 0, .int .i64 n.kind, .slice A1 n.ints.length c1, .slice A2 n.texts.length c2, .slice A3 n.kids.length c3] :=
  kOpn_mk (o := newO n) ⟨by simp [newO], C_nil _ _, by simp [newO], C_nil _ _, h⟩
end
theorem newO_ok {n : Node} (h : OkN 5000 n) : OpOk (newO n) :=
  ⟨h, by simp [newO], by simp [newO], fun x hx => by simp [newO] at hx, by simp [newO], by simp [newO], by simp [newO], by simp [newO]⟩
theorem keeps_ok {n : Nat} (hn : n ≤ 1000) : ∀ k : Nat, k < (keepsFrom 0 n).length → OpOk (op (keepsFrom 0 n) k) := fun k hk => by
  have hk' : k < n := by rwa [keeps_len] at hk
  have e : op (keepsFrom 0 n) k = keepO k := by
    unfold op keepsFrom
    rw [List.getD_eq_getElem?_getD, List.getElem?_map, List.getElem?_range' hk']
    simp
  rw [e]
  exact keepO_ok _ (by omega)
theorem news_ok {ns : List Node} (h : ∀ i : Nat, i < ns.length → OkN 5000 (nd ns i)) : ∀ k : Nat, k < (ns.map newO).length → OpOk (op (ns.map newO) k) := fun k hk => by
  rw [op_eq hk, List.getElem_map]
  rw [List.length_map] at hk
  have := h k hk
  unfold nd at this
  rw [getD_eq _ hk] at this
  exact newO_ok this
set_option maxRecDepth 100000 in
set_option maxHeartbeats 8000000 in
theorem rebuildSame_any (A : Option Addr) (c : Nat) (s : Scene) (A' : Option Addr) (c' : Nat) (b : Scene) (w : World) (h : kNode.C w A s.nodes.length s.nodes) (hc : s.nodes.length ≤ c) (h' : kNode.C w A' b.nodes.length b.nodes) (hc' : b.nodes.length ≤ c') (hT : Tabs w) :
    Calls Tryd.prog 8 #[.agg #[.slice A s.nodes.length c, .int .i64 s.root], .agg #[.slice A' b.nodes.length c', .int .i64 b.root]] w fun e w' => e = .returned (.bool true) ∧ Below w.heap.size w w' := by
  have HR := Aside0.mk h
  have HR' := Aside0.mk h'
  have HT := Aside0.mk hT
  have HB := Aside0.mk (below_alloc (below_alloc (Below.refl w.heap.size w) (.cells #[.slice A s.nodes.length c, .int .i64 s.root] 39)) (.cells #[.slice A' b.nodes.length c', .int .i64 b.root] 39))
  have k0 := box_cell2 w _ rfl #[.slice A s.nodes.length c, .int .i64 s.root] 39 (.cells #[.slice A' b.nodes.length c', .int .i64 b.root] 39) 0 (.slice A s.nodes.length c) rfl
  have k1 := box_cell2 w _ rfl #[.slice A s.nodes.length c, .int .i64 s.root] 39 (.cells #[.slice A' b.nodes.length c', .int .i64 b.root] 39) 1 (.int .i64 s.root) rfl
  have k2 := box_cell (w.alloc (.cells #[.slice A s.nodes.length c, .int .i64 s.root] 39)) (w.heap.size + 1) (by simp) #[.slice A' b.nodes.length c', .int .i64 b.root] 39 0 (.slice A' b.nodes.length c') rfl
  have k3 := box_cell (w.alloc (.cells #[.slice A s.nodes.length c, .int .i64 s.root] 39)) (w.heap.size + 1) (by simp) #[.slice A' b.nodes.length c', .int .i64 b.root] 39 1 (.int .i64 b.root) rfl
  have hu := Tryd.underlying39
  have hun := Tryd.underlying26
  have huo := Tryd.underlying61
  clear h h' hT
  go_enter Tryd.func8, Tryd.ntmps8
  go_wp2_with fail
  refine (rawake_any _ (HT.out.below HB.out)).mono ?_
  rintro e w1 ⟨rfl, hB1⟩
  replace k0 := pw_cell_below hB1 k0
  replace k1 := pw_cell_below hB1 k1
  replace k2 := pw_cell_below hB1 k2
  replace k3 := pw_cell_below hB1 k3
  have HB1 := Aside0.mk (below_step HB.out hB1)
  clear hB1
  go_wp2_with fail
  refine (greatS_any A c s _ (Kd.C_below HR.out HB1.out)).mono ?_
  rintro e w2 ⟨rfl, hB2⟩
  replace k0 := pw_cell_below hB2 k0
  replace k1 := pw_cell_below hB2 k1
  replace k2 := pw_cell_below hB2 k2
  replace k3 := pw_cell_below hB2 k3
  have HB2 := Aside0.mk (below_step HB1.out hB2)
  clear hB2
  cases hg : greatS s with
  | true =>
    clear hg
    go_wp2_with fail
    refine (rawake_any _ (HT.out.below HB2.out)).mono ?_
    rintro e w3 ⟨rfl, hB3⟩
    have HB3 := Aside0.mk (below_step HB2.out hB3)
    clear hB3 k0 k1 k2 k3
    go_wp2
    go_ret
    exact ⟨rfl, HB3.out⟩
  | false =>
  have HG := Aside0.mk (greatS_small hg)
  have HOk := Aside0.mk (greatS_okN hg)
  have HMr := Aside0.mk (show rows s.nodes ≤ 130000 from by
    have h1 := rows_le HG.out.2.2.2
    have h2 : s.nodes.length * (300 + 1) ≤ 60 * 301 := Nat.mul_le_mul HG.out.1 (by omega)
    omega)
  clear hg
  go_wp2_with fail
  refine (greatS_any A' c' b _ (Kd.C_below HR'.out HB2.out)).mono ?_
  rintro e w3 ⟨rfl, hB3⟩
  replace k0 := pw_cell_below hB3 k0
  replace k1 := pw_cell_below hB3 k1
  replace k2 := pw_cell_below hB3 k2
  replace k3 := pw_cell_below hB3 k3
  have HB3 := Aside0.mk (below_step HB2.out hB3)
  clear hB3
  cases hg : greatS b with
  | true =>
    clear hg
    go_wp2_with fail
    refine (rawake_any _ (HT.out.below HB3.out)).mono ?_
    rintro e w4 ⟨rfl, hB4⟩
    have HB4 := Aside0.mk (below_step HB3.out hB4)
    clear hB4 k0 k1 k2 k3
    go_wp2
    go_ret
    exact ⟨rfl, HB4.out⟩
  | false =>
  have HG' := Aside0.mk (greatS_small hg)
  have HOk' := Aside0.mk (greatS_okN hg)
  have HMr' := Aside0.mk (show rows b.nodes ≤ 130000 from by
    have h1 := rows_le HG'.out.2.2.2
    have h2 : b.nodes.length * (300 + 1) ≤ 60 * 301 := Nat.mul_le_mul HG'.out.1 (by omega)
    omega)
  clear hg
  go_wp2_with fail
  refine (whole23_any A c s _ (Kd.C_below HR.out HB3.out) hc HG.out.2.1 HG.out.2.2.1 (by have := HMr.out; omega)).mono ?_
  rintro e w4 ⟨rfl, hB4⟩
  replace k0 := pw_cell_below hB4 k0
  replace k1 := pw_cell_below hB4 k1
  replace k2 := pw_cell_below hB4 k2
  replace k3 := pw_cell_below hB4 k3
  have HB4 := Aside0.mk (below_step HB3.out hB4)
  clear hB4
  cases hg : (whole2 s && isC s) with
  | false =>
    clear hg
    go_wp2_with fail
    refine (rawake_any _ (HT.out.below HB4.out)).mono ?_
    rintro e w5 ⟨rfl, hB5⟩
    have HB5 := Aside0.mk (below_step HB4.out hB5)
    clear hB5 k0 k1 k2 k3
    go_wp2
    go_ret
    exact ⟨rfl, HB5.out⟩
  | true =>
  have HWs := Aside0.mk (whole_parts hg)
  clear hg
  go_wp2_with fail
  refine (whole23_any A' c' b _ (Kd.C_below HR'.out HB4.out) hc' HG'.out.2.1 HG'.out.2.2.1 (by have := HMr'.out; omega)).mono ?_
  rintro e w5 ⟨rfl, hB5⟩
  replace k0 := pw_cell_below hB5 k0
  replace k1 := pw_cell_below hB5 k1
  replace k2 := pw_cell_below hB5 k2
  replace k3 := pw_cell_below hB5 k3
  have HB5 := Aside0.mk (below_step HB4.out hB5)
  clear hB5
  cases hg : (whole2 b && isC b) with
  | false =>
    clear hg
    go_wp2_with fail
    refine (rawake_any _ (HT.out.below HB5.out)).mono ?_
    rintro e w6 ⟨rfl, hB6⟩
    have HB6 := Aside0.mk (below_step HB5.out hB6)
    clear hB6 k0 k1 k2 k3
    go_wp2
    go_ret
    exact ⟨rfl, HB6.out⟩
  | true =>
  have HWb := Aside0.mk (whole_parts hg)
  have HI := Aside0.mk (SmRel.start s w5)
  have HK := Aside0.mk (And.intro (And.intro k0 k1) (And.intro k2 k3))
  clear hg HB HB1 HB2 HB3 HB4
  go_wp2
  clear k0 k1 k2 k3
  go_loopw [39, 5, 6] (fun v39 v5 v6 W => ∃ k : Nat, k ≤ s.nodes.length ∧ v39 = .int .i64 k ∧ ∃ A5 c5 A6 c6, v5 = .slice A5 k c5 ∧ v6 = .slice A6 k c6 ∧ Aside0 (SmRel s w5 k k (.slice A5 k c5) (.slice A6 k c6) W)) (fun v39 _ _ _ => s.nodes.length - (intOf v39).toNat)
  case atStart => exact ⟨0, by omega, rfl, none, 0, none, 0, rfl, rfl, HI⟩
  case round =>
    clear HI
    obtain ⟨k, hk, rfl, A5, c5, A6, c6, rfl, rfl, HI⟩ := hrel
    have hn60 : s.nodes.length ≤ 60 := HG.out.1
    by_cases hlt : k < s.nodes.length
    · obtain ⟨ad, A1, c1, A2, c2, A3, c3, rfl, x0, x1, x2, x3, hN⟩ := at_node HR.out k hlt
      have HW := Aside0.mk (below_step HB5.out HI.out.below)
      replace x0 := pw_cell_below HW.out x0
      replace x1 := pw_cell_below HW.out x1
      replace x2 := pw_cell_below HW.out x2
      replace x3 := pw_cell_below HW.out x3
      have HN := Aside0.mk (newO_K (hN.below HB5.out))
      have HPush := Aside0.mk (fun (W W1 : World) (v5 v6 v1 : Value) (h : SmRel s w5 (k + 1) k v5 v6 W) => h.push6 (W1 := W1) (v1 := v1) hlt)
      clear hN
      generalize nd s.nodes k = q at x0 x1 x2 x3 HN HPush
      have hA1 := below_alloc (Below.refl wr.heap.size wr) (.cells #[.int .i64 q.kind, .slice A1 q.ints.length c1, .slice A2 q.texts.length c2, .slice A3 q.kids.length c3] 26)
      have HI1 := Aside0.mk (HI.out.later hA1)
      have y0 := box_cell wr _ rfl #[.int .i64 q.kind, .slice A1 q.ints.length c1, .slice A2 q.texts.length c2, .slice A3 q.kids.length c3] 26 0 _ rfl
      have y1 := box_cell wr _ rfl #[.int .i64 q.kind, .slice A1 q.ints.length c1, .slice A2 q.texts.length c2, .slice A3 q.kids.length c3] 26 1 _ rfl
      have y2 := box_cell wr _ rfl #[.int .i64 q.kind, .slice A1 q.ints.length c1, .slice A2 q.texts.length c2, .slice A3 q.kids.length c3] 26 2 _ rfl
      have y3 := box_cell wr _ rfl #[.int .i64 q.kind, .slice A1 q.ints.length c1, .slice A2 q.texts.length c2, .slice A3 q.kids.length c3] 26 3 _ rfl
      have HY := Aside0.mk (And.intro (And.intro y0 y1) (And.intro y2 y3))
      have HBx := Aside0.mk (show (wr.alloc (.cells #[.int .i64 q.kind, .slice A1 q.ints.length c1, .slice A2 q.texts.length c2, .slice A3 q.kids.length c3] 26)).heap[wr.heap.size]? = some (.cells #[.int .i64 q.kind, .slice A1 q.ints.length c1, .slice A2 q.texts.length c2, .slice A3 q.kids.length c3] 26 (0, 0)) from by simpa using heap_alloc_new wr _)
      clear hA1 y0 y1 y2 y3
      go_upto_region 7 with (fail)
      generalize wr.alloc (.cells #[.int .i64 q.kind, .slice A1 q.ints.length c1, .slice A2 q.texts.length c2, .slice A3 q.kids.length c3] 26) = W1 at HI1 HY HBx ⊢
      clear x0 x1 x2 x3
      go_wp2_with (first | (at_builtin; refine Kd.R_append (elder kOpn w5) (w0 := w5) w5.heap.size rfl (.tmp 44) (.tmp 47) 52 61 (.agg #[.int .i64 0, .int .i64 0, .slice none 0 0, .slice none 0 0, .int .i64 0, .slice none 0 0, .slice none 0 0, .slice none 0 0]) 144 rfl Tryd.underlying52 info_op rfl (show 0 < 8 from by decide) (by omega) (.slice A5 k c5) (keepsFrom 0 k) (keepO k) [.int .i64 1, .int .i64 (k : Int), .slice none 0 0, .slice none 0 0, .int .i64 0, .slice none 0 0, .slice none 0 0, .slice none 0 0] (fun q => True ∧ some q ≠ (Value.slice A6 k c6).ownBlock) (fun _ => False) rfl rfl (keepO_K _ _) (fun _ h => h.elim) HI1.out.fresh5 HI1.out.kr HI1.out.below HI1.out.below.size (by rw [keeps_len]; omega) ?_; intro v7 w7 hR7 hB7 hg7 hat7; have hb7 := blk_grown HBx.out hg7 (Kd.R_ne HI1.out.kr HBx.out (by decide)); have z0 := (blk_cell hb7 0).trans rfl; have z1 := (blk_cell hb7 1).trans rfl; have z2 := (blk_cell hb7 2).trans rfl; have z3 := (blk_cell hb7 3).trans rfl; have hI7 := HI1.out.push5 hR7 hB7 hg7 hat7; obtain ⟨A7, c7, rfl⟩ := Kd.R_slice hI7.kr; rw [keeps_len] at hI7 ⊢; have HI7 := Aside0.mk hI7; clear hR7 hB7 hg7 hat7 hI7 hb7) | (at_builtin; refine Kd.R_append (elder kOpn w5) (w0 := w5) w5.heap.size rfl (.tmp 49) (.tmp 52) 52 61 (.agg #[.int .i64 0, .int .i64 0, .slice none 0 0, .slice none 0 0, .int .i64 0, .slice none 0 0, .slice none 0 0, .slice none 0 0]) 144 rfl Tryd.underlying52 info_op rfl (show 0 < 8 from by decide) (by omega) (.slice A6 k c6) ((s.nodes.take k).map newO) (newO q) [.int .i64 3, .int .i64 0, .slice none 0 0, .slice none 0 0, .int .i64 q.kind, .slice A1 q.ints.length c1, .slice A2 q.texts.length c2, .slice A3 q.kids.length c3] (fun q => True ∧ some q ≠ (Value.slice A7 (k + 1) c7).ownBlock) (fun _ => False) rfl rfl HN.out (fun _ h => h.elim) HI7.out.fresh6 HI7.out.fr HI7.out.below HI7.out.below.size (by rw [List.length_map, List.length_take]; omega) ?_; intro v8 w8 hR8 hB8 hg8 hat8; have hI8 := HPush.out _ _ _ _ _ HI7.out hR8 hB8 hg8 hat8; obtain ⟨A8, c8, rfl⟩ := Kd.R_slice hI8.fr; rw [List.length_map, List.length_take_of_le hlt] at hI8 ⊢; have HI8 := Aside0.mk hI8; clear hR8 hB8 hg8 hat8 hI8))
      go_roundw
      case rel => exact ⟨k + 1, by omega, by go_num, A7, c7, A8, c8, rfl, rfl, HI8⟩
      case measure => simp [intOf]; omega
    · obtain rfl : k = s.nodes.length := by omega
      have hk5 := elder_C HI.out.below (Kd.R_reads' HI.out.kr).2.2
      have hk6 := elder_C HI.out.below (Kd.R_reads' HI.out.fr).2.2
      have HW := Aside0.mk (below_step HB5.out HI.out.below)
      have HL5 := Aside0.mk hk5
      have HL6 := Aside0.mk (show kOpn.C wr A6 (s.nodes.map newO).length (s.nodes.map newO) from by rw [List.take_length] at hk6; exact hk6)
      have k0 := pw_cell_below HI.out.below HK.out.1.1
      have k1 := pw_cell_below HI.out.below HK.out.1.2
      have k2 := pw_cell_below HI.out.below HK.out.2.1
      have k3 := pw_cell_below HI.out.below HK.out.2.2
      have E1 := Aside0.mk (apply_keep HWs.out.1 HWs.out.2)
      have E2 := Aside0.mk (apply_new HWb.out.1 HWb.out.2 HWs.out.1 HWs.out.2)
      have L1 := Aside0.mk (keeps_len s.nodes.length)
      have L2 := Aside0.mk (show (s.nodes.map newO).length = s.nodes.length from List.length_map ..)
      have HO5 := Aside0.mk (keeps_ok (n := s.nodes.length) (by omega))
      have HO6 := Aside0.mk (news_ok (ns := s.nodes) (fun i hi => by have h1 := HOk.out i hi; exact ⟨h1.1, h1.2.1, Nat.le_trans h1.2.2.1 (by omega), h1.2.2.2⟩))
      have HA5 := rapp_any A c s A5 c5 (keepsFrom 0 s.nodes.length) wr (Kd.C_below HR.out HW.out) HL5.out (HT.out.below HW.out) (by omega) (by have := HMr.out; omega) HOk.out HO5.out (by rw [L1.out]; exact hn60)
      rw [E1.out, L1.out] at HA5
      clear hk5 hk6 hk hlt HI HK
      go_wp2_with fail
      refine HA5.mono ?_
      rintro e w8 ⟨A8, c8, rfl, hR8, hB8⟩
      clear HA5
      have hA8 := below_alloc (Below.refl w8.heap.size w8) (.cells #[.slice A8 s.nodes.length c8, .int .i64 s.root] 39)
      have q0 := box_cell w8 _ rfl #[.slice A8 s.nodes.length c8, .int .i64 s.root] 39 0 (.slice A8 s.nodes.length c8) rfl
      have q1 := box_cell w8 _ rfl #[.slice A8 s.nodes.length c8, .int .i64 s.root] 39 1 (.int .i64 s.root) rfl
      replace k0 := pw_cell_below hA8 (pw_cell_below hB8 k0)
      replace k1 := pw_cell_below hA8 (pw_cell_below hB8 k1)
      replace k2 := pw_cell_below hA8 (pw_cell_below hB8 k2)
      replace k3 := pw_cell_below hA8 (pw_cell_below hB8 k3)
      have HB9 := Aside0.mk (below_step (below_step HW.out hB8) hA8)
      have HC9 := Aside0.mk (Kd.C_below (Kd.R_reads' hR8).2.2 hA8)
      have HL9 := Aside0.mk (Kd.C_below (Kd.C_below HL6.out hB8) hA8)
      clear hR8 hB8 hA8
      have HA6 := fun W (hW : Below w.heap.size w W) (hL : kOpn.C W A6 (s.nodes.map newO).length (s.nodes.map newO)) => rapp_any A' c' b A6 c6 (s.nodes.map newO) W (Kd.C_below HR'.out hW) hL (HT.out.below hW) (by have := HG'.out.1; omega) (by have := HMr'.out; omega) HOk'.out HO6.out (by rw [L2.out]; exact hn60)
      rw [E2.out, L2.out] at HA6
      have HA7 := Aside0.mk HA6
      rw [L2.out] at HL9
      clear HA6
      go_wp2_with fail
      refine (HA7.out _ HB9.out HL9.out).mono ?_
      rintro e w10 ⟨A10, c10, rfl, hR10, hB10⟩
      have hA10 := below_alloc (Below.refl w10.heap.size w10) (.cells #[.slice A10 s.nodes.length c10, .int .i64 s.root] 39)
      have p0 := box_cell w10 _ rfl #[.slice A10 s.nodes.length c10, .int .i64 s.root] 39 0 (.slice A10 s.nodes.length c10) rfl
      have p1 := box_cell w10 _ rfl #[.slice A10 s.nodes.length c10, .int .i64 s.root] 39 1 (.int .i64 s.root) rfl
      replace k0 := pw_cell_below hA10 (pw_cell_below hB10 k0)
      replace k1 := pw_cell_below hA10 (pw_cell_below hB10 k1)
      replace q0 := pw_cell_below hA10 (pw_cell_below hB10 q0)
      replace q1 := pw_cell_below hA10 (pw_cell_below hB10 q1)
      have HB11 := Aside0.mk (below_step (below_step HB9.out hB10) hA10)
      have HC11 := Aside0.mk (Kd.C_below (Kd.C_below HC9.out hB10) hA10)
      have HD11 := Aside0.mk (Kd.C_below (Kd.R_reads' hR10).2.2 hA10)
      clear hR10 hB10 hA10 k2 k3
      go_wp2_with fail
      refine (sameS_any A8 c8 s A c s _ HC11.out (Kd.C_below HR.out HB11.out) HG.out.2.1).mono ?_
      rintro e w12 ⟨rfl, hB12⟩
      rw [sameS_yes rfl]
      replace k0 := pw_cell_below hB12 k0
      replace k1 := pw_cell_below hB12 k1
      replace p0 := pw_cell_below hB12 p0
      replace p1 := pw_cell_below hB12 p1
      have HB13 := Aside0.mk (below_step HB11.out hB12)
      have HD13 := Aside0.mk (Kd.C_below HD11.out hB12)
      clear hB12 q0 q1
      go_wp2_with fail
      refine (sameS_any A10 c10 s A c s _ HD13.out (Kd.C_below HR.out HB13.out) HG.out.2.1).mono ?_
      rintro e w14 ⟨rfl, hB14⟩
      rw [sameS_yes rfl]
      have HB15 := Aside0.mk (below_step HB13.out hB14)
      clear hB14 p0 p1 k0 k1
      go_wp2
      go_ret
      exact ⟨rfl, HB15.out⟩
end Go.Proofs.YtglfebpgdghlfaaDoor.L
end
section
namespace Go.Proofs.YtglfebpgdghlfaaDoor.L
open Go.RowKit Go.ChangeShapes Go.WideShapes Go.Proofs.YtglfebpgdghlfaaDoorW.PrintWords Go.Proofs.YtglfebpgdghlfaaDoorW.PrintLast Go.Proofs.YtglfebpgdghlfaaDoorW.PrintMore
attribute [local go_sem] max2_int min2_int max_two min_two max_three min_three max_four min_four
section
variable {P : Program} {α β : Type}
def Opens (P : Program) (k : Kd α) (t : TypeId) (good : α → Prop) : Prop :=
  ∀ (H : Type) (enc : TypeId × Value → H) (w : World) (base : Nat) (spare : Nat → Bool) (held : Bool) (fuel : Nat) (cs : List Value) (x : DataW H × List MemPlace), DataW.trod enc P w base spare held fuel t cs = some x → ∃ v, k.K w v cs ∧ good v
theorem opens_int {t : TypeId} {k : IntKind} (ht : P.underlying t = some (.int k)) : Opens P (Kd.int k) t (fun n => (Lit.int k n).wf = true) := by
  intro H enc w base spare held fuel cs x h
  obtain ⟨n, rfl, _, hw⟩ := DataW.trod_int ht h
  exact ⟨n, rfl, hw⟩
theorem opens_string {t : TypeId} (ht : P.underlying t = some .string) : Opens P Kd.string t (fun s => s.size ≤ maxLen) := by
  intro H enc w base spare held fuel cs x h
  obtain ⟨s, rfl, _, hs⟩ := DataW.trod_string ht h
  exact ⟨s, rfl, hs⟩
theorem list_of {R : Nat → α → Prop} : ∀ n, (∀ i, i < n → ∃ p, R i p) → ∃ xs : List α, xs.length = n ∧ ∀ j p, xs[j]? = some p → R j p := by
  intro n
  induction n with
  | zero => intro _; exact ⟨[], rfl, fun j p h => by simp at h⟩
  | succ n ih =>
    intro h
    obtain ⟨xs, hl, hx⟩ := ih (fun i hi => h i (by omega))
    obtain ⟨p, hp⟩ := h n (by omega)
    refine ⟨xs ++ [p], by simp [hl], fun j q hq => ?_⟩
    rw [List.getElem?_append] at hq
    split at hq
    · exact hx j q hq
    · have hj : j = n := by
        have := (List.getElem?_eq_some_iff.1 hq).1
        simp at this
        omega
      subst hj
      rw [hl, Nat.sub_self] at hq
      simp at hq
      subst hq
      exact hp
theorem opens_slice {d : Kd α} {t e e' : TypeId} {good : α → Prop} (ht : P.underlying t = some (.slice e)) (hc : P.cellsOf e = d.sz) (hd : Opens P d e good) : Opens P (Kd.slice e' d) t (fun xs => xs.length ≤ maxLen ∧ ∀ x ∈ xs, good x) := by
  intro H enc w base spare held fuel cs x h
  rcases Deep.open_slice ht h with ⟨rfl, _⟩ | ⟨a, len, cap, m, n, D, Pl, rfl, _, hl, hm, hmm, _, hx⟩
  · exact ⟨[], ⟨none, 0, rfl, Nat.le_refl _, rfl, by simp, fun h => by simp at h⟩, by simp, by simp⟩
  · have hlm : len ≤ m := by rw [hmm]; split <;> omega
    rw [hc] at hx
    obtain ⟨xs, hxl, hxs⟩ := list_of (R := fun i p => (∃ c, c.length = d.sz ∧ d.K w p c ∧ ∀ j u, c[j]? = some u → w.cell? (a.add (i * d.sz + j)) = some u) ∧ good p) len (fun i hi => by
      obtain ⟨cs', h1, h2⟩ := hx i (by omega)
      obtain ⟨_, hcl, hat⟩ := World.cells?_some h1
      obtain ⟨p, hK, hg⟩ := hd H enc w base spare held n cs' _ h2
      refine ⟨p, ⟨cs', hcl, hK, fun j u hu => ?_⟩, hg⟩
      have hj : j < d.sz := by rw [← hcl]; exact (List.getElem?_eq_some_iff.1 hu).1
      rw [← Deep.add_add, hat j hj, hu])
    subst hxl
    refine ⟨xs, ⟨some a, cap, rfl, hl, rfl, by unfold maxLen at hm; omega, fun _ => ⟨a, rfl, fun j p hp => (hxs j p hp).1⟩⟩, by omega, fun x hx => ?_⟩
    obtain ⟨j, hj⟩ := List.getElem?_of_mem hx
    exact (hxs j x hj).2
def OpensL (P : Program) (k : Kd α) (fs : List Field) (off : Nat) (good : α → Prop) : Prop :=
  ∀ (H : Type) (enc : TypeId × Value → H) (w : World) (base : Nat) (spare : Nat → Bool) (held : Bool) (n : Nat) (cs : List Value), cs.length = k.sz → (∀ f ∈ fs, ∃ x, DataW.trod enc P w base spare held n f.type ((cs.drop (f.offset - off)).take (P.cellsOf f.type)) = some x) → ∃ v, k.K w v cs ∧ good v
theorem opensL_one {k : Kd α} {f : Field} {off : Nat} {good : α → Prop} (ho : f.offset = off) (hc : P.cellsOf f.type = k.sz) (h : Opens P k f.type good) : OpensL P k [f] off good := by
  intro H enc w base spare held n cs hl hf
  obtain ⟨x, hx⟩ := hf f (by simp)
  rw [ho, Nat.sub_self, List.drop_zero, hc, ← hl, List.take_length] at hx
  exact h H enc w base spare held n cs x hx
theorem opensL_cons {a : Kd α} {b : Kd β} {f : Field} {fs : List Field} {off : Nat} {ga : α → Prop} {gb : β → Prop} (ho : f.offset = off) (hc : P.cellsOf f.type = a.sz) (h : Opens P a f.type ga) (hoff : ∀ g ∈ fs, off + a.sz ≤ g.offset) (hs : OpensL P b fs (off + a.sz) gb) :
    OpensL P (Kd.pair a b) (f :: fs) off (fun x => ga x.1 ∧ gb x.2) := by
  intro H enc w base spare held n cs hl hf
  have hl' : cs.length = a.sz + b.sz := hl
  obtain ⟨x, hx⟩ := hf f (by simp)
  rw [ho, Nat.sub_self, List.drop_zero, hc] at hx
  obtain ⟨v, hv, hg⟩ := h H enc w base spare held n _ x hx
  obtain ⟨u, hu, hg'⟩ := hs H enc w base spare held n (cs.drop a.sz) (by rw [List.length_drop]; omega) (fun g hg => by
    obtain ⟨y, hy⟩ := hf g (by simp [hg])
    have := hoff g hg
    refine ⟨y, ?_⟩
    rw [List.drop_drop, show a.sz + (g.offset - (off + a.sz)) = g.offset - off from by omega]
    exact hy)
  exact ⟨(v, u), ⟨_, _, (List.take_append_drop a.sz cs).symm, hv, hu⟩, hg, hg'⟩
theorem opens_struct {k : Kd α} {t : TypeId} {fs : Array Field} {good : α → Prop} (ht : P.underlying t = some (.struct fs)) (hc : P.cellsOf t = k.sz) (h : OpensL P k fs.toList 0 good) : Opens P k t good := by
  intro H enc w base spare held fuel cs x hx
  obtain ⟨xs, n, _, _, hl, hxl, hf⟩ := DataW.trod_struct ht hx
  refine h H enc w base spare held n cs (hl.trans hc) (fun f hfm => ?_)
  obtain ⟨i, hi⟩ := List.getElem?_of_mem hfm
  have hi' : fs[i]? = some f := by simpa using hi
  have hil : i < xs.length := by rw [hxl]; exact (Array.getElem?_eq_some_iff.1 hi').1
  exact ⟨xs[i]'hil, by rw [Nat.sub_zero, hf i f hi', List.getElem?_eq_getElem hil]⟩
theorem opens_iso {d : Kd α} {f : β → α} {t : TypeId} {good : α → Prop} (hf : ∀ v, ∃ x, f x = v) (h : Opens P d t good) : Opens P (Kd.iso d f) t (fun x => good (f x)) := by
  intro H enc w base spare held fuel cs x hx
  obtain ⟨v, hv, hg⟩ := h H enc w base spare held fuel cs x hx
  obtain ⟨y, rfl⟩ := hf v
  exact ⟨y, hv, hg⟩
theorem Opens.arg_struct {k : Kd α} {H : Type} {enc : TypeId × Value → H} {W : World} {b0 base : Nat} {r : Reach} {spare : Nat → Bool} {held : Bool} {t : TypeId} {fs : Array Field} {good : α → Prop} {v : Value} {q : DataW H} {p : List MemPlace} (hs : P.underlying t = some (.struct fs)) (ho : Opens P k t good)
    (hv : Value.okWide P W r b0 t v) (h : DataW.Trod enc P W base spare held t v q p) : ∃ x cs, v = .agg cs ∧ k.K W x cs.toList ∧ good x := by
  obtain ⟨cs, rfl, _⟩ := okWide_struct hs hv
  obtain ⟨fuel, hf⟩ := h
  obtain ⟨x, hK, hg⟩ := ho H enc W base spare held fuel _ _ hf
  exact ⟨x, cs, rfl, by simpa [Value.cells] using hK, hg⟩
end
end Go.Proofs.YtglfebpgdghlfaaDoor.L
end
section
namespace Go.Proofs.YtglfebpgdghlfaaDoor.L
open Go.RowKit Go.ChangeShapes Go.WideShapes Go.Proofs.YtglfebpgdghlfaaDoorW.PrintWords Go.Proofs.YtglfebpgdghlfaaDoorW.PrintLast Go.Proofs.YtglfebpgdghlfaaDoorW.PrintMore
attribute [local go_sem] max2_int min2_int max_two min_two max_three min_three max_four min_four
open Go.ChangeShapes Go.WideShapes Go.ChangeAt Go.RowKit
theorem own : ownKnob Tryd.prog.godebug = none := by kernel_rfl
theorem laidOut : laidOutB Tryd.prog = true := by kernel_rfl
def rowLaid : List (String × DataW Unit) := [("unicode/utf8.acceptRanges", Rows.laid_unicode_utf8_acceptRanges), ("unicode/utf8.first", Rows.laid_unicode_utf8_first)]
theorem firstD : Go.Pinned.utf8First = Lib.firstData := by kernel_rfl
theorem acceptD : (Rows.laid_unicode_utf8_acceptRanges : DataW Unit) = Lib.acceptData := by kernel_rfl
theorem tabs_of_laid {W : World} (h : laidMetH Tryd.prog rowLaid W) : Tabs W := by
  rw [MakeChecks.laidMetH_plain _ _ _ (by kernel_rfl)] at h
  exact utf8Tabs_of_reads Tryd.lays260 ⟨by kernel_rfl, by kernel_rfl, by kernel_rfl, by kernel_rfl, by kernel_rfl, by kernel_rfl, by kernel_rfl⟩
    (firstD ▸ Lib.laidMet.reads h (show ("unicode/utf8.first", Go.Pinned.utf8First) ∈ rowLaid from .tail _ (.head _)))
    (acceptD ▸ Lib.laidMet.reads h (show ("unicode/utf8.acceptRanges", Rows.laid_unicode_utf8_acceptRanges) ∈ rowLaid from .head _))
theorem laid_met (os : Os) (args : Array Value) : laidMetH Tryd.prog rowLaid ((World.laidAll Tryd.prog os rowLaid).forCall (fun _ _ => 0) ⟨#[], args, []⟩).memory := by
  rw [MakeChecks.laidMetH_plain _ _ _ (by kernel_rfl)]
  exact laidMet_laidAll _ (by kernel_rfl) (by kernel_rfl)
theorem opensL_any {P : Program} {α : Type} {k : Kd α} {fs : List Field} {off : Nat} {good : α → Prop} (h : OpensL P k fs off good) : OpensL P k fs off (fun _ => True) := by
  intro H enc w base spare held n cs hl hf
  obtain ⟨v, hv, _⟩ := h H enc w base spare held n cs hl hf
  exact ⟨v, hv, trivial⟩
theorem opens_node : Opens Tryd.prog kNode 26 (fun _ => True) := by
  unfold kNode
  refine opens_iso (good := fun _ => True) (fun v => ⟨⟨v.1, v.2.1, v.2.2.1, v.2.2.2⟩, rfl⟩) (opens_struct (good := fun _ => True) Tryd.underlying26 (by kernel_rfl) ?_)
  exact opensL_any (opensL_cons rfl (by kernel_rfl) (opens_int Tryd.underlying3) (by decide)
    (opensL_cons rfl (by kernel_rfl) (opens_slice Tryd.underlying22 (by kernel_rfl) (opens_int Tryd.underlying2)) (by decide)
    (opensL_cons rfl (by kernel_rfl) (opens_slice Tryd.underlying23 (by kernel_rfl) (opens_string Tryd.underlying9)) (by decide)
    (opensL_one rfl (by kernel_rfl) (opens_slice Tryd.underlying24 (by kernel_rfl) (opens_int Tryd.underlying3))))))
def kScene : Kd Scene := Kd.iso (Kd.pair (Kd.slice 26 kNode) (Kd.int .i64)) (fun x : Scene => (x.nodes, x.root))
theorem opens_scene : Opens Tryd.prog kScene 39 (fun _ => True) := by
  unfold kScene
  refine opens_iso (good := fun _ => True) (fun v => ⟨⟨v.1, v.2⟩, rfl⟩) (opens_struct (good := fun _ => True) Tryd.underlying39 (by kernel_rfl) ?_)
  exact opensL_any (opensL_cons rfl (by kernel_rfl) (opens_slice Tryd.underlying30 (by kernel_rfl) opens_node) (by decide)
    (opensL_one rfl (by kernel_rfl) (opens_int Tryd.underlying3)))
theorem kScene_open {w : World} {x : Scene} {cs : List Value} (h : kScene.K w x cs) : ∃ A c, cs = [.slice A x.nodes.length c, .int .i64 x.root] ∧ x.nodes.length ≤ c ∧ kNode.C w A x.nodes.length x.nodes := by
  obtain ⟨_, _, rfl, ⟨A, c, rfl, l, h⟩, rfl⟩ := h
  exact ⟨A, c, rfl, l, h⟩
end Go.Proofs.YtglfebpgdghlfaaDoor.L
end
section
namespace Go.Proofs.YtglfebpgdghlfaaDoor.L
open Go.RowKit Go.ChangeShapes Go.WideShapes Go.Proofs.YtglfebpgdghlfaaDoorW.PrintWords Go.Proofs.YtglfebpgdghlfaaDoorW.PrintLast Go.Proofs.YtglfebpgdghlfaaDoorW.PrintMore
attribute [local go_sem] max2_int min2_int max_two min_two max_three min_three max_four min_four
namespace rebuildSame
open Go.ChangeShapes Go.WideShapes Go.ChangeAt Go.RowKit
set_option maxRecDepth 100000 in
theorem lifted (os : Os) (started : os.Started) (H : Type) (enc : TypeId × Value → H) :
    ReturnsInHanded {} Tryd.checked os 8 .any (fun w args => (Rows.rebuildSameSpec.pre enc Tryd.prog Tryd.f8 [] false w args ∧ laidMetH Tryd.prog rowLaid w) ∧ sizedMet enc Tryd.prog Tryd.f8 (OpenSpec.ofChange Rows.rebuildSameSpec) false w args)
      (Rows.rebuildSameSpec.post enc Tryd.prog Tryd.f8 false true false false) := by
  refine returnsInHanded_of_change_and (C := Tryd.checked) (X := fun w _ => laidMetH Tryd.prog rowLaid w) (fun _ _ _ hh h => h.of_heap hh) own started (by kernel_rfl) Tryd.func8
    (ChangeSpec.witness_shaped (enc := enc) (C := Tryd.checked) (os := os) (X := fun w _ => laidMetH Tryd.prog rowLaid w) false (World.laidAll Tryd.prog os rowLaid) #[.agg #[.slice none 0 0, .int .i64 0], .agg #[.slice none 0 0, .int .i64 0]] 8 (World.laidAll_os _ _ _)
      (World.shaped_of_ZipB (by kernel_rfl) (by kernel_rfl)) (by kernel_rfl) (by kernel_rfl) (by kernel_rfl) (laid_met os _)) ?_
  intro W base args ds gs before hval0 hW hc _ hL _
  have hval : ∀ (j : Nat) t v, (Tryd.f8).params[j]? = some t → args[j]? = some v → Value.okWide Tryd.prog W .any base t v := hval0
  have hW' := hW
  obtain ⟨p, q, hA0, hV, rfl, hfz, hnd⟩ := hW
  have hA : DataW.TrodAll enc Tryd.prog W 0 (fun _ => true) true (Tryd.f8).params.toList args.toList ds p := hA0
  rw [Tryd.params8] at hA hval
  obtain ⟨v0, vs0, d0, ds0, p0, q0, hargs, rfl, rfl, h0, r0⟩ := trodAll_cons hA
  obtain ⟨v1, vs1, d1, ds1, p1, q1, rfl, rfl, rfl, h1, r1⟩ := trodAll_cons r0
  obtain ⟨rfl, rfl, rfl⟩ := trodAll_nil r1
  obtain rfl : args = #[v0, v1] := by cases args; simp_all
  obtain ⟨rfl, rfl⟩ := trodVars_none hV
  have lt0 : ∀ x ∈ p0, x.block < W.heap.size := by obtain ⟨m, hm⟩ := h0; exact DataW.trod_lt m _ _ _ hm
  have lt1 : ∀ x ∈ p1, x.block < W.heap.size := by obtain ⟨m, hm⟩ := h1; exact DataW.trod_lt m _ _ _ hm
  obtain ⟨s0, cs0, rfl, hK0, _⟩ := Opens.arg_struct Tryd.underlying39 opens_scene (hval 0 39 v0 rfl rfl) h0
  obtain ⟨A0, c0, hcs0, hlc0, hC0⟩ := kScene_open hK0
  obtain rfl : cs0 = #[.slice A0 s0.nodes.length c0, .int .i64 s0.root] := by cases cs0; simp_all
  obtain ⟨s1, cs1, rfl, hK1, _⟩ := Opens.arg_struct Tryd.underlying39 opens_scene (hval 1 39 v1 rfl rfl) h1
  obtain ⟨A1, c1, hcs1, hlc1, hC1⟩ := kScene_open hK1
  obtain rfl : cs1 = #[.slice A1 s1.nodes.length c1, .int .i64 s1.root] := by cases cs1; simp_all
  clear hA0 hval0
  refine (rebuildSame_any A0 c0 s0 A1 c1 s1 W hC0 hlc0 hC1 hlc1 (tabs_of_laid hL)).mono fun e W' ⟨he, bel⟩ => ?_
  subst he
  exact ⟨_, rfl, _, _, _, [], _, [], hW', trodAll_mk1 (shut_bool Tryd.underlying4 _), (trodAll_cons_mk (Below.trod laidOut (by kernel_rfl) (of_decide_eq_true (by kernel_rfl)) h0 bel lt0) (trodAll_cons_mk (Below.trod laidOut (by kernel_rfl) (of_decide_eq_true (by kernel_rfl)) h1 bel lt1) trodAll_mk0)), rfl, bel.frame _, fun h => by cases h⟩
theorem over : Rows.RebuildSameSaid :=
  OpenClaim.holds_of_wide 8 Tryd.f8 rfl rfl rfl rfl rfl rfl rfl ⟨rfl, rfl, rfl, rfl, rfl⟩ rfl rfl rfl rfl rfl (by kernel_rfl) Tryd.func8 (by kernel_rfl)
    (of_decide_eq_true (by kernel_rfl)) (by unfold Func.isWrapper; first | (rw [if_pos (by decide +kernel)]; kernel_rfl) | (rw [if_neg (by decide +kernel)]; exact ⟨rfl, rfl⟩))
    (fun os started H enc _ => lifted os started H enc)
theorem card_holds : Rows.RebuildSameCardSaid :=
  Claim7.holds_tied_plain_at .later [] [.data, .pinned] true (true, "d9096c8d86ec02858f6829e4145980d481af2c3bac41f782ac1e7c2d8c679a29") false over (fun _ h => by cases h) (by kernel_rfl) (fun _ h => by cases h) rebuildSame_row_tie rfl ⟨rfl, rfl⟩ (by kernel_rfl) rfl
    (fun f fn hf hfn => by
      obtain rfl : f = 8 := Option.some.inj ((show Tryd.prog.funcNamed "diorama/dioramalaw23.RebuildSame" = some 8 by kernel_rfl).symm.trans hf) |>.symm
      obtain rfl : fn = Tryd.f8 := (Option.some.inj ((Tryd.func8).symm.trans hfn)).symm
      exact ⟨by kernel_rfl, fun j t ht => by
        rw [Tryd.params8] at ht
        have hm : t ∈ [39, 39] := by simpa using Array.mem_of_getElem? ht
        have hall : ([39, 39].all fun u => !Tryd.prog.wantsStandIn u) = true := by kernel_rfl
        exact (show Tryd.prog.wantsStandIn t = false by simpa using List.all_eq_true.1 hall t hm)⟩)
    (by kernel_rfl)
#print axioms card_holds
end rebuildSame
end Go.Proofs.YtglfebpgdghlfaaDoor.L
end
