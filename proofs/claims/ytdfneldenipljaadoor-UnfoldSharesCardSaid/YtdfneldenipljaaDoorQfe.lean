/- Part 5 of the texts that the rows of this seat rest on, joined by a program: what its functions come to. Conditions: those that each theorem states. -/
import Derived.Test.YtdfneldenipljaaDoorQfd
import Derived.Test.YtdfneldenipljaaDoorCards
import Derived.Test.YtdfneldenipljaaDoorTie
import Derived.OpenShut
import Derived.ChangeOld
import Derived.SizedLaws
import Derived.LaidMore
import Derived.Lay
import Derived.SevenTiedAt
import Derived.Stop.Joined
import Derived.Lib.LaidU8
import Derived.Lib.LaidPrint
import Derived.Lib.LaidTab
set_option linter.unusedVariables false
set_option linter.unusedSimpArgs false
section
namespace Go.Proofs.YtdfneldenipljaaDoor.L
open Go.RowKit Go.ChangeShapes Go.WideShapes Go.Proofs.YtdfneldenipljaaDoorW.PrintWords Go.Proofs.YtdfneldenipljaaDoorW.PrintLast Go.Proofs.YtdfneldenipljaaDoorW.PrintMore
attribute [local go_sem] max2_int min2_int max_two min_two max_three min_three max_four min_four
structure ShRel (w1 : World) (xs : List Node) (l : List Int) (v4 v6 : Value) (W : World) : Prop where
  below : Below w1.heap.size w1 W
  out : W.heap[w1.heap.size]? = some (.cells #[v4, .int .i64 0] 34 (0, 0))
  row : kNode.R 52 W w1.heap.size (fun k => some k ≠ v6.ownBlock) v4 xs
  tor : (Kd.int .i64).R 3 W w1.heap.size (fun _ => True) v6 l
theorem ShRel.start (w1 : World) : ShRel w1 [] [] (.slice none 0 0) (.slice (some ⟨w1.heap.size + 1, 0, none⟩) 0 0) ((w1.alloc (.cells #[.slice none 0 0, .int .i64 0] 34)).alloc (.cells #[] 3)) := by
  have b1 := below_alloc (Below.refl w1.heap.size w1) (.cells #[.slice none 0 0, .int .i64 0] 34)
  have n1 := heap_alloc_new w1 (.cells #[.slice none 0 0, .int .i64 0] 34)
  generalize hW : w1.alloc (.cells #[.slice none 0 0, .int .i64 0] 34) = W at b1 n1
  have hs : W.heap.size = w1.heap.size + 1 := by rw [← hW]; simp
  have b2 := below_alloc (Below.refl W.heap.size W) (.cells #[] 3)
  refine ⟨below_step b1 b2, (b2.block _ (by omega)).trans n1, Kd.R_nil _ _ _ _ _, ?_⟩
  have h := R_empty (Kd.int .i64) 3 W w1.heap.size (by omega)
  rwa [hs] at h
theorem ShRel.later {w1 : World} {xs : List Node} {l : List Int} {v4 v6 : Value} {W W1 : World} (h : ShRel w1 xs l v4 v6 W) (hb : Below W.heap.size W W1) : ShRel w1 xs l v4 v6 W1 :=
  ⟨below_step h.below hb, (hb.block _ (blk_lt h.out)).trans h.out, Kd.R_below h.row hb, Kd.R_below h.tor hb⟩
theorem ShRel.node {w1 : World} {xs ys : List Node} {l : List Int} {v4 v5 v6 : Value} {W w2 : World} (h : ShRel w1 xs l v4 v6 W) (hR : kNode.R 52 w2 w1.heap.size (fun k => some k ≠ v6.ownBlock) v5 ys) (hB : Below w1.heap.size w1 w2) (hg : W.grownBy w2 v4.ownBlock) :
    w2.heap[w1.heap.size]? = some (.cells #[v4, .int .i64 0] 34 (0, 0)) ∧ ShRel w1 ys l v5 v6 (w2.setCell ⟨w1.heap.size, 0, none⟩ v5) := by
  have hb := blk_grown h.out hg (Kd.R_ne h.row h.out (by decide))
  refine ⟨hb, below_set hB (Nat.le_refl _), ?_, R_type hR hb (by decide) v5 0, R_type (Kd.R_grown (Kd.R_mono (Kd.R_tight rfl h.tor) (fun k hk => R_apart h.tor h.row (by decide) k hk)) hg (fun k hk => hk) |> fun h' => Kd.R_mono h' (fun _ _ => trivial)) hb (by decide) v5 0⟩
  have := blk_set hb 0 v5
  simpa using this
theorem ShRel.num {w1 : World} {xs : List Node} {l : List Int} {x : Int} {v4 v6 v7 : Value} {W w2 : World} (h : ShRel w1 xs l v4 v6 W) (hR : (Kd.int .i64).R 3 w2 w1.heap.size (fun _ => True) v7 (l ++ [x])) (hB : Below w1.heap.size w1 w2) (hg : W.grownBy w2 v6.ownBlock) (hat : v7.ownBlock = v6.ownBlock ∨ ∃ b, v7.ownBlock = some b ∧ W.heap.size ≤ b) :
    ShRel w1 xs (l ++ [x]) v4 v7 w2 := by
  refine ⟨hB, blk_grown h.out hg (Kd.R_ne h.tor h.out (by decide)), ?_, hR⟩
  have h1 := Kd.R_grown (Kd.R_bound h.row) hg (fun k hk => hk.1)
  refine Kd.R_mono h1 (fun k hk => ?_)
  rcases hat with e | ⟨b, e, hb⟩
  · rw [e]; exact hk.1
  · rw [e]
    intro e2
    injection e2 with e2
    have := hk.2.2.1
    omega
theorem ownC_fresh (T : Lib.PrintTabs) {ns : List Node} (hA : AheadN ns) {j : Nat} (hj : j < ns.length) (h : ∀ m : Nat, m < j → rd (ownS T [] ns).2 (m : Int) ≠ rd (ownS T [] ns).2 (j : Int)) : rd (ownS T [] ns).2 (j : Int) = (cntF (ownS T [] ns).2 0 j : Int) := by
  refine Classical.byContradiction fun hn => ?_
  rcases num_seen (T := T) (l := []) (s := ⟨ns, 0⟩) (fun x hx => by simp at hx) hA hj hn with ⟨k, m, hk, _⟩ | ⟨m, hm, he⟩
  · exact absurd hk (Nat.not_lt_zero _)
  · exact h m hm he
theorem shrU_new {ns : List Node} {own : List Int} {i : Nat} (h : rd own (i : Int) = (cntF own 0 i : Int)) : shrU ns own (i + 1) = shrU ns own i ++ [reN own (nd ns i)] := by
  show (if rd own (i : Int) = ((shrU ns own i).length : Int) then shrU ns own i ++ [reN own (nd ns i)] else shrU ns own i) = _
  rw [shr_len, if_pos h]
theorem shrU_old {ns : List Node} {own : List Int} {i : Nat} (h : rd own (i : Int) < (cntF own 0 i : Int)) : shrU ns own (i + 1) = shrU ns own i := by
  show (if rd own (i : Int) = ((shrU ns own i).length : Int) then shrU ns own i ++ [reN own (nd ns i)] else shrU ns own i) = _
  rw [shr_len, if_neg (by omega)]
set_option maxRecDepth 100000 in
set_option maxHeartbeats 8000000 in
theorem rshare_any (T : Lib.PrintTabs) (A : Option Addr) (c : Nat) (s : Scene) (w : World) (h : kNode.C w A s.nodes.length s.nodes) (hc : s.nodes.length ≤ c) (hRt : Right s) (hF : Fit s.nodes) :
    Calls Tryd.prog 21 #[.agg #[.slice A s.nodes.length c, .int .i64 s.root]] w (SceneRPost (shareS T s) w) := by
  have HR := Aside0.mk h
  have HRt := Aside0.mk hRt
  have HF := Aside0.mk hF
  have hu := Tryd.underlying34
  have hun := Tryd.underlying52
  have HB := Aside0.mk (below_alloc (below_alloc (Below.refl w.heap.size w) (.cells #[.slice A s.nodes.length c, .int .i64 s.root] 34)) (.cells #[.slice none 0 0, .int .i64 0] 34))
  have k0 := box_cell2 w _ rfl #[.slice A s.nodes.length c, .int .i64 s.root] 34 (.cells #[.slice none 0 0, .int .i64 0] 34) 0 (.slice A s.nodes.length c) rfl
  have k1 := box_cell2 w _ rfl #[.slice A s.nodes.length c, .int .i64 s.root] 34 (.cells #[.slice none 0 0, .int .i64 0] 34) 1 (.int .i64 s.root) rfl
  have HL := Aside0.mk (show ((w.alloc (.cells #[.slice A s.nodes.length c, .int .i64 s.root] 34)).alloc (.cells #[.slice none 0 0, .int .i64 0] 34)).heap[w.heap.size + 1]? = some (.cells #[.slice none 0 0, .int .i64 0] 34 (0, 0)) from by
    have := heap_alloc_new (w.alloc (.cells #[.slice A s.nodes.length c, .int .i64 s.root] 34)) (.cells #[.slice none 0 0, .int .i64 0] 34)
    simpa using this)
  -- the canonical scene, and its numbers
  have HCA := Aside0.mk (show AheadN (canS s).nodes from canon_ahead hRt)
  have HCF := Aside0.mk (show Fit (canS s).nodes from hF.canon hRt)
  have HCr := Aside0.mk (show (canS s).root = ((canS s).nodes.length : Int) - 1 ∧ 0 < (canS s).nodes.length from by
    have h1 := canon_len hRt
    have h2 := right_pos hRt
    exact ⟨by show (s.nodes.length : Int) - 1 = ((canonL s).length : Int) - 1; rw [h1], by show 0 < (canonL s).length; omega⟩)
  have HOw := Aside0.mk (show Cls (canS s).nodes (ownC T s) from ownC_cls T hRt)
  have HOl := Aside0.mk (show (ownC T s).length = (canS s).nodes.length from own_len T [] _ _ rfl)
  have HOf := Aside0.mk (show ∀ j : Nat, j < (canS s).nodes.length → (∀ m : Nat, m < j → rd (ownC T s) (m : Int) ≠ rd (ownC T s) (j : Int)) → rd (ownC T s) (j : Int) = (cntF (ownC T s) 0 j : Int) from fun j hj hh => ownC_fresh T (canon_ahead hRt) hj hh)
  have HOt := Aside0.mk (show ∀ i j : Nat, i < (canS s).nodes.length → j < (canS s).nodes.length → (((alkT (canS s).nodes (canS s).nodes (canS s).nodes.length).getD i []).getD j false = true ↔ rd (ownC T s) (i : Int) = rd (ownC T s) (j : Int)) from fun i j hi hj => by
    rw [alk_cell _ _ hi hj]
    exact ownC_like hRt hi hj)
  have HSh := Aside0.mk (show shr0 T s = ⟨shrU (canS s).nodes (ownC T s) (canS s).nodes.length, rd (ownC T s) (canS s).root⟩ from rfl)
  have HSr := Aside0.mk (shr0_right T hRt)
  have HSf := Aside0.mk (hF.shr0 T hRt)
  have HSe := Aside0.mk (show shareS T s = canS (shr0 T s) from rfl)
  clear h hRt hF
  go_enter Tryd.func21, Tryd.ntmps21
  go_wp2_with fail
  refine (rcanon_right A c s _ (Kd.C_below HR.out HB.out) hc HRt.out HF.out).mono ?_
  rintro e w1 ⟨B, d, rfl, hR1, hB1⟩
  have HB1 := Aside0.mk (below_step HB.out hB1)
  have HL1 := Aside0.mk ((hB1.block _ (blk_lt HL.out)).trans HL.out)
  have HC1 := Aside0.mk (Kd.R_reads' hR1).2.2
  have hcd := (Kd.R_reads' hR1).2.1
  clear hR1 hB1 k0 k1 HL HB HR HF HRt
  generalize shr0 T s = S0 at HSh HSr HSf HSe
  generalize ownC T s = own at HOw HOl HOf HOt HSh
  generalize canS s = C at HCA HCF HCr HOw HOl HOf HOt HSh HC1 hcd ⊢
  have hn60 : C.nodes.length ≤ 60 := HCF.out.1
  have e0 := box_cell w1 _ rfl #[.slice B C.nodes.length d, .int .i64 C.root] 34 0 (.slice B C.nodes.length d) rfl
  have e1 := box_cell w1 _ rfl #[.slice B C.nodes.length d, .int .i64 C.root] 34 1 (.int .i64 C.root) rfl
  have hA2 := below_alloc (Below.refl w1.heap.size w1) (.cells #[.slice B C.nodes.length d, .int .i64 C.root] 34)
  go_wp2_with fail
  generalize w1.alloc (.cells #[.slice B C.nodes.length d, .int .i64 C.root] 34) = w2 at e0 e1 hA2 ⊢
  have HC2 := Aside0.mk (Kd.C_below HC1.out hA2)
  have HL2 := Aside0.mk ((hA2.block _ (blk_lt HL1.out)).trans HL1.out)
  have HB2 := Aside0.mk (below_step HB1.out hA2)
  clear hA2 HC1 HL1 HB1
  refine (alike_any B d C B d C w2 HC2.out hcd HC2.out hcd HCF.out.small (fun p hp q hq => (HCA.out p hp q hq).1) (fun p hp q hq => (HCA.out p hp q hq).1) (by omega) (by omega)).mono ?_
  rintro e w3 ⟨A3, c3, rfl, hc3, hTab, hB3⟩
  replace e0 := pw_cell_below hB3 e0
  replace e1 := pw_cell_below hB3 e1
  have HE0 := Aside0.mk e0
  have HE1 := Aside0.mk e1
  have HC3 := Aside0.mk (Kd.C_below HC2.out hB3)
  have HL3 := Aside0.mk ((hB3.block _ (blk_lt HL2.out)).trans HL2.out)
  have HB3 := Aside0.mk (below_step HB2.out hB3)
  have HTab := Aside0.mk hTab
  have HTr := Aside0.mk (fun (p : Nat) (hp : p < C.nodes.length) => alkT_row C.nodes C.nodes hp)
  clear hTab hB3 HC2 HL2 HB2 e0 e1
  generalize alkT C.nodes C.nodes C.nodes.length = tab at HTab HTr HOt
  have HTs := Aside0.mk (fun (p : Nat) (hp : p < C.nodes.length) => (show (tab.getD p []).length = C.nodes.length from by rw [HTr.out p hp]; simp))
  clear HTr
  have HI0 := Aside0.mk (ShRel.start w3)
  go_wp2
  generalize (w3.alloc (.cells #[.slice none 0 0, .int .i64 0] 34)).alloc (.cells #[] 3) = W5 at HI0 ⊢
  go_loopw [7, 6] (fun v7 v6 W => ∃ (i : Nat) (v4 vt : Value), i ≤ C.nodes.length ∧ v7 = .int .i64 i ∧ vt = v6 ∧ Aside0 (ShRel w3 (shrU C.nodes own i) (own.take i) v4 vt W)) (fun v7 _ _ => C.nodes.length - (intOf v7).toNat)
  case atStart => exact ⟨0, _, _, by omega, rfl, rfl, ⟨by rw [List.take_zero]; exact HI0.out⟩⟩
  case round =>
    clear HI0
    obtain ⟨i, v4, vt, hi, rfl, rfl, HI⟩ := hrel
    have e0 := pw_cell_below HI.out.below HE0.out
    by_cases hlt : i < C.nodes.length
    · have HT0 := Aside0.mk (HOw.out.rise i hlt)
      have HTf := Aside0.mk (HOf.out i hlt)
      generalize ht : rd own (i : Int) = t at HT0 HTf
      have HTe := Aside0.mk ht
      clear ht
      have HOx := Aside0.mk (show own.take (i + 1) = own.take i ++ [t] from by rw [take_succ_rd (by rw [HOl.out]; exact hlt), HTe.out])
      have HOl2 := Aside0.mk (show (own.take i).length = i ∧ i ≤ 60 ∧ ∀ m : Nat, m < i → rd (own.take i) (m : Int) = rd own (m : Int) from ⟨by rw [List.length_take, HOl.out]; omega, by omega, fun m hm => by
        have h1 : m < (own.take i).length := by rw [List.length_take, HOl.out]; omega
        rw [rd_eq h1, rd_eq (by rw [HOl.out]; omega), List.getElem_take]⟩)
      have HXl := Aside0.mk (show (shrU C.nodes own i).length = cntF own 0 i ∧ cntF own 0 i ≤ i from ⟨shr_len _ _ _, cnt_le _ _⟩)
      have HXo := Aside0.mk (fun h => shrU_old (ns := C.nodes) (own := own) (i := i) h)
      have HXn := Aside0.mk (fun h => shrU_new (ns := C.nodes) (own := own) (i := i) h)
      rw [HTe.out] at HXo HXn
      generalize shrU C.nodes own i = xs at HI HXl HXo HXn
      generalize own.take i = tol at HI HOx HOl2
      go_wp2
      clear e0
      go_loopw [9, 8] (fun v9 v8 W => ∃ (m : Nat) (z : Int), m ≤ i ∧ v9 = .int .i64 m ∧ v8 = .int .i64 z ∧ Aside0 (Seek (cntF own 0 i) (∀ m' : Nat, m' < m → rd own (m' : Int) ≠ t) t z) ∧ Aside0 (ShRel w3 xs tol v4 vt W)) (fun v9 _ _ => i - (intOf v9).toNat)
      case atStart => exact ⟨0, -1, by omega, rfl, rfl, ⟨.inl ⟨rfl, fun k h => by omega⟩⟩, HI⟩
      case round =>
        clear HI
        obtain ⟨m, z, hm, rfl, rfl, HZ, HI⟩ := hrel
        have e0 := pw_cell_below HI.out.below HE0.out
        by_cases hz : z < 0
        · obtain ⟨hz1, hP4⟩ := HZ.out.no hz
          subst hz1
          have HP4 := Aside0.mk hP4
          by_cases hml : m < i
          · obtain ⟨a2, Bp, dp, rfl, o0, -, hCp⟩ := at_bools HTab.out i hlt
            rw [HTs.out i hlt] at o0 hCp
            obtain ⟨ap, rfl, o1⟩ := at_bool hCp m (by omega)
            replace o0 := pw_cell_below HI.out.below o0
            replace o1 := pw_cell_below HI.out.below o1
            have hmi := HOt.out i m hlt (by omega)
            have hjk : (i : Int) < (C.nodes.length : Int) := by omega
            have hmk : (m : Int) < (C.nodes.length : Int) := by omega
            rw [HTe.out] at hmi
            clear hP4 hCp hz HZ e0
            cases hzb : (tab.getD i []).getD m false with
            | false =>
              rw [hzb] at o1 hmi
              have HP5 := Aside0.mk (ext_lt HP4.out (fun e => by have := hmi.2 e.symm; cases this))
              clear hzb hmi
              go_wp2
              go_roundw
              case rel => exact ⟨m + 1, -1, by omega, by go_num, rfl, ⟨.inl ⟨rfl, HP5.out⟩⟩, HI⟩
              case measure => simp [intOf]; omega
            | true =>
              rw [hzb] at o1 hmi
              have he := hmi.1 rfl
              obtain ⟨Av, cv, hv⟩ := Kd.R_slice HI.out.tor
              subst hv
              obtain ⟨av, rfl, r1⟩ := at_nat (Kd.R_reads' HI.out.tor).2.2 m (by have := HOl2.out.1; omega)
              rw [HOl2.out.2.2 m hml, ← he] at r1
              have hmo : (m : Int) < (tol.length : Int) := by have := HOl2.out.1; omega
              have hlt2 := HOw.out.rise.lt (i := m) (m := i) hml (by omega)
              have h02 := (HOw.out.rise m (by omega)).1
              rw [← he] at hlt2 h02
              have HS5 := Aside0.mk (show Seek (cntF own 0 i) (∀ m' : Nat, m' < m + 1 → rd own (m' : Int) ≠ t) t t from .inr ⟨rfl, h02, hlt2⟩)
              clear hzb hmi he hlt2 h02
              go_wp2
              go_roundw
              case rel => exact ⟨m + 1, t, by omega, by go_num, rfl, HS5, HI⟩
              case measure => simp [intOf]; omega
          · obtain rfl : i = m := by omega
            have HTq := Aside0.mk (HTf.out hP4)
            have HXe := Aside0.mk (HXn.out HTq.out)
            have HNk := Aside0.mk (HCA.out i hlt)
            have HSq := Aside0.mk ((HCF.out.2 i hlt).small)
            have hkl : (nd C.nodes i).kids.length ≤ 300 := (HCF.out.2 i hlt).kids
            obtain ⟨adn, A1, c1, A2, c2, A5, c5, rfl, x0, x1, x2, x3, hN⟩ := at_node HC3.out i hlt
            replace x0 := pw_cell_below HI.out.below x0
            replace x1 := pw_cell_below HI.out.below x1
            replace x2 := pw_cell_below HI.out.below x2
            replace x3 := pw_cell_below HI.out.below x3
            have HN := Aside0.mk hN
            clear hN hP4 hz HZ
            unfold reN at HXe
            generalize nd C.nodes i = n at x0 x1 x2 x3 HN HXe HNk HSq hkl
            go_wp2_with fail
            refine (rcopy_any n A1 c1 A2 c2 A5 c5 wr (HN.out.below HI.out.below) HSq.out).mono ?_
            rintro e w6 ⟨_, rfl, ⟨v1, v2, v3, rfl, hM⟩, hB6⟩
            obtain ⟨v1', v2', v3', ev, hR1, hR2, hR3⟩ := kNode_openM hM
            injection ev with _ ev
            injection ev with f1 ev
            injection ev with f2 ev
            injection ev with f3 _
            subst f1 f2 f3
            obtain ⟨B1, d1, rfl⟩ := Kd.R_slice hR1
            obtain ⟨B2, d2, rfl⟩ := Kd.R_slice hR2
            obtain ⟨B3, d3, rfl⟩ := Kd.R_slice hR3
            have HK : Aside0 (KidB (rd own) n (.slice B1 n.ints.length d1) (.slice B2 n.texts.length d2) (.slice B3 n.kids.length d3) 0 w6.heap.size wr (w6.alloc (.cells #[.int .i64 n.kind, .slice B1 n.ints.length d1, .slice B2 n.texts.length d2, .slice B3 n.kids.length d3] 52))) := ⟨⟨below_step hB6 (below_alloc (Below.refl _ _) _), hB6.size, by simpa using heap_alloc_new w6 _, Kd.R_alloc hR1 _, Kd.R_alloc hR2 _, by rw [mapTake_zero]; exact Kd.R_alloc hR3 _⟩⟩
            clear hM hR1 hR2 hR3 hB6 x0 x1 x2 x3 e0
            go_wp2
            generalize (w6.alloc (.cells #[.int .i64 n.kind, .slice B1 n.ints.length d1, .slice B2 n.texts.length d2, .slice B3 n.kids.length d3] 52)) = W7 at HK ⊢
            generalize w6.heap.size = g6 at HK ⊢
            obtain ⟨W0, hW0⟩ : ∃ W, W = wr := ⟨_, rfl⟩
            rw [← hW0] at HI HK
            clear hW0
            obtain ⟨Av, cv, hv⟩ := Kd.R_slice HI.out.tor
            subst hv
            go_loopw [11] (fun v11 W => ∃ j : Nat, j ≤ n.kids.length ∧ v11 = .int .i64 j ∧ Aside0 (KidB (rd own) n (.slice B1 n.ints.length d1) (.slice B2 n.texts.length d2) (.slice B3 n.kids.length d3) j g6 W0 W)) (fun v11 _ => n.kids.length - (intOf v11).toNat)
            case atStart => exact ⟨0, by omega, rfl, HK⟩
            case round =>
              clear HK
              obtain ⟨j, hj, rfl, HJ⟩ := hrel
              have hq3 : wr.cell? ⟨g6, 3, none⟩ = some (.slice B3 n.kids.length d3) := (blk_cell HJ.out.box 3).trans rfl
              by_cases hjl : j < n.kids.length
              · obtain ⟨g7, c7', hv, -⟩ := Kd.R_form HJ.out.r3 (by rw [mapTake_len]; omega)
                injection hv with hA hmm hcc
                clear hmm
                subst hA hcc
                have hkk := HNk.out _ (rd_mem hjl)
                obtain ⟨k, hk⟩ : ∃ k : Nat, rd n.kids (j : Int) = (k : Int) := ⟨_, (Int.toNat_of_nonneg hkk.1).symm⟩
                obtain ⟨s1, s2, s3, hs4⟩ := HJ.out.set hjl
                obtain ⟨av, rfl, r1⟩ := at_nat (Kd.R_reads' HI.out.tor).2.2 k (by have := HOl2.out.1; omega)
                rw [HOl2.out.2.2 k (by omega)] at r1
                replace r1 := pw_cell_below HJ.out.below r1
                rw [hk] at s1 hs4 hkk
                have hko : (k : Int) < (tol.length : Int) := by have := HOl2.out.1; omega
                have hjn : (j : Int) < (n.kids.length : Int) := by omega
                have HS4 := Aside0.mk hs4
                clear hk hkk hs4
                go_wp2
                go_region
                have HS5 := Aside0.mk HS4.out.drew
                clear HS4 s1 s2 s3 r1 hq3
                go_wp2
                go_roundw
                case rel => exact ⟨j + 1, by omega, by go_num, HS5⟩
                case measure => simp [intOf]; omega
              · obtain rfl : j = n.kids.length := by omega
                have HI7 := Aside0.mk (HI.out.later HJ.out.below)
                obtain ⟨A4, c4, hv4⟩ := Kd.R_slice HI7.out.row
                subst hv4
                have q0 := (blk_cell HJ.out.box 0).trans rfl
                have q1 := (blk_cell HJ.out.box 1).trans rfl
                have q2 := (blk_cell HJ.out.box 2).trans rfl
                have o0 := (blk_cell HI7.out.out 0).trans rfl
                have hsz1 := HI.out.below.size
                have HMk := Aside0.mk (kNode_mkM (n := ⟨n.kind, n.ints, n.texts, n.kids.map (rd own)⟩) (Kd.R_lower (Kd.R_mono (Kd.R_bound HJ.out.r1) (fun k hk => hk.2.1)) hsz1) (Kd.R_lower (Kd.R_mono (Kd.R_bound HJ.out.r2) (fun k hk => hk.2.1)) hsz1) (Kd.R_lower (Kd.R_mono (Kd.R_bound (by have h := HJ.out.r3; rw [mapTake_all] at h; exact h)) (fun k hk => hk.2.1)) hsz1) : kNode.M wr w3.heap.size (fun k => W0.heap.size ≤ k) ⟨n.kind, n.ints, n.texts, n.kids.map (rd own)⟩ [.int .i64 n.kind, .slice B1 n.ints.length d1, .slice B2 n.texts.length d2, .slice B3 n.kids.length d3])
                have hlx : xs.length ≤ 60 := by have := HXl.out; omega
                have HOkp := Aside0.mk (fun (k : Nat) (hk : W0.heap.size ≤ k) => (show some k ≠ (Value.slice Av tol.length cv).ownBlock ∧ some k ≠ (Value.slice A4 xs.length c4).ownBlock from ⟨fun e => by have := Kd.R_lt HI.out.tor k e.symm; omega, fun e => by have := Kd.R_lt HI.out.row k e.symm; omega⟩))
                have HFr := Aside0.mk (fun (k : Nat) (hk : wr.heap.size ≤ k) => (show some k ≠ (Value.slice Av tol.length cv).ownBlock from fun e => by have := Kd.R_lt HI7.out.tor k e.symm; omega))
                have hl8 : (xs ++ [(⟨n.kind, n.ints, n.texts, n.kids.map (rd own)⟩ : Node)]).length = xs.length + 1 := by simp
                have HE := Aside0.mk (show t = (xs.length : Int) from by rw [HTq.out, HXl.out.1])
                go_wp2_with (first
                  | (at_builtin; refine Kd.R_append kNode (w0 := w3) w3.heap.size rfl (.tmp 77) (.tmp 79) 32 52 (.agg #[.int .i64 0, .slice none 0 0, .slice none 0 0, .slice none 0 0]) 80 rfl Tryd.underlying32 info_nodez rfl (by decide) (by omega) (.slice A4 xs.length c4) xs ⟨n.kind, n.ints, n.texts, n.kids.map (rd own)⟩ [.int .i64 n.kind, .slice B1 n.ints.length d1, .slice B2 n.texts.length d2, .slice B3 n.kids.length d3] (fun k => some k ≠ (Value.slice Av tol.length cv).ownBlock) (fun k => W0.heap.size ≤ k) rfl (by go_simp) HMk.out HOkp.out HFr.out HI7.out.row HI7.out.below HI7.out.below.size (by omega) ?_; intro v5 w8 hR8 hB8 hg8 hat8; obtain ⟨A8, c8, rfl⟩ := Kd.R_slice hR8; rw [hl8] at hR8 ⊢; obtain ⟨hb8, hN8⟩ := HI7.out.node hR8 hB8 hg8; have HN8 := Aside0.mk hN8; have y0 := (blk_cell hb8 0).trans rfl; have y0f := blk_frozen hb8 0; clear hR8 hB8 hg8 hat8 hN8 hb8 q0 q1 q2 o0 hq3)
                  | (at_builtin; refine Kd.R_append (Kd.int .i64) (w0 := w3) w3.heap.size rfl (.tmp 82) (.tmp 84) 31 3 (.int .i64 0) 8 rfl Tryd.underlying31 info_int rfl (by decide) (by omega) (.slice Av tol.length cv) tol (xs.length : Int) [.int .i64 (xs.length : Int)] (fun _ => True) (fun _ => False) rfl (by go_simp) rfl (fun _ h => h.elim) (fun _ _ => trivial) HN8.out.tor HN8.out.below HN8.out.below.size (by have := HOl2.out; omega) ?_; intro v7 w7 hR7 hB7 hg7 hat7; have HL := Aside0.mk (HN8.out.num hR7 hB7 hg7 hat7); clear hR7 hB7 hg7 hat7))
                all_goals
                  go_roundw
                  case rel => exact ⟨i + 1, _, _, by omega, by go_num, rfl, by rw [HXe.out, HOx.out, HE.out]; exact HL⟩
                  case measure => simp [intOf]; omega
        · have d0 : decide (z < 0) = false := decide_eq_false hz
          obtain ⟨hzt, ht0, htc⟩ := HZ.out.yes hz
          subst hzt
          have HXe := Aside0.mk (HXo.out htc)
          obtain ⟨Av, cv, hv⟩ := Kd.R_slice HI.out.tor
          subst hv
          clear hz HZ htc e0
          go_wp2_with (at_builtin; refine Kd.R_append (Kd.int .i64) (w0 := w3) w3.heap.size rfl (.tmp 82) (.tmp 84) 31 3 (.int .i64 0) 8 rfl Tryd.underlying31 info_int rfl (by decide) (by omega) (.slice Av tol.length cv) tol z [.int .i64 z] (fun _ => True) (fun _ => False) rfl (by go_simp) rfl (fun _ h => h.elim) (fun _ _ => trivial) HI.out.tor HI.out.below HI.out.below.size (by have := HOl2.out; omega) ?_; intro v7 w7 hR7 hB7 hg7 hat7; have HL := Aside0.mk (HI.out.num hR7 hB7 hg7 hat7); clear hR7 hB7 hg7 hat7)
          all_goals
            go_roundw
            case rel => exact ⟨i + 1, _, _, by omega, by go_num, rfl, by rw [HXe.out, HOx.out]; exact HL⟩
            case measure => simp [intOf]; omega
    · obtain rfl : i = C.nodes.length := by omega
      obtain ⟨r, hr⟩ : ∃ r : Nat, C.root = (r : Int) := ⟨C.root.toNat, by have := HCr.out; omega⟩
      have hrn : r < C.nodes.length := by have := HCr.out; omega
      have HTk := Aside0.mk (show own.take C.nodes.length = own from by rw [← HOl.out, List.take_length])
      rw [HTk.out] at HI
      have HS0 := Aside0.mk (show S0 = ⟨shrU C.nodes own C.nodes.length, rd own (r : Int)⟩ from by rw [HSh.out, hr])
      have HXl := Aside0.mk (show (shrU C.nodes own C.nodes.length).length ≤ 60 from by rw [shr_len]; have := cnt_le own C.nodes.length; omega)
      generalize shrU C.nodes own C.nodes.length = xs at HI HS0 HXl
      obtain ⟨Av, cv, hv⟩ := Kd.R_slice HI.out.tor
      subst hv
      obtain ⟨av, rfl, r1⟩ := at_nat (Kd.R_reads' HI.out.tor).2.2 r (by rw [HOl.out]; exact hrn)
      have e1 := pw_cell_below HI.out.below HE1.out
      rw [hr] at e1
      have hol := HOl.out
      have hro : (r : Int) < (own.length : Int) := by omega
      obtain ⟨A4, c4, hv4⟩ := Kd.R_slice HI.out.row
      subst hv4
      have o1 := (blk_cell HI.out.out 1).trans rfl
      have o1f := blk_frozen HI.out.out 1
      have hb1 := blk_set HI.out.out 1 (.int .i64 (rd own (r : Int)))
      have p0 := (blk_cell hb1 0).trans rfl
      have p1 := (blk_cell hb1 1).trans rfl
      have HRow := Aside0.mk (R_type HI.out.row HI.out.out (by decide) (.int .i64 (rd own (r : Int))) 1)
      have HBw := Aside0.mk (below_set (g := w3.heap.size) (j := 1) (v := .int .i64 (rd own (r : Int))) HI.out.below (Nat.le_refl _))
      clear hb1 hr
      clear hol
      go_wp2_with fail
      clear e0 e1 r1 o1 o1f p0 p1 hro
      have hS := HS0.out
      subst hS
      have HResw := Aside0.mk ((HBw.out.block _ (blk_lt HL3.out)).trans HL3.out)
      refine (rcanon_right A4 c4 ⟨xs, rd own (r : Int)⟩ _ (Kd.R_reads' HRow.out).2.2 (Kd.R_reads' HRow.out).2.1 HSr.out HSf.out).mono ?_
      rintro e w8 ⟨B8, d8, rfl, hR8, hB8⟩
      have hres := (hB8.block _ (blk_lt HResw.out)).trans HResw.out
      have HB8 := Aside0.mk (below_step (below_step HB3.out HBw.out) hB8)
      have hbase := (below_step HB3.out HBw.out).size
      generalize canS ⟨xs, rd own (r : Int)⟩ = D at hR8 HSe ⊢
      have HR8 := Aside0.mk (Kd.R_lower hR8 hbase)
      clear hR8 hB8 hbase
      have l0 := (blk_cell hres 0).trans rfl
      have l0f := blk_frozen hres 0
      have l1 := (blk_cell (blk_set hres 0 (.slice B8 D.nodes.length d8)) 1).trans rfl
      have l1f := blk_frozen (blk_set hres 0 (.slice B8 D.nodes.length d8)) 1
      go_wp2
      have h2 := And.intro ((blk_cell (box2 hres (.slice B8 D.nodes.length d8) (.int .i64 D.root)) 0).trans rfl) ((blk_cell (box2 hres (.slice B8 D.nodes.length d8) (.int .i64 D.root)) 1).trans rfl)
      have hRR := R_type (R_type HR8.out hres (by decide) (.slice B8 D.nodes.length d8) 0) (blk_set hres 0 _) (by decide) (.int .i64 D.root) 1
      exact bodyPost_ret (v := .agg #[.slice B8 D.nodes.length d8, .int .i64 D.root]) (by simp [results, Tryd.results21, go_sem, h2]) rfl ⟨B8, d8, by rw [HSe.out], by rw [HSe.out]; exact hRR, below_set2 HB8.out (by omega)⟩
end Go.Proofs.YtdfneldenipljaaDoor.L
end
section
namespace Go.Proofs.YtdfneldenipljaaDoor.L
open Go.RowKit Go.ChangeShapes Go.WideShapes Go.Proofs.YtdfneldenipljaaDoorW.PrintWords Go.Proofs.YtdfneldenipljaaDoorW.PrintLast Go.Proofs.YtdfneldenipljaaDoorW.PrintMore
attribute [local go_sem] max2_int min2_int max_two min_two max_three min_three max_four min_four
def FirstF (own : List Int) (N i : Nat) (f : Lit → Option Value) : Prop :=
  ∀ j : Nat, i ≤ j → j < N → ∃ m : Nat, i ≤ m ∧ m ≤ j ∧ rd own (m : Int) = rd own (j : Int) ∧ (∀ m' : Nat, i ≤ m' → m' < m → rd own (m' : Int) ≠ rd own (j : Int)) ∧ f (.int .i64 (rd own (j : Int))) = some (.int .i64 (m : Int))
theorem FirstF.start (own : List Int) (N : Nat) (f : Lit → Option Value) : FirstF own N N f := fun j h1 h2 => by omega
theorem FirstF.put {own : List Int} {N i : Nat} {f : Lit → Option Value} (h : FirstF own N (i + 1) f) : FirstF own N i (putF f (.int .i64 (rd own (i : Int))) (.int .i64 (i : Int))) := fun j h1 h2 => by
  by_cases e : rd own (j : Int) = rd own (i : Int)
  · exact ⟨i, Nat.le_refl _, h1, e.symm, fun m' a b => by omega, by rw [e, putF_same]⟩
  · have hj : i + 1 ≤ j := by
      rcases Nat.lt_or_ge i j with h | h
      · exact h
      · obtain rfl : i = j := by omega
        exact absurd rfl e
    obtain ⟨m, a1, a2, a3, a4, a5⟩ := h j hj h2
    refine ⟨m, by omega, a2, a3, fun m' b1 b2 => ?_, ?_⟩
    · by_cases em : m' = i
      · subst em; exact fun e2 => e e2.symm
      · exact a4 m' (by omega) b2
    · rw [putF_other _ _ (fun e2 => e (by injection e2))]
      exact a5
theorem FirstF.new {ns : List Node} {own : List Int} {f : Lit → Option Value} (h : FirstF own ns.length 0 f) (hc : Cls ns own) {i : Nat} (hi : i < ns.length) :
    ∃ m : Nat, m ≤ i ∧ f (.int .i64 (rd own (i : Int))) = some (.int .i64 (m : Int)) ∧ ((m = i ∧ rd own (i : Int) = (cntF own 0 i : Int)) ∨ (m ≠ i ∧ rd own (i : Int) < (cntF own 0 i : Int))) := by
  obtain ⟨m, -, a2, a3, a4, a5⟩ := h i (Nat.zero_le _) hi
  refine ⟨m, a2, a5, ?_⟩
  by_cases e : rd own (i : Int) = (cntF own 0 i : Int)
  · refine .inl ⟨Classical.byContradiction fun hm => ?_, e⟩
    have := hc.rise.lt (i := m) (m := i) (by omega) (by omega)
    omega
  · have h1 := hc.rise i hi
    have hlt : rd own (i : Int) < (cntF own 0 i : Int) := by omega
    obtain ⟨j, hj, ej⟩ := cnt_onto (own := own) (c := 0) (m := i) (k := (rd own (i : Int)).toNat) (Nat.zero_le _) (by omega)
    refine .inr ⟨fun hm => ?_, hlt⟩
    subst hm
    exact a4 j (Nat.zero_le _) hj (by rw [ej]; omega)
def AtF (c : Nat) (f : Lit → Option Value) : Prop := ∀ x : Nat, x < c → f (.int .i64 (x : Int)) = some (.int .i64 (x : Int))
theorem AtF.put {c : Nat} {f : Lit → Option Value} (h : AtF c f) : AtF (c + 1) (putF f (.int .i64 (c : Int)) (.int .i64 (c : Int))) := fun x hx => by
  by_cases e : x = c
  · subst e; rw [putF_same]
  · rw [putF_other _ _ (fun e2 => e (by injection e2 with _ e3; omega))]
    exact h x (by omega)
structure SRel (wb : World) (c : Nat) (xs : List Node) (v4 : Value) (W : World) : Prop where
  since : Below wb.heap.size wb W
  map : ∃ f n, n ≤ c ∧ AtF c f ∧ MapF Tryd.prog 3 W wb.heap.size n f
  out : W.heap[wb.heap.size + 1]? = some (.cells #[v4, .int .i64 0] 34 (0, 0))
  row : kNode.R 52 W wb.heap.size (fun _ => True) v4 xs
theorem SRel.start (wb : World) : SRel wb 0 [] (.slice none 0 0) ((wb.alloc (.map #[] 0)).alloc (.cells #[.slice none 0 0, .int .i64 0] 34)) := by
  have b1 := below_alloc (Below.refl wb.heap.size wb) (.map #[] 0)
  have m1 := MapF.made Tryd.prog 3 wb
  have s1 : (wb.alloc (.map #[] 0)).heap.size = wb.heap.size + 1 := by simp
  generalize wb.alloc (.map #[] 0) = W1 at b1 m1 s1 ⊢
  have b2 := below_alloc (Below.refl W1.heap.size W1) (.cells #[.slice none 0 0, .int .i64 0] 34)
  refine ⟨below_step b1 b2, ⟨_, 0, Nat.le_refl _, fun x hx => absurd hx (Nat.not_lt_zero _), m1.below b2⟩, ?_, Kd.R_nil _ _ _ _ _⟩
  rw [← s1]
  simpa using heap_alloc_new W1 _
section
variable {wb W W1 : World} {c : Nat} {xs ys : List Node} {v4 v5 : Value}
theorem SRel.later (h : SRel wb c xs v4 W) (hb : Below W.heap.size W W1) : SRel wb c xs v4 W1 := by
  obtain ⟨f, n, hn, hf, hm⟩ := h.map
  exact ⟨below_step h.since hb, ⟨f, n, hn, hf, hm.below hb⟩, (hb.block _ (blk_lt h.out)).trans h.out, Kd.R_below h.row hb⟩
theorem SRel.put {f : Lit → Option Value} {n : Nat} (h : SRel wb c xs v4 W) (hf : AtF c f) (hn : n ≤ c) (hM : MapF Tryd.prog 3 W wb.heap.size n f) (hM1 : MapF Tryd.prog 3 W1 wb.heap.size (n + 1) (putF f (.int .i64 (c : Int)) (.int .i64 (c : Int)))) (hg : W.grownBy W1 (some wb.heap.size)) : SRel wb (c + 1) xs v4 W1 :=
  ⟨below_map h.since h.since.size hg (Nat.le_refl _), ⟨_, n + 1, by omega, hf.put, hM1⟩, blk_grown h.out hg (fun e => by injection e with e; omega), R_past_map h.row hM hg⟩
theorem SRel.node (h : SRel wb c xs v4 W) (hR : kNode.R 52 W1 wb.heap.size (fun _ => True) v5 ys) (hB : Below wb.heap.size wb W1) (hg : W.grownBy W1 v4.ownBlock) :
    W1.heap[wb.heap.size + 1]? = some (.cells #[v4, .int .i64 0] 34 (0, 0)) ∧ SRel wb c ys v5 (W1.setCell ⟨wb.heap.size + 1, 0, none⟩ v5) := by
  obtain ⟨f, n, hn, hf, hm⟩ := h.map
  have hb := blk_grown h.out hg (Kd.R_ne h.row h.out (by decide))
  refine ⟨hb, below_set hB (Nat.le_succ _), ⟨f, n, hn, hf, (hm.kept hg (hm.ne_row h.row)).setCell (by show wb.heap.size ≠ wb.heap.size + 1; omega) _⟩, ?_, R_type hR hb (by decide) v5 0⟩
  have := blk_set hb 0 v5
  simpa using this
end
open Classical in
noncomputable def shR (T : Lib.PrintTabs) (s : Scene) : Scene := if Right s then shareS T s else ⟨[], 0⟩
open Classical in
theorem shR_yes {T : Lib.PrintTabs} {s : Scene} (h : Right s) : shR T s = shareS T s := if_pos h
open Classical in
theorem shR_no {T : Lib.PrintTabs} {s : Scene} (h : ¬ Right s) : shR T s = ⟨[], 0⟩ := if_neg h
end Go.Proofs.YtdfneldenipljaaDoor.L
end
section
namespace Go.Proofs.YtdfneldenipljaaDoor.L
open Go.RowKit Go.ChangeShapes Go.WideShapes Go.Proofs.YtdfneldenipljaaDoorW.PrintWords Go.Proofs.YtdfneldenipljaaDoorW.PrintLast Go.Proofs.YtdfneldenipljaaDoorW.PrintMore
attribute [local go_sem] max2_int min2_int max_two min_two max_three min_three max_four min_four
theorem canS_at {s : Scene} (h : Right s) : ∃ r : Nat, (canS s).root = (r : Int) ∧ r < (canS s).nodes.length := by
  have h1 := canon_len h
  have h2 := right_pos h
  exact ⟨s.nodes.length - 1, by show (s.nodes.length : Int) - 1 = _; omega, by show _ < (canonL s).length; omega⟩
def decI : Nat → Int
  | 0 => -1
  | p + 1 => (p : Int)
theorem decI_eq (p : Nat) : decI p = (p : Int) - 1 := by
  cases p with
  | zero => rfl
  | succ p => show (p : Int) = ((p + 1 : Nat) : Int) - 1; omega
set_option maxRecDepth 100000 in
set_option maxHeartbeats 8000000 in
theorem ushare_any (T : Lib.PrintTabs) (A : Option Addr) (c : Nat) (s : Scene) (w : World) (h : kNode.C w A s.nodes.length s.nodes) (hc : s.nodes.length ≤ c) (hF : Fit s.nodes) (hT : QTabs T w) :
    Calls Tryd.prog 32 #[.agg #[.slice A s.nodes.length c, .int .i64 s.root]] w (ScenePost (shR T s) (gcheck s).1 w) := by
  have HR := Aside0.mk h
  have HF := Aside0.mk hF
  have HT := Aside0.mk hT
  have hu := Tryd.underlying34
  have hun := Tryd.underlying52
  have hmm := @run_makeMap Tryd.prog
  have HB := Aside0.mk (below_alloc (below_alloc (Below.refl w.heap.size w) (.cells #[.slice A s.nodes.length c, .int .i64 s.root] 34)) (.cells #[.slice none 0 0, .int .i64 0] 34))
  have k0 := box_cell2 w _ rfl #[.slice A s.nodes.length c, .int .i64 s.root] 34 (.cells #[.slice none 0 0, .int .i64 0] 34) 0 _ rfl
  have k1 := box_cell2 w _ rfl #[.slice A s.nodes.length c, .int .i64 s.root] 34 (.cells #[.slice none 0 0, .int .i64 0] 34) 1 _ rfl
  have HL := Aside0.mk (show ((w.alloc (.cells #[.slice A s.nodes.length c, .int .i64 s.root] 34)).alloc (.cells #[.slice none 0 0, .int .i64 0] 34)).heap[w.heap.size + 1]? = some (.cells #[.slice none 0 0, .int .i64 0] 34 (0, 0)) from by
    have := heap_alloc_new (w.alloc (.cells #[.slice A s.nodes.length c, .int .i64 s.root] 34)) (.cells #[.slice none 0 0, .int .i64 0] 34)
    simpa using this)
  clear h hF hT
  go_enter Tryd.func32, Tryd.ntmps32
  go_wp2_with fail
  refine (gcheck_any A c s _ (Kd.C_below HR.out HB.out) (by have := HF.out.rows; omega)).mono ?_
  rintro e w1 ⟨rfl, hB1⟩
  have HB1 := Aside0.mk (below_step HB.out hB1)
  have HL1 := Aside0.mk ((hB1.block _ (blk_lt HL.out)).trans HL.out)
  replace k0 := pw_cell_below hB1 k0
  replace k1 := pw_cell_below hB1 k1
  clear hB1 HL HB
  by_cases hz : (gcheck s).1 = 0
  · have HRt := Aside0.mk (gcheck_right.1 hz)
    have HE := Aside0.mk (show shR T s = canS (shr0 T s) from shR_yes HRt.out)
    have HZ := Aside0.mk hz
    have HCA := Aside0.mk (show AheadN (canS s).nodes from canon_ahead HRt.out)
    have HCF := Aside0.mk (show Fit (canS s).nodes from HF.out.canon HRt.out)
    have HOw := Aside0.mk (show Cls (canS s).nodes (ownC T s) from ownC_cls T HRt.out)
    have HOl := Aside0.mk (show (ownC T s).length = (canS s).nodes.length from own_len T [] _ _ rfl)
    have HSh := Aside0.mk (show shr0 T s = ⟨shrU (canS s).nodes (ownC T s) (canS s).nodes.length, rd (ownC T s) (canS s).root⟩ from rfl)
    have HSr := Aside0.mk (shr0_right T HRt.out)
    have HSf := Aside0.mk (HF.out.shr0 T HRt.out)
    have HAl := Aside0.mk (show (allS T [canS s]).2 = [ownC T s] from rfl)
    have HEc := Aside0.mk (canR_eq HRt.out)
    obtain ⟨r, hr, hrn⟩ := canS_at HRt.out
    have HRr := Aside0.mk (And.intro hr hrn)
    clear hr hrn
    rw [hz]
    clear hz
    go_wp2_with fail
    refine (canon_any A c s w1 (Kd.C_below HR.out HB1.out) (by have := HF.out.rows; omega) HF.out.small).mono ?_
    rintro e w2 ⟨B, d, rfl, hR2, hB2⟩
    rw [HZ.out]
    rw [HEc.out] at hR2 ⊢
    have HB2 := Aside0.mk (below_step HB1.out hB2)
    have HL2 := Aside0.mk ((hB2.block _ (blk_lt HL1.out)).trans HL1.out)
    have HC2 := Aside0.mk (Kd.R_reads' hR2).2.2
    have hcd := (Kd.R_reads' hR2).2.1
    clear hR2 hB2 k0 k1 HL1 HB1 HEc
    generalize shr0 T s = S0 at HSh HSr HSf HE
    generalize ownC T s = own at HOw HOl HSh HAl
    generalize canS s = C at HCA HCF HOw HOl HSh HAl HRr HC2 hcd ⊢
    have hn60 : C.nodes.length ≤ 60 := HCF.out.1
    rw [HRr.out.1]
    have e0 := box_cell w2 _ rfl #[.slice B C.nodes.length d, .int .i64 (r : Int)] 34 0 (.slice B C.nodes.length d) rfl
    have e1 := box_cell w2 _ rfl #[.slice B C.nodes.length d, .int .i64 (r : Int)] 34 1 (.int .i64 (r : Int)) rfl
    have hA3 := below_alloc (Below.refl w2.heap.size w2) (.cells #[.slice B C.nodes.length d, .int .i64 (r : Int)] 34)
    go_wp2_with fail
    have hz3 : (w2.alloc (.cells #[.slice B C.nodes.length d, .int .i64 (r : Int)] 34)).heap.size = w2.heap.size + 1 := by simp
    generalize w2.alloc (.cells #[.slice B C.nodes.length d, .int .i64 (r : Int)] 34) = w3 at e0 e1 hA3 hz3 ⊢
    have HC3 := Aside0.mk (Kd.C_below HC2.out hA3)
    have HL3 := Aside0.mk ((hA3.block _ (blk_lt HL2.out)).trans HL2.out)
    have HB3 := Aside0.mk (below_step HB2.out hA3)
    have hA4 := below_alloc (Below.refl w3.heap.size w3) (.cells #[.slice B C.nodes.length d, .int .i64 (r : Int)] 34)
    have hrow := sc_row1 w3 _ hz3 (show kScene.K w3 C [.slice B C.nodes.length d, .int .i64 (r : Int)] from by rw [← HRr.out.1]; exact scK HC3.out hcd)
    clear hA3 HC2 HL2 HB2
    refine (classes_any T _ 1 [C] _ hrow (fun i hi => by
      obtain rfl : i = 0 := by simp at hi; omega
      exact HCF.out.scbd) (fun i hi => by
      obtain rfl : i = 0 := by simp at hi; omega
      exact HCA.out) (by simp) (by simp) (HT.out.below (below_step HB3.out hA4))).mono ?_
    rintro e w5 ⟨A5, c5, rfl, hc5, hC5, hB5⟩
    have hB5 := below_step hA4 hB5
    replace e0 := pw_cell_below hB5 e0
    replace e1 := pw_cell_below hB5 e1
    have HB5 := Aside0.mk (below_step HB3.out hB5)
    have HL5 := Aside0.mk ((hB5.block _ (blk_lt HL3.out)).trans HL3.out)
    have HC5 := Aside0.mk (Kd.C_below HC3.out hB5)
    rw [HAl.out] at hC5
    obtain ⟨al, B0, d0, rfl, z0, -, hD0⟩ := at_ints (show kInts.C w5 A5 1 [own] from hC5) 0 (by simp)
    have HO5 := Aside0.mk (show (Kd.int .i64).C w5 B0 own.length own from hD0)
    have z0 : w5.cell? al = some (.slice B0 own.length d0) := by
      rw [add_zero al] at z0
      exact z0
    have h1l : ([C] : List Scene).length = 1 := rfl
    rw [HOl.out] at z0 HO5
    have HM0 := Aside0.mk (MapF.made Tryd.prog 3 w5)
    have hbm := below_alloc (Below.refl w5.heap.size w5) (.map #[] 0)
    have hw1 : IntKind.i64.wrap ((C.nodes.length : Int) - 1) = (C.nodes.length : Int) - 1 := wrap_i (by omega) (by omega)
    clear hA4 hrow hB5 hC5 hD0 HC3 HL3 HB3
    go_wp2
    have HE0 := Aside0.mk e0
    have HE1 := Aside0.mk e1
    have HB6 := Aside0.mk (below_step HB5.out hbm)
    have HZ5 := Aside0.mk (And.intro (show w5.heap.size < (w5.alloc (.map #[] 0)).heap.size by simp) hbm)
    generalize hw6 : w5.alloc (.map #[] 0) = w6 at HM0 HB6 HZ5 ⊢
    generalize hmb : w5.heap.size = mb at HM0 HZ5 ⊢
    have HMb := Aside0.mk hmb
    clear hmb hw6 hbm e0 e1 z0 hw1 h1l
    go_loopw [10] (fun v10 W => ∃ q : Nat, q ≤ C.nodes.length ∧ v10 = .int .i64 (decI q) ∧ ∃ f cnt, Aside0 (cnt + q ≤ C.nodes.length ∧ FirstF own C.nodes.length q f ∧ MapF Tryd.prog 3 W mb cnt f ∧ Below mb w5 W)) (fun v10 _ => (intOf v10 + 1).toNat)
    case atStart => exact ⟨C.nodes.length, Nat.le_refl _, by rw [decI_eq], _, 0, ⟨by omega, FirstF.start _ _ _, HM0.out, HZ5.out.2⟩⟩
    case round =>
      obtain ⟨q, hq, hv, f, cnt, HI⟩ := hrel
      cases q with
      | succ p =>
        obtain rfl : _ = Value.int .i64 (p : Int) := hv
        obtain ⟨b0, rfl, y0⟩ := at_nat HO5.out p (by omega)
        have hbb : Below w5.heap.size w5 wr := by rw [HMb.out]; exact HI.out.2.2.2
        replace y0 := pw_cell_below hbb y0
        have hpn : (p : Int) < (C.nodes.length : Int) := by omega
        have hr := HOw.out.rise p (by omega)
        have hcl := cnt_le own p
        have hkey := keyI_of (x := rd own (p : Int)) (by omega) (by omega)
        have hcm : cnt < maxLen := by have := HI.out.1; unfold maxLen; omega
        have HPut := Aside0.mk HI.out.2.1.put
        clear hr hcl
        generalize rd own (p : Int) = x at y0 hkey HPut
        go_wp2_with (at_mapUpdate; refine wpList_update_F _ rfl (.tmp 44) (.tmp 48) (.tmp 49) 64 rfl 3 3 keyI Tryd.underlying64 mb cnt f rfl HI.out.2.2.1 hcm (.int .i64 x) (.int .i64 (p : Int)) (.int .i64 x) rfl rfl hkey ?_; intro w7 hM7 hg7; have HN7 := Aside0.mk (And.intro hM7 (below_map HI.out.2.2.2 (by have := MapF.lt HI.out.2.2.1; omega) hg7 (Nat.le_refl _))); clear hM7 hg7)
        go_roundw
        case rel => exact ⟨p, by omega, by rw [decI_eq], _, cnt + 1, ⟨by have := HI.out.1; omega, HPut.out, HN7.out.1, HN7.out.2⟩⟩
        case measure => (simp [intOf] <;> omega)
      | zero =>
        obtain rfl : _ = Value.int .i64 (-1) := hv
        have hbb : Below w5.heap.size w5 wr := by rw [HMb.out]; exact HI.out.2.2.2
        have HBw := Aside0.mk (below_step HB5.out hbb)
        have HE0 := Aside0.mk (pw_cell_below hbb HE0.out)
        have HE1 := Aside0.mk (pw_cell_below hbb HE1.out)
        have HCw := Aside0.mk (Kd.C_below HC5.out hbb)
        have HOw2 := Aside0.mk (Kd.C_below HO5.out hbb)
        have HLw := Aside0.mk ((hbb.block _ (blk_lt HL5.out)).trans HL5.out)
        have HNew := Aside0.mk (fun i hi => HI.out.2.1.new HOw.out (i := i) hi)
        have HMF := Aside0.mk HI.out.2.2.1
        obtain ⟨wb, hwb⟩ : ∃ wb : World, wb = wr := ⟨_, rfl⟩
        rw [← hwb] at HBw HE0 HE1 HCw HOw2 HLw HMF
        have HS0 := Aside0.mk (SRel.start wb)
        have hb0 := below_step (below_alloc (Below.refl wb.heap.size wb) (.map #[] 0)) (below_alloc (Below.refl (wb.alloc (.map #[] 0)).heap.size (wb.alloc (.map #[] 0))) (.cells #[.slice none 0 0, .int .i64 0] 34))
        have e0 := pw_cell_below hb0 HE0.out
        rw [← hwb]
        clear hbb HI hwb hb0 HC5 HO5 HL5 HB5 HB6 HZ5 HM0
        go_wp2
        clear e0 hmm
        generalize (wb.alloc (.map #[] 0)).alloc (.cells #[.slice none 0 0, .int .i64 0] 34) = W7 at HS0 ⊢
        go_loopw [54] (fun v54 W => ∃ i : Nat, i ≤ C.nodes.length ∧ v54 = .int .i64 i ∧ ∃ v4, Aside0 (SRel wb (cntF own 0 i) (shrU C.nodes own i) v4 W)) (fun v54 _ => C.nodes.length - (intOf v54).toNat)
        case atStart => exact ⟨0, by omega, rfl, _, HS0⟩
        case round =>
          clear HS0
          obtain ⟨i, hi, rfl, v4, HI⟩ := hrel
          by_cases hlt : i < C.nodes.length
          · obtain ⟨m, hmi, hf, hnew⟩ := HNew.out i hlt
            have HXl := Aside0.mk (show (shrU C.nodes own i).length = cntF own 0 i ∧ cntF own 0 i ≤ i from ⟨shr_len _ _ _, cnt_le _ _⟩)
            have HXo := Aside0.mk (fun h => (⟨shrU_old (ns := C.nodes) (own := own) (i := i) h, cnt_old (own := own) (c := 0) (j := i) h⟩ : _ ∧ _))
            have HXn := Aside0.mk (fun h => (⟨shrU_new (ns := C.nodes) (own := own) (i := i) h, cnt_new (own := own) (c := 0) (j := i) h⟩ : _ ∧ _))
            have HRi := Aside0.mk (fun (m : Nat) (hm : m < i) => (And.intro (HOw.out.rise m (by omega)).1 (HOw.out.rise.lt (i := m) (m := i) hm (by omega))))
            have hr := HOw.out.rise i hlt
            have hcl := cnt_le own i
            have hkey := keyI_of (x := rd own (i : Int)) (by omega) (by omega)
            obtain ⟨adn, A1, c1, A2, c2, A3, c3, rfl, x0, x1, x2, x3, hN⟩ := at_node HCw.out i hlt
            obtain ⟨b0, rfl, y0⟩ := at_nat HOw2.out i hlt
            replace x0 := pw_cell_below HI.out.since x0
            replace x1 := pw_cell_below HI.out.since x1
            replace x2 := pw_cell_below HI.out.since x2
            replace x3 := pw_cell_below HI.out.since x3
            replace y0 := pw_cell_below HI.out.since y0
            have HN := Aside0.mk hN
            have HNk := Aside0.mk (HCA.out i hlt)
            have HSq := Aside0.mk ((HCF.out.2 i hlt).small)
            have hkl : (nd C.nodes i).kids.length ≤ 300 := (HCF.out.2 i hlt).kids
            generalize hcn : cntF own 0 i = cn at HI HXl HXo HXn HRi hnew hr hcl
            generalize shrU C.nodes own i = xs at HI HXl HXo HXn
            have HTe : ∃ t, t = rd own (i : Int) := ⟨_, rfl⟩
            obtain ⟨t, ht⟩ := HTe
            rw [← ht] at hf hnew hkey y0 hr
            have HTt := Aside0.mk ht
            clear ht
            unfold reN at HXn
            clear hN
            generalize nd C.nodes i = n at x0 x1 x2 x3 HN HXn HNk HSq hkl
            have hA := below_alloc (Below.refl wr.heap.size wr) (.cells #[.int .i64 n.kind, .slice A1 n.ints.length c1, .slice A2 n.texts.length c2, .slice A3 n.kids.length c3] 52)
            replace y0 := pw_cell_below hA y0
            have HJ := Aside0.mk (HI.out.later hA)
            have hgf : (f (.int .i64 t)).getD (.int .i64 0) = .int .i64 (m : Int) := by rw [hf]; rfl
            have HMw := Aside0.mk (HMF.out.below HJ.out.since)
            rcases hnew with ⟨hm, hnw⟩ | ⟨hm, hod⟩
            · have HX := Aside0.mk (HXn.out (by rw [← HTt.out, hnw]))
              subst hm hnw
              have dm : ((m : Int) != (m : Int)) = false := by simp
              have hc4 : cn ≤ 60 := by have := HXl.out; omega
              clear hr hcl
              go_wp2_with (at_lookup; refine wpList_lookup_F _ rfl (.tmp 59) (.tmp 63) 64 rfl 3 3 keyI Tryd.underlying64 (zeroIW _) mb cnt f rfl HMw.out (.int .i64 (cn : Int)) (.int .i64 (cn : Int)) rfl hkey (.int .i64 (m : Int)) hgf ?_)
              refine (copy_any n A1 c1 A2 c2 A3 c3 _ (HN.out.below (below_step HI.out.since hA)) HSq.out).mono ?_
              rintro e w6 ⟨_, rfl, ⟨v1, v2, v3, rfl, hM⟩, hB6⟩
              obtain ⟨B1, d1, B2, d2, B3, d3, rfl, rfl, rfl⟩ := M_slicesW hM
              have hbx : w6.heap[wr.heap.size]? = some (.cells #[.int .i64 n.kind, .slice A1 n.ints.length c1, .slice A2 n.texts.length c2, .slice A3 n.kids.length c3] 52 (0, 0)) := (hB6.block _ (by simp)).trans (by simpa using heap_alloc_new wr (.cells #[.int .i64 n.kind, .slice A1 n.ints.length c1, .slice A2 n.texts.length c2, .slice A3 n.kids.length c3] 52))
              have HK := Aside0.mk (KidRel.start (f := rd own) (W0 := wr) hbx (below_step hA hB6) (by simp) hM)
              have f0 := (blk_cell hbx 0).trans rfl
              have f0f := blk_frozen hbx 0
              have f1 := (blk_cell (blk_set hbx 0 (.int .i64 n.kind)) 1).trans rfl
              have f1f := blk_frozen (blk_set hbx 0 (.int .i64 n.kind)) 1
              have f2 := (blk_cell (blk_set (blk_set hbx 0 (.int .i64 n.kind)) 1 (.slice B1 n.ints.length d1)) 2).trans rfl
              have f2f := blk_frozen (blk_set (blk_set hbx 0 (.int .i64 n.kind)) 1 (.slice B1 n.ints.length d1)) 2
              have f3 := (blk_cell (blk_set (blk_set (blk_set hbx 0 (.int .i64 n.kind)) 1 (.slice B1 n.ints.length d1)) 2 (.slice B2 n.texts.length d2)) 3).trans rfl
              have f3f := blk_frozen (blk_set (blk_set (blk_set hbx 0 (.int .i64 n.kind)) 1 (.slice B1 n.ints.length d1)) 2 (.slice B2 n.texts.length d2)) 3
              have x7 : ((((w6.setCell ⟨wr.heap.size, 0, none⟩ (.int .i64 n.kind)).setCell ⟨wr.heap.size, 1, none⟩ (.slice B1 n.ints.length d1)).setCell ⟨wr.heap.size, 2, none⟩ (.slice B2 n.texts.length d2)).setCell ⟨wr.heap.size, 3, none⟩ (.slice B3 n.kids.length d3)).cell? ⟨wr.heap.size, 3, none⟩ = some (.slice B3 n.kids.length d3) := (blk_cell HK.out.box 3).trans rfl
              clear x0 x1 x2 x3 y0 hM hB6 hbx hA HMw
              go_wp2
              clear f0 f0f f1 f1f f2 f2f f3 f3f x7
              generalize ((((w6.setCell ⟨wr.heap.size, 0, none⟩ (.int .i64 n.kind)).setCell ⟨wr.heap.size, 1, none⟩ (.slice B1 n.ints.length d1)).setCell ⟨wr.heap.size, 2, none⟩ (.slice B2 n.texts.length d2)).setCell ⟨wr.heap.size, 3, none⟩ (.slice B3 n.kids.length d3)) = W7 at HK ⊢
              obtain ⟨W0, hW0⟩ : ∃ W, W = wr := ⟨_, rfl⟩
              rw [← hW0] at HI HK HJ
              have e0 : wr.heap.size = W0.heap.size := by rw [hW0]
              rw [e0]
              clear hW0 e0 HJ
              obtain ⟨f2, n2, hn2, hat, hm2⟩ := HI.out.map
              have HM2 := Aside0.mk (And.intro hn2 (And.intro hat hm2))
              clear hn2 hat hm2
              go_loopw [72] (fun v72 W => ∃ j : Nat, j ≤ n.kids.length ∧ v72 = .int .i64 j ∧ Aside0 (KidRel (rd own) n (.slice B1 n.ints.length d1) (.slice B2 n.texts.length d2) (.slice B3 n.kids.length d3) j W0 W)) (fun v72 _ => n.kids.length - (intOf v72).toNat)
              case atStart => exact ⟨0, by omega, rfl, HK⟩
              case round =>
                clear HK
                obtain ⟨j, hj, rfl, HKj⟩ := hrel
                have hq3 : wr.cell? ⟨W0.heap.size, 3, none⟩ = some (.slice B3 n.kids.length d3) := (blk_cell HKj.out.box 3).trans rfl
                by_cases hjl : j < n.kids.length
                · obtain ⟨g7, c7', hv, -⟩ := Kd.R_form HKj.out.r3 (by rw [mapTake_len]; omega)
                  injection hv with hA hmm hcc
                  clear hmm
                  subst hA hcc
                  have hkk := HNk.out _ (rd_mem hjl)
                  obtain ⟨k, hk⟩ : ∃ k : Nat, rd n.kids (j : Int) = (k : Int) := ⟨_, (Int.toNat_of_nonneg hkk.1).symm⟩
                  have hki : k < m := by omega
                  have hxx := HRi.out k hki
                  obtain ⟨x, hx⟩ : ∃ x : Nat, rd own (k : Int) = (x : Int) := ⟨_, (Int.toNat_of_nonneg hxx.1).symm⟩
                  obtain ⟨s1, s2, hs4⟩ := HKj.out.set hjl
                  obtain ⟨b0', eb, r1⟩ := at_nat (Kd.C_below HOw2.out (below_step HI.out.since HKj.out.below)) k (by omega)
                  injection eb with eb
                  subst eb
                  rw [hk] at s1 hs4
                  rw [hx] at r1 hs4 hxx
                  have hgx : (f2 (.int .i64 (x : Int))).getD (.int .i64 0) = .int .i64 (x : Int) := by rw [HM2.out.2.1 x (by omega)]; rfl
                  have hlk := MapF.run_lookup wr.drew 64 (HM2.out.2.2.below (below_drew HKj.out.below)) keyI Tryd.underlying64 (zeroIW _) (keyI_of (x := (x : Int)) (by omega) (by omega))
                  rw [hgx] at hlk
                  have hko : (k : Int) < (C.nodes.length : Int) := by omega
                  have hjn : (j : Int) < (n.kids.length : Int) := by omega
                  have HS4 := Aside0.mk hs4
                  clear hk hkk hs4 hx hxx hgx
                  go_wp2
                  go_region
                  have HS5 := Aside0.mk HS4.out.drew
                  clear HS4 s1 s2 r1 hlk hq3
                  go_wp2
                  go_roundw
                  case rel => exact ⟨j + 1, by omega, by go_num, HS5⟩
                  case measure => simp [intOf]; omega
                · obtain rfl : j = n.kids.length := by omega
                  have HI7 := Aside0.mk (HI.out.later HKj.out.below)
                  obtain ⟨A4, c4, hv4⟩ := Kd.R_slice HI7.out.row
                  rw [HXl.out.1] at hv4
                  subst hv4
                  have o0 := (blk_cell HI7.out.out 0).trans rfl
                  obtain ⟨b0', eb, r1⟩ := at_nat (Kd.C_below HOw2.out HI7.out.since) m hlt
                  injection eb with eb
                  subst eb
                  rw [← HTt.out] at r1
                  have hmn : (m : Int) < (C.nodes.length : Int) := by omega
                  have HKb := Aside0.mk (And.intro HKj.out.box (And.intro HKj.out.r1 (And.intro HKj.out.r2 (show (Kd.int .i64).R 3 wr W0.heap.size (fun _ => True) (.slice B3 n.kids.length d3) (n.kids.map (rd own)) from by have h := HKj.out.r3; rwa [mapTake_all] at h))))
                  have HD := Aside0.mk (HI7.out.later (pw_below_drewN (Below.refl _ _) 1))
                  obtain ⟨f3, n3, hn3, hat3, hm3⟩ := HD.out.map
                  have HAt3 := Aside0.mk hat3
                  have hlw := HI.out.since.size
                  have hlm := MapF.lt HM2.out.2.2
                  have hxl : xs.length ≤ 60 := by have := HXl.out; omega
                  have hl9 : (xs ++ [(⟨n.kind, n.ints, n.texts, n.kids.map (rd own)⟩ : Node)]).length = xs.length + 1 := by simp
                  have hcm : n3 < maxLen := by unfold maxLen; omega
                  have HM3 := Aside0.mk hm3
                  clear hat3 hm3 hq3 HKj
                  go_wp2
                  go_still_tail 8, (by kernel_rfl)
                  change wpList _ _ _ _ _ wr.drew
                  go_wp2_with (first
                    | (at_mapUpdate; refine wpList_update_F _ rfl (.tmp 88) (.tmp 92) (.tmp 95) 64 rfl 3 3 keyI Tryd.underlying64 wb.heap.size n3 f3 rfl HM3.out hcm (.int .i64 (cn : Int)) (.int .i64 (cn : Int)) (.int .i64 (cn : Int)) rfl rfl hkey ?_; intro w8 hM8 hg8; have HP8 := Aside0.mk (HD.out.put HAt3.out hn3 HM3.out hM8 hg8); have HG8 := Aside0.mk (blk_grown (show wr.drew.heap[W0.heap.size]? = _ from HKb.out.1) hg8 (by simp; omega)); have HQ1 := Aside0.mk (R_past_map (Kd.R_drew HKb.out.2.1) HM3.out hg8); have HQ2 := Aside0.mk (R_past_map (Kd.R_drew HKb.out.2.2.1) HM3.out hg8); have HQ3 := Aside0.mk (R_past_map (Kd.R_drew HKb.out.2.2.2) HM3.out hg8); have z0 := (blk_cell HP8.out.out 0).trans rfl; have q0 := (blk_cell HG8.out 0).trans rfl; have q1 := (blk_cell HG8.out 1).trans rfl; have q2 := (blk_cell HG8.out 2).trans rfl; have q3 := (blk_cell HG8.out 3).trans rfl; have HMk := Aside0.mk (node_off (n := ⟨n.kind, n.ints, n.texts, n.kids.map (rd own)⟩) (Kd.R_lower HQ1.out hlw) (Kd.R_lower HQ2.out hlw) (Kd.R_lower HQ3.out hlw) HP8.out.row); clear hM8 hg8)
                    | (at_builtin; refine Kd.R_append kNode (w0 := wb) wb.heap.size rfl (.tmp 97) (.tmp 99) 32 52 (.agg #[.int .i64 0, .slice none 0 0, .slice none 0 0, .slice none 0 0]) 80 rfl Tryd.underlying32 info_nodez rfl (by decide) (by omega) (.slice A4 cn c4) xs ⟨n.kind, n.ints, n.texts, n.kids.map (rd own)⟩ [.int .i64 n.kind, .slice B1 n.ints.length d1, .slice B2 n.texts.length d2, .slice B3 n.kids.length d3] (fun _ => True) (fun k => some k ≠ (Value.slice A4 cn c4).ownBlock) rfl (by go_simp) HMk.out (fun k hk => ⟨trivial, hk⟩) (fun _ _ => trivial) HP8.out.row HP8.out.since HP8.out.since.size (by omega) ?_; intro v5 w9 hR9 hB9 hg9 hat9; obtain ⟨A9, c9, rfl⟩ := Kd.R_slice hR9; rw [hl9] at hR9 ⊢; obtain ⟨hb9, hN9⟩ := HP8.out.node hR9 hB9 hg9; have HN9 := Aside0.mk hN9; have y0 := (blk_cell hb9 0).trans rfl; have y0f := blk_frozen hb9 0; clear hR9 hB9 hg9 hat9 hN9 hb9 q0 q1 q2 q3 z0))
                  go_roundw
                  case rel => exact ⟨m + 1, by omega, by go_num, _, by rw [HX.out.1, HX.out.2]; exact HN9⟩
                  case measure => simp [intOf]; omega
            · have HX := Aside0.mk (HXo.out (by rw [← HTt.out]; exact hod))
              have dm : ((m : Int) != (i : Int)) = true := by simp; omega
              clear hr hcl hm hod hA
              go_wp2_with (at_lookup; refine wpList_lookup_F _ rfl (.tmp 59) (.tmp 63) 64 rfl 3 3 keyI Tryd.underlying64 (zeroIW _) mb cnt f rfl HMw.out (.int .i64 t) (.int .i64 t) rfl hkey (.int .i64 (m : Int)) hgf ?_)
              go_roundw
              case rel => exact ⟨i + 1, by omega, by go_num, v4, by rw [HX.out.1, HX.out.2]; exact HJ⟩
              case measure => simp [intOf]; omega
          · obtain rfl : i = C.nodes.length := by omega
            have hxx := And.intro (HOw.out.rise r HRr.out.2).1 (HOw.out.rise.lt (i := r) HRr.out.2 (Nat.le_refl _))
            have hcl := cnt_le own C.nodes.length
            obtain ⟨x, hx⟩ : ∃ x : Nat, rd own (r : Int) = (x : Int) := ⟨_, (Int.toNat_of_nonneg hxx.1).symm⟩
            rw [hx] at hxx
            have HS0 := Aside0.mk (show S0 = ⟨shrU C.nodes own C.nodes.length, (x : Int)⟩ from by rw [HSh.out, HRr.out.1, hx])
            have HXl := Aside0.mk (show (shrU C.nodes own C.nodes.length).length ≤ 60 from by rw [shr_len]; omega)
            have hx60 : x < 60 := by omega
            obtain ⟨f2, n2, hn2, hat, hm2⟩ := HI.out.map
            have HM2 := Aside0.mk hm2
            have hgx : (f2 (.int .i64 (x : Int))).getD (.int .i64 0) = .int .i64 (x : Int) := by rw [hat x (by omega)]; rfl
            have hkey := keyI_of (x := (x : Int)) (by omega) (by omega)
            have HRow := Aside0.mk HI.out.row
            have HOut := Aside0.mk HI.out.out
            have HSi := Aside0.mk HI.out.since
            have e0 := pw_cell_below HI.out.since HE0.out
            have e1 := pw_cell_below HI.out.since HE1.out
            obtain ⟨b0, rfl, y0⟩ := at_nat HOw2.out r HRr.out.2
            replace y0 := pw_cell_below HI.out.since y0
            rw [hx] at y0
            have hrl : (r : Int) < (C.nodes.length : Int) := by have := HRr.out.2; omega
            clear hxx hcl hx hat hm2 HI
            generalize shrU C.nodes own C.nodes.length = xs at HS0 HXl HRow
            obtain ⟨A4, c4, hv4⟩ := Kd.R_slice HRow.out
            subst hv4
            have o1 := (blk_cell HOut.out 1).trans rfl
            have o1f := blk_frozen HOut.out 1
            have hb1 := blk_set HOut.out 1 (.int .i64 (x : Int))
            have p0 := (blk_cell hb1 0).trans rfl
            have p1 := (blk_cell hb1 1).trans rfl
            have HRow1 := Aside0.mk (R_type HRow.out HOut.out (by decide) (.int .i64 (x : Int)) 1)
            have HBw1 := Aside0.mk (below_set (g := wb.heap.size + 1) (j := 1) (v := .int .i64 (x : Int)) HSi.out (Nat.le_succ _))
            clear hb1
            go_wp2_with (at_lookup; refine wpList_lookup_F _ rfl (.tmp 103) (.tmp 108) 64 rfl 3 3 keyI Tryd.underlying64 (zeroIW _) wb.heap.size n2 f2 rfl HM2.out (.int .i64 (x : Int)) (.int .i64 (x : Int)) rfl hkey (.int .i64 (x : Int)) hgx ?_)
            clear e0 e1 y0 o1 o1f p0 p1
            have hS := HS0.out
            subst hS
            have HResw := Aside0.mk ((HBw1.out.block _ (blk_lt HLw.out)).trans HLw.out)
            have HEc := Aside0.mk (canR_eq HSr.out)
            have HZc := Aside0.mk (gcheck_right.2 HSr.out)
            refine (canon_any A4 c4 ⟨xs, (x : Int)⟩ _ (Kd.R_reads' HRow1.out).2.2 (by have := HSf.out.rows; omega) HSf.out.small).mono ?_
            rintro e w9 ⟨B9, d9, rfl, hR9, hB9⟩
            rw [HZc.out]
            rw [HEc.out] at hR9 ⊢
            have hres := (hB9.block _ (blk_lt HResw.out)).trans HResw.out
            have HB9 := Aside0.mk (below_step (below_step HBw.out HBw1.out) hB9)
            have hbase := (below_step HBw.out HBw1.out).size
            generalize canS ⟨xs, (x : Int)⟩ = D at hR9 HE ⊢
            have HR9 := Aside0.mk (Kd.R_lower hR9 hbase)
            clear hR9 hB9 hbase
            have l0 := (blk_cell hres 0).trans rfl
            have l0f := blk_frozen hres 0
            have l1 := (blk_cell (blk_set hres 0 (.slice B9 D.nodes.length d9)) 1).trans rfl
            have l1f := blk_frozen (blk_set hres 0 (.slice B9 D.nodes.length d9)) 1
            go_wp2
            have h2 := And.intro ((blk_cell (box2 hres (.slice B9 D.nodes.length d9) (.int .i64 D.root)) 0).trans rfl) ((blk_cell (box2 hres (.slice B9 D.nodes.length d9) (.int .i64 D.root)) 1).trans rfl)
            have hRR := R_type (R_type HR9.out hres (by decide) (.slice B9 D.nodes.length d9) 0) (blk_set hres 0 _) (by decide) (.int .i64 D.root) 1
            exact bodyPost_ret (v := .tuple #[.agg #[.slice B9 D.nodes.length d9, .int .i64 D.root], .int .i64 0]) (by simp [results, Tryd.results32, go_sem, h2]) rfl ⟨B9, d9, by rw [HE.out, HZ.out], by rw [HE.out]; exact hRR, below_set2 HB9.out (by omega)⟩
  · have HE := Aside0.mk (show shR T s = ⟨[], 0⟩ from shR_no (fun hh => hz (gcheck_right.2 hh)))
    have dz : ((gcheck s).1 != 0) = true := by simpa using hz
    have l0 := (blk_cell HL1.out 0).trans rfl
    have l0f := blk_frozen HL1.out 0
    have l1 := (blk_cell (blk_set HL1.out 0 (.slice none 0 0)) 1).trans rfl
    have l1f := blk_frozen (blk_set HL1.out 0 (.slice none 0 0)) 1
    clear hz hmm
    go_wp2
    have h2 := And.intro ((blk_cell (box2 HL1.out (.slice none 0 0) (.int .i64 0)) 0).trans rfl) ((blk_cell (box2 HL1.out (.slice none 0 0) (.int .i64 0)) 1).trans rfl)
    exact bodyPost_ret (v := .tuple #[.agg #[.slice none 0 0, .int .i64 0], .int .i64 (gcheck s).1]) (by simp [results, Tryd.results32, go_sem, h2]) rfl
      ⟨none, 0, by rw [HE.out]; rfl, by rw [HE.out]; exact Kd.R_nil _ _ _ _ _, below_set (below_set HB1.out (by show w.heap.size ≤ w.heap.size + 1; omega)) (by show w.heap.size ≤ w.heap.size + 1; omega)⟩
end Go.Proofs.YtdfneldenipljaaDoor.L
end
section
namespace Go.Proofs.YtdfneldenipljaaDoor.L
open Go.RowKit Go.ChangeShapes Go.WideShapes Go.Proofs.YtdfneldenipljaaDoorW.PrintWords Go.Proofs.YtdfneldenipljaaDoorW.PrintLast Go.Proofs.YtdfneldenipljaaDoorW.PrintMore
attribute [local go_sem] max2_int min2_int max_two min_two max_three min_three max_four min_four
def treeL (ns : List Node) : Nat → List Nat
  | 0 => []
  | i + 1 => treeL ns i ++ [1 + ((nd ns i).kids.map (fun k => (treeL ns i).getD k.toNat 0)).sum]
theorem treeL_len (ns : List Node) : ∀ i : Nat, (treeL ns i).length = i
  | 0 => rfl
  | i + 1 => by show (treeL ns i ++ [_]).length = _; rw [List.length_append, treeL_len ns i]; rfl
theorem treeL_at (ns : List Node) : ∀ {n i : Nat}, i < n → (treeL ns n).getD i 0 = 1 + ((nd ns i).kids.map (fun k => (treeL ns i).getD k.toNat 0)).sum
  | n + 1, i, h => by
    show (treeL ns n ++ [_]).getD i 0 = _
    rw [List.getD_eq_getElem?_getD]
    by_cases hi : i < n
    · rw [List.getElem?_append_left (by rw [treeL_len]; exact hi), ← List.getD_eq_getElem?_getD]
      exact treeL_at ns hi
    · obtain rfl : i = n := by omega
      rw [List.getElem?_append_right (by rw [treeL_len]; exact Nat.le_refl _), treeL_len]
      simp
def treeN (ns : List Node) (i : Nat) : Nat := (treeL ns ns.length).getD i 0
theorem treeN_at {ns : List Node} {n i : Nat} (hi : i < n) (hn : n ≤ ns.length) : (treeL ns n).getD i 0 = treeN ns i := by
  unfold treeN
  rw [treeL_at ns hi, treeL_at ns (show i < ns.length by omega)]
theorem treeN_eq {ns : List Node} (h : AheadN ns) {i : Nat} (hi : i < ns.length) : treeN ns i = 1 + ((nd ns i).kids.map (fun k => treeN ns k.toNat)).sum := by
  unfold treeN
  rw [treeL_at ns hi]
  congr 2
  refine List.map_congr_left (fun k hk => ?_)
  have := h i hi k hk
  exact treeN_at (by omega) (by omega)
def treeK (ns : List Node) (i k : Nat) : Nat := 1 + (((nd ns i).kids.take k).map (fun k => treeN ns k.toNat)).sum
theorem treeK_zero (ns : List Node) (i : Nat) : treeK ns i 0 = 1 := by simp [treeK]
theorem treeK_succ {ns : List Node} {i k : Nat} (hk : k < (nd ns i).kids.length) : treeK ns i (k + 1) = treeK ns i k + treeN ns (rd (nd ns i).kids (k : Int)).toNat := by
  unfold treeK
  rw [take_succ_rd hk, List.map_append, List.sum_append]
  simp
  omega
theorem treeK_all {ns : List Node} (h : AheadN ns) {i : Nat} (hi : i < ns.length) : treeK ns i (nd ns i).kids.length = treeN ns i := by
  rw [treeN_eq h hi]
  unfold treeK
  rw [List.take_length]
theorem M_size {ns : List Node} (hA : AheadN ns) (hd : Dag ns) : ∀ (N : Nat) (a : Nat) (met : List Int), a < N → a < ns.length → (M ns (a : Int) met).length ≤ met.length + treeN ns a
  | 0, _, _, h, _ => by omega
  | N + 1, a, met, h, ha => by
    have hp : Pl ns (a : Int) := ⟨by omega, by omega⟩
    rw [M_eq hd hp]
    split
    · omega
    · rw [treeN_eq hA ha, kids_nat, List.length_append]
      have key : ∀ (l : List Int) (met : List Int), (∀ k ∈ l, 0 ≤ k ∧ k < (a : Int)) → (ML ns l met).length ≤ met.length + (l.map (fun k => treeN ns k.toNat)).sum := fun l => by
        induction l with
        | nil => intro met _; rw [ML_nil]; omega
        | cons k l ih =>
          intro met hl
          have hk := hl k (by simp)
          rw [ML_cons]
          have h1 := ih (M ns k met) (fun y hy => hl y (by simp [hy]))
          have h2 := M_size hA hd N k.toNat met (by omega) (by omega)
          rw [Int.toNat_of_nonneg hk.1] at h2
          rw [List.map_cons, List.sum_cons]
          omega
      have := key (nd ns a).kids met (fun k hk => hA a ha k hk)
      simp only [List.length_singleton]
      omega
def sizeT (s : Scene) : Nat := treeN (canonL s) (s.nodes.length - 1)
theorem size_ge {s : Scene} (h : Right s) : s.nodes.length ≤ sizeT s := by
  have hc := canon_right h
  have hl := canon_len h
  have hp := right_pos h
  have h1 := M_size (canon_ahead h) hc.dag _ (s.nodes.length - 1) [] (Nat.lt_succ_self _) (by omega)
  have h2 := ord_len hc
  have e : ((s.nodes.length - 1 : Nat) : Int) = (s.nodes.length : Int) - 1 := by omega
  rw [e] at h1
  have h3 : (M (canonL s) ((s.nodes.length : Int) - 1) []).length = (canonL s).length := h2
  have h4 : (M (canonL s) ((s.nodes.length : Int) - 1) []).length ≤ ([] : List Int).length + treeN (canonL s) (s.nodes.length - 1) := h1
  unfold sizeT
  simp only [List.length_nil] at h4
  omega
end Go.Proofs.YtdfneldenipljaaDoor.L
end
section
namespace Go.Proofs.YtdfneldenipljaaDoor.L
open Go.RowKit Go.ChangeShapes Go.WideShapes Go.Proofs.YtdfneldenipljaaDoorW.PrintWords Go.Proofs.YtdfneldenipljaaDoorW.PrintLast Go.Proofs.YtdfneldenipljaaDoorW.PrintMore
attribute [local go_sem] max2_int min2_int max_two min_two max_three min_three max_four min_four
structure SzD (ns : List Node) (M i : Nat) (L : List Int) : Prop where
  len : L.length = ns.length
  done : ∀ k : Nat, k < i → rd L (k : Int) = (min M (treeN ns k) : Nat)
theorem SzD.set {ns : List Node} {M i : Nat} {L : List Int} (h : SzD ns M i L) (hi : i < ns.length) (y : Int) : SzD ns M i (L.set i y) ∧ rd (L.set i y) (i : Int) = y := by
  refine ⟨⟨by rw [List.length_set]; exact h.len, fun k hk => ?_⟩, ?_⟩
  · rw [rd_set _ _ _ _ (by rw [h.len]; exact hi), if_neg (by omega)]; exact h.done k hk
  · rw [rd_set _ _ _ _ (by rw [h.len]; exact hi), if_pos rfl]
theorem SzD.next {ns : List Node} {M i : Nat} {L : List Int} (h : SzD ns M i L) (hi : rd L (i : Int) = (min M (treeN ns i) : Nat)) : SzD ns M (i + 1) L := ⟨h.len, ext_lt h.done hi⟩
structure SzR (w2 : World) (ns : List Node) (M go co i : Nat) (L : List Int) (W : World) : Prop where
  sz : SzD ns M i L
  row : (Kd.int .i64).R 3 W w2.heap.size (fun _ => True) (.slice (some ⟨go, 0, none⟩) ns.length co) L
  below : Below w2.heap.size w2 W
theorem SzR.later {w2 W W1 : World} {ns : List Node} {M go co i : Nat} {L : List Int} (h : SzR w2 ns M go co i L W) (hb : Below W.heap.size W W1) : SzR w2 ns M go co i L W1 := ⟨h.sz, Kd.R_below h.row hb, below_step h.below hb⟩
theorem SzR.cell {w2 W : World} {ns : List Node} {M go co i : Nat} {L : List Int} (h : SzR w2 ns M go co i L W) (k : Nat) (hk : k < ns.length) : W.cell? ⟨go, k, none⟩ = some (.int .i64 (rd L (k : Int))) ∧ W.frozen? ⟨go, k, none⟩ = false := ints_cell h.row k hk
theorem SzR.store {w2 W : World} {ns : List Node} {M go co i : Nat} {L : List Int} (h : SzR w2 ns M go co i L W) (hi : i < ns.length) (y : Int) : SzR w2 ns M go co i (L.set i y) (W.setCell ⟨go, i, none⟩ (.int .i64 y)) ∧ rd (L.set i y) (i : Int) = y ∧ w2.heap.size ≤ go := by
  obtain ⟨s1, s2, s3⟩ := ints_store h.row i hi y
  obtain ⟨d1, d2⟩ := h.sz.set hi y
  exact ⟨⟨d1, s1, below_set h.below s3⟩, d2, s3⟩
open Classical in
noncomputable def uszN (s : Scene) (most : Int) : Int := if Right s then ((min most.toNat (sizeT s) : Nat) : Int) else 0
open Classical in
theorem usz_yes {s : Scene} (h : Right s) (most : Int) : uszN s most = ((min most.toNat (sizeT s) : Nat) : Int) := if_pos h
open Classical in
theorem usz_no {s : Scene} (h : ¬ Right s) (most : Int) : uszN s most = 0 := if_neg h
set_option maxRecDepth 100000 in
set_option maxHeartbeats 8000000 in
theorem usize_any (A : Option Addr) (c : Nat) (s : Scene) (most : Int) (w : World) (h : kNode.C w A s.nodes.length s.nodes) (hc : s.nodes.length ≤ c) (hF : Fit s.nodes) (hm : most ≤ 9223372036854775807) (hm0 : -9223372036854775808 ≤ most) :
    Calls Tryd.prog 28 #[.agg #[.slice A s.nodes.length c, .int .i64 s.root], .int .i64 most] w fun e w' => e = .returned (.int .i64 (uszN s most)) ∧ Below w.heap.size w w' := by
  have HR := Aside0.mk h
  have HF := Aside0.mk hF
  have hu := Tryd.underlying34
  have hun := Tryd.underlying52
  have HB := Aside0.mk (below_alloc (Below.refl w.heap.size w) (.cells #[.slice A s.nodes.length c, .int .i64 s.root] 34))
  have k0 := box_cell w _ rfl #[.slice A s.nodes.length c, .int .i64 s.root] 34 0 (.slice A s.nodes.length c) rfl
  have k1 := box_cell w _ rfl #[.slice A s.nodes.length c, .int .i64 s.root] 34 1 (.int .i64 s.root) rfl
  obtain ⟨M, hM⟩ : ∃ M : Nat, most.toNat = M := ⟨_, rfl⟩
  have hmx : (if most < 0 then (0 : Int) else most) = (M : Int) := by split <;> omega
  have hMb : M ≤ 9223372036854775807 := by omega
  have HM := Aside0.mk hM
  clear h hF
  go_enter Tryd.func28, Tryd.ntmps28
  go_wp2_with fail
  refine (canon_any A c s _ (Kd.C_below HR.out HB.out) (by have := HF.out.rows; omega) HF.out.small).mono ?_
  rintro e w1 ⟨B, d, rfl, hR1, hB1⟩
  have HB1 := Aside0.mk (below_step HB.out hB1)
  have HC1 := Aside0.mk (Kd.R_reads' hR1).2.2
  have hcd := (Kd.R_reads' hR1).2.1
  clear hR1 hB1 k0 k1 HB
  by_cases hz : (gcheck s).1 = 0
  · have HRt := Aside0.mk (gcheck_right.1 hz)
    rw [canR_eq HRt.out] at HC1 hcd ⊢
    obtain ⟨r, hr, hrn⟩ := canS_at HRt.out
    have HCA := Aside0.mk (show AheadN (canS s).nodes from canon_ahead HRt.out)
    have HCF := Aside0.mk (show Fit (canS s).nodes from HF.out.canon HRt.out)
    have HE := Aside0.mk (show uszN s most = ((min M (treeN (canS s).nodes r) : Nat) : Int) from by
      rw [usz_yes HRt.out, HM.out]
      have e1 : r = s.nodes.length - 1 := by
        have hr' : (s.nodes.length : Int) - 1 = (r : Int) := hr
        omega
      subst e1
      rfl)
    rw [hz, hr]
    clear hz hr hm hm0 hM
    generalize canS s = C at HCA HCF HE HC1 hcd hrn ⊢
    have hn60 : C.nodes.length ≤ 60 := HCF.out.1
    have e0 := box_cell w1 _ rfl #[.slice B C.nodes.length d, .int .i64 (r : Int)] 34 0 (.slice B C.nodes.length d) rfl
    have e1 := box_cell w1 _ rfl #[.slice B C.nodes.length d, .int .i64 (r : Int)] 34 1 (.int .i64 (r : Int)) rfl
    have hA2 := below_alloc (Below.refl w1.heap.size w1) (.cells #[.slice B C.nodes.length d, .int .i64 (r : Int)] 34)
    have HC2 := Aside0.mk (Kd.C_below HC1.out hA2)
    have HB2 := Aside0.mk (below_step HB1.out hA2)
    clear hA2 HC1 HB1
    go_wp2_with (first
      | (refine Kd.R_make (Kd.int .i64) (w0 := w1.alloc (.cells #[.slice B C.nodes.length d, .int .i64 (r : Int)] 34)) (w1.alloc (.cells #[.slice B C.nodes.length d, .int .i64 (r : Int)] 34)).heap.size 3 rfl (N := 24) rfl 31 _ _ rfl (C.nodes.length : Int) rfl rfl Tryd.underlying31 (.int .i64 0) 8 info_int rfl (by decide) (by omega) 0 (ok := fun _ => True) (okp := fun _ => True) rfl (fun _ hk => hk) trivial (by omega) (by omega) (Below.refl _ _) (Nat.le_refl _) ?_; intro v3 w3 ho3 hb3 hg3 hn3; rw [Int.toNat_natCast] at ho3; obtain ⟨go, co, hv3, -, hgo, -⟩ := Kd.R_form ho3 (by rw [List.length_replicate]; omega); rw [List.length_replicate] at hv3; subst hv3; have HO := Aside0.mk ho3; have HB3 := Aside0.mk hb3; have e0 := pw_cell_below hb3 e0; have e1 := pw_cell_below hb3 e1; clear ho3 hb3 hg3 hn3))
    have hz2 : (w1.alloc (.cells #[.slice B C.nodes.length d, .int .i64 (r : Int)] 34)).heap.size = w1.heap.size + 1 := by simp
    have HG2 := Aside0.mk (show w1.heap.size < go from by have := Kd.R_base HO.out go rfl; omega)
    have HE0 := Aside0.mk e0
    have HE1 := Aside0.mk e1
    generalize w1.alloc (.cells #[.slice B C.nodes.length d, .int .i64 (r : Int)] 34) = w2 at HO HB3 HC2 HB2 hz2
    have HW0 : Aside0 (SzR w2 C.nodes M go co 0 (List.replicate C.nodes.length 0) w3) := ⟨⟨by rw [List.length_replicate], fun k hk => by omega⟩, HO.out, HB3.out⟩
    have HBx := Aside0.mk (below_step HB2.out HB3.out)
    have HCx := Aside0.mk (Kd.C_below HC2.out HB3.out)
    clear HO HB3 e0 e1 hgo hz2
    go_loopw [28] (fun v28 W => ∃ (i : Nat) (L : List Int), i ≤ C.nodes.length ∧ v28 = .int .i64 i ∧ Aside0 (Below w3.heap.size w3 W → True) ∧ Aside0 (W.cell? ⟨w1.heap.size, 1, none⟩ = some (.int .i64 (r : Int))) ∧ Aside0 (SzR w2 C.nodes M go co i L W)) (fun v28 _ => C.nodes.length - (intOf v28).toNat)
    case atStart => exact ⟨0, _, by omega, rfl, ⟨fun _ => trivial⟩, HE1, HW0⟩
    case round =>
      clear HW0
      obtain ⟨i, L, hi, rfl, -, HR1, HW⟩ := hrel
      by_cases hlt : i < C.nodes.length
      · have HWb := Aside0.mk (below_step HB2.out HW.out.below)
        obtain ⟨adn, A1, c1, A2, c2, A3, c3, rfl, x0, x1, x2, x3, hN⟩ := at_node HC2.out i hlt
        replace x0 := pw_cell_below HW.out.below x0
        replace x1 := pw_cell_below HW.out.below x1
        replace x2 := pw_cell_below HW.out.below x2
        replace x3 := pw_cell_below HW.out.below x3
        have HN := Aside0.mk hN
        have HNk := Aside0.mk (HCA.out i hlt)
        have hkl : (nd C.nodes i).kids.length ≤ 300 := (HCF.out.2 i hlt).kids
        have HK0 := Aside0.mk (treeK_zero C.nodes i)
        have HKs := Aside0.mk (fun (k : Nat) (hk : k < (nd C.nodes i).kids.length) => treeK_succ (ns := C.nodes) (i := i) hk)
        have HKa := Aside0.mk (treeK_all HCA.out hlt)
        have hA := below_alloc (Below.refl wr.heap.size wr) (.cells #[.int .i64 (nd C.nodes i).kind, .slice A1 (nd C.nodes i).ints.length c1, .slice A2 (nd C.nodes i).texts.length c2, .slice A3 (nd C.nodes i).kids.length c3] 52)
        have z3 := box_cell wr _ rfl #[.int .i64 (nd C.nodes i).kind, .slice A1 (nd C.nodes i).ints.length c1, .slice A2 (nd C.nodes i).texts.length c2, .slice A3 (nd C.nodes i).kids.length c3] 52 3 (.slice A3 (nd C.nodes i).kids.length c3) rfl
        have HV := Aside0.mk (HW.out.later hA)
        have HR2 := Aside0.mk (pw_cell_below hA HR1.out)
        obtain ⟨p0, p0f⟩ := HV.out.cell i hlt
        have hin : (i : Int) < (C.nodes.length : Int) := by omega
        clear hN hA
        generalize nd C.nodes i = n at x0 x1 x2 x3 z3 HN HNk hkl HKs HKa HV HR2 p0 p0f
        have hgo : go ≠ wr.heap.size := by have := Kd.R_lt HV.out.row go rfl; have h2 := Kd.R_lt HW.out.row go rfl; omega
        obtain ⟨m1, hm1⟩ : ∃ m1 : Nat, m1 = min 1 M := ⟨_, rfl⟩
        obtain ⟨hs1, hs2, hs3⟩ := HV.out.store hlt (m1 : Int)
        have hgr : go ≠ w1.heap.size := by have := HG2.out; omega
        have HS := Aside0.mk (And.intro hs1 hs2)
        have HRs := Aside0.mk (far_set HR2.out go i (by show go ≠ w1.heap.size; exact hgr) (.int .i64 (m1 : Int)))
        have z3s := far_set z3 go i (by show go ≠ wr.heap.size; exact hgo) (.int .i64 (m1 : Int))
        have hmin : (if (M : Int) < 1 then (M : Int) else 1) = (m1 : Int) := by split <;> omega
        have HM1 := Aside0.mk hm1
        clear hm1
        clear hs1 hs2 hs3 HW
        go_wp2
        clear hmin p0 p0f x0 x1 x2 x3 z3
        have HS0 := Aside0.mk (And.intro HS.out.1 (show rd (L.set i (m1 : Int)) (i : Int) = ((min M (treeK C.nodes i 0) : Nat) : Int) from by rw [HS.out.2, HK0.out, HM1.out, Nat.min_comm]))
        generalize L.set i (m1 : Int) = L1 at HS0
        have HRs2 := HRs
        generalize (wr.alloc (.cells #[.int .i64 n.kind, .slice A1 n.ints.length c1, .slice A2 n.texts.length c2, .slice A3 n.kids.length c3] 52)).setCell ⟨go, i, none⟩ (.int .i64 (m1 : Int)) = W8 at HS0 HRs2 z3s ⊢
        clear HS HRs HV HR2 HR1 z3s hgo hgr
        go_loopw [41] (fun v41 W => ∃ (k : Nat) (L : List Int), k ≤ n.kids.length ∧ v41 = .int .i64 k ∧ Aside0 (W.cell? ⟨w1.heap.size, 1, none⟩ = some (.int .i64 (r : Int))) ∧ Aside0 (SzR w2 C.nodes M go co i L W ∧ rd L (i : Int) = ((min M (treeK C.nodes i k) : Nat) : Int))) (fun v41 _ => n.kids.length - (intOf v41).toNat)
        case atStart => exact ⟨0, L1, by omega, rfl, HRs2, HS0⟩
        case round =>
          clear HS0 HRs2
          obtain ⟨k, L, hk, rfl, HR1, HI⟩ := hrel
          by_cases hkl2 : k < n.kids.length
          · obtain ⟨a3, rfl, y0⟩ := at_nat HN.out.k k hkl2
            replace y0 := pw_cell_below HI.out.1.below y0
            have hkk := HNk.out _ (rd_mem hkl2)
            obtain ⟨x, hx⟩ : ∃ x : Nat, rd n.kids (k : Int) = (x : Int) := ⟨_, (Int.toNat_of_nonneg hkk.1).symm⟩
            have hxi : x < i := by omega
            have HKt := Aside0.mk (HKs.out k hkl2)
            rw [hx, Int.toNat_natCast] at HKt
            rw [hx] at y0
            obtain ⟨p0, p0f⟩ := HI.out.1.cell i hlt
            obtain ⟨p1, -⟩ := HI.out.1.cell x (by omega)
            rw [HI.out.2] at p0
            rw [HI.out.1.sz.done x hxi] at p1
            obtain ⟨cu, hcu⟩ : ∃ cu : Nat, cu = min M (treeK C.nodes i k) := ⟨_, rfl⟩
            obtain ⟨tx, htx⟩ : ∃ tx : Nat, tx = min M (treeN C.nodes x) := ⟨_, rfl⟩
            rw [← hcu] at p0
            rw [← htx] at p1
            obtain ⟨mn, hmn⟩ : ∃ mn : Nat, mn = min tx (M - cu) := ⟨_, rfl⟩
            obtain ⟨nw, hnw⟩ : ∃ nw : Nat, nw = min M (treeK C.nodes i (k + 1)) := ⟨_, rfl⟩
            have hsum : cu + mn = nw := by rw [hnw, HKt.out, hmn, htx, hcu]; omega
            have hcM : cu ≤ M := by omega
            have hnM : nw ≤ M := by omega
            have HNw := Aside0.mk hnw
            have hif : (if (M : Int) - (cu : Int) < (tx : Int) then (M : Int) - (cu : Int) else (tx : Int)) = (mn : Int) := by split <;> omega
            have hadd : (cu : Int) + (mn : Int) = (nw : Int) := by omega
            obtain ⟨hs1, hs2, hs3⟩ := HI.out.1.store hlt (nw : Int)
            have hgr : go ≠ w1.heap.size := by have := HG2.out; omega
            have HS := Aside0.mk (And.intro hs1 (show rd (L.set i (nw : Int)) (i : Int) = ((min M (treeK C.nodes i (k + 1)) : Nat) : Int) from by rw [hs2, HNw.out]))
            have HRs := Aside0.mk (far_set HR1.out go i (by show go ≠ w1.heap.size; exact hgr) (.int .i64 (nw : Int)))
            have hxn : (x : Int) < (C.nodes.length : Int) := by omega
            have hin2 : (i : Int) < (C.nodes.length : Int) := by omega
            have HAr := Aside0.mk (And.intro hcM (And.intro hnM hmn))
            have hw1 : IntKind.i64.wrap ((M : Int) - (cu : Int)) = (M : Int) - (cu : Int) := wrap_i (by omega) (by omega)
            have hw2 : IntKind.i64.wrap ((cu : Int) + (mn : Int)) = (nw : Int) := by rw [hadd]; exact wrap_i (by omega) (by omega)
            clear hsum hnw htx hcu hmn hs1 hs2 hs3 hkk hx hgr hadd
            go_wp2
            go_region
            have hbd := below_drew (Below.refl (wr.setCell ⟨go, i, none⟩ (.int .i64 (nw : Int))).heap.size (wr.setCell ⟨go, i, none⟩ (.int .i64 (nw : Int))))
            have HS4 := Aside0.mk (And.intro (HS.out.1.later hbd) HS.out.2)
            have HR4 := Aside0.mk (pw_cell_below hbd HRs.out)
            clear hbd p0 p0f p1 y0 hw1 hw2 hif
            go_wp2
            go_roundw
            case rel => exact ⟨k + 1, _, by omega, by go_num, HR4, HS4⟩
            case measure => simp [intOf]; omega
          · obtain rfl : k = n.kids.length := by omega
            have HS5 := Aside0.mk (show SzR w2 C.nodes M go co (i + 1) L wr from ⟨HI.out.1.sz.next (by rw [HI.out.2, HKa.out]), HI.out.1.row, HI.out.1.below⟩)
            go_wp2
            go_roundw
            case rel => exact ⟨i + 1, L, by omega, by go_num, ⟨fun _ => trivial⟩, HR1, HS5⟩
            case measure => simp [intOf]; omega
      · obtain rfl : i = C.nodes.length := by omega
        obtain ⟨p1, -⟩ := HW.out.cell r hrn
        have hd := HW.out.sz.done r hrn
        rw [hd, ← HE.out] at p1
        have hrl : (r : Int) < (C.nodes.length : Int) := by omega
        have k1 := HR1.out
        clear hd
        go_wp2
        go_ret
        exact ⟨rfl, below_step HB2.out HW.out.below⟩
  · have HE := Aside0.mk (usz_no (s := s) (fun hh => hz (gcheck_right.2 hh)) most)
    have dz : ((gcheck s).1 != 0) = true := by simpa using hz
    clear hz
    go_wp2
    go_ret
    exact ⟨ret_int HE.out.symm, by have := HB1.out; exact below_step this (below_alloc (Below.refl _ _) _)⟩
end Go.Proofs.YtdfneldenipljaaDoor.L
end
section
namespace Go.Proofs.YtdfneldenipljaaDoor.L
open Go.RowKit Go.ChangeShapes Go.WideShapes Go.Proofs.YtdfneldenipljaaDoorW.PrintWords Go.Proofs.YtdfneldenipljaaDoorW.PrintLast Go.Proofs.YtdfneldenipljaaDoorW.PrintMore
attribute [local go_sem] max2_int min2_int max_two min_two max_three min_three max_four min_four
def uN : Node := ⟨1, [], [], [1, 2]⟩
def uM : Node := ⟨1, [], [], [0, 0]⟩
def uA : Scene := ⟨[uN, kA, kA], 0⟩
def uB : Scene := ⟨[kA, uM], 1⟩
theorem uB_ahead : AheadN uB.nodes := fun p hp k hk => by
  have hp : p < 2 := hp
  match p, hp with
  | 0, _ => cases hk
  | 1, _ =>
    have hk : k ∈ [(0 : Int), 0] := hk
    simp at hk
    omega
theorem uB_right : Right uB := by
  refine ⟨by show (0 : Int) ≤ 1; omega, by show (1 : Int) < 2; omega, ahead_places uB_ahead, ahead_cyc uB_ahead, fun p hp => ?_⟩
  have hp : p < 2 := hp
  have h2 : Rch uB.nodes [uB.root] 1 := .base (by simp [uB])
  match p, hp with
  | 0, _ => exact .step h2 (show (0 : Int) ∈ [(0 : Int), 0] by simp)
  | 1, _ => exact h2
theorem rch_none {ns : List Node} {l : List Int} (h : ∀ x ∈ l, kids ns x = []) {x : Int} (hr : Rch ns l x) : x ∈ l := by
  induction hr with
  | base hk => exact hk
  | step _ hk ih => rw [h _ ih] at hk; cases hk
theorem uA_right : Right uA := by
  refine ⟨by show (0 : Int) ≤ 0; omega, by show (0 : Int) < 3; omega, fun p hp k hk => ?_, fun p hp hc => ?_, fun p hp => ?_⟩
  · have hp : p < 3 := hp
    match p, hp with
    | 0, _ =>
      have hk : k ∈ [(1 : Int), 2] := hk
      show 0 ≤ k ∧ k < (3 : Int)
      simp at hk
      omega
    | 1, _ => cases hk
    | 2, _ => cases hk
  · have hp : p < 3 := hp
    match p, hp with
    | 0, _ =>
      have hc : Rch uA.nodes [1, 2] 0 := hc
      have := rch_none (fun x hx => by simp at hx; rcases hx with rfl | rfl <;> rfl) hc
      simp at this
    | 1, _ =>
      have hc : Rch uA.nodes [] 1 := hc
      have := rch_none (fun x hx => by simp at hx) hc
      simp at this
    | 2, _ =>
      have hc : Rch uA.nodes [] 2 := hc
      have := rch_none (fun x hx => by simp at hx) hc
      simp at this
  · have hp : p < 3 := hp
    have h0 : Rch uA.nodes [uA.root] 0 := .base (by simp [uA])
    match p, hp with
    | 0, _ => exact h0
    | 1, _ => exact .step h0 (show (1 : Int) ∈ [(1 : Int), 2] by simp)
    | 2, _ => exact .step h0 (show (2 : Int) ∈ [(1 : Int), 2] by simp)
theorem uA_ord : ord uA = [1, 2, 0] := by
  have hd := uA_right.dag
  have p0 : Pl uA.nodes 0 := ⟨by omega, by show (0 : Int) < 3; omega⟩
  have p1 : Pl uA.nodes 1 := ⟨by omega, by show (1 : Int) < 3; omega⟩
  have p2 : Pl uA.nodes 2 := ⟨by omega, by show (2 : Int) < 3; omega⟩
  have k0 : kids uA.nodes 0 = [1, 2] := rfl
  have k1 : kids uA.nodes 1 = [] := rfl
  have k2 : kids uA.nodes 2 = [] := rfl
  show M uA.nodes 0 [] = _
  rw [M_out hd p0 (by simp), k0, ML_cons, M_out hd p1 (by simp), k1, ML_cons]
  show M uA.nodes 2 [1] ++ [0] = _
  rw [M_out hd p2 (by simp), k2]
  rfl
theorem uB_ord : ord uB = [0, 1] := by
  have hd := uB_right.dag
  have p0 : Pl uB.nodes 0 := ⟨by omega, by show (0 : Int) < 2; omega⟩
  have p1 : Pl uB.nodes 1 := ⟨by omega, by show (1 : Int) < 2; omega⟩
  have k0 : kids uB.nodes 0 = [] := rfl
  have k1 : kids uB.nodes 1 = [0, 0] := rfl
  show M uB.nodes 1 [] = _
  rw [M_out hd p1 (by simp), k1, ML_cons, M_out hd p0 (by simp), k0, ML_cons]
  show M uB.nodes 0 [0] ++ [1] = _
  rw [M_in hd p0 (by simp)]
  rfl
theorem uA_canon : canonL uA = sK.nodes := by
  unfold canonL
  rw [uA_ord]
  show [relab uA kA, relab uA kA, relab uA uN] = _
  have e1 : relab uA kA = kA := rfl
  have e2 : relab uA uN = kB := by
    unfold relab idx
    rw [uA_ord]
    rfl
  rw [e1, e2]
  rfl
theorem uB_canon : canonL uB = uB.nodes := by
  unfold canonL
  rw [uB_ord]
  show [relab uB kA, relab uB uM] = _
  have e1 : relab uB kA = kA := rfl
  have e2 : relab uB uM = uM := by
    unfold relab idx
    rw [uB_ord]
    rfl
  rw [e1, e2]
  rfl
theorem uB_c : isC uB = true := by
  refine (isC_iff uB_right).2 ?_
  rw [uB_canon]
  rfl
theorem uAB_same : SameT uA uB := by
  have h := like_canon uA_right uB_right (fun p q => (p = 0 ∧ q = 1) ∨ (p = 1 ∧ q = 0) ∨ (p = 2 ∧ q = 0)) (fun p q h => by
    rcases h with ⟨rfl, rfl⟩ | ⟨rfl, rfl⟩ | ⟨rfl, rfl⟩
    · refine ⟨by decide, by decide, ⟨rfl, rfl, rfl, rfl⟩, fun k hk => ?_⟩
      have hk : k < 2 := hk
      match k, hk with
      | 0, _ => exact .inr (.inl ⟨rfl, rfl⟩)
      | 1, _ => exact .inr (.inr ⟨rfl, rfl⟩)
    · exact ⟨by decide, by decide, ⟨rfl, rfl, rfl, rfl⟩, fun k hk => absurd hk (Nat.not_lt_zero _)⟩
    · exact ⟨by decide, by decide, ⟨rfl, rfl, rfl, rfl⟩, fun k hk => absurd hk (Nat.not_lt_zero _)⟩) 0 1 (.inl ⟨rfl, rfl⟩)
  have e1 : idx uA ((0 : Nat) : Int) = 2 := by unfold idx; rw [uA_ord]; rfl
  have e2 : idx uB ((1 : Nat) : Int) = 1 := by unfold idx; rw [uB_ord]; rfl
  rw [e1, e2] at h
  exact h
theorem uA_size : sizeT uA = 3 := by
  unfold sizeT
  rw [uA_canon]
  rfl
theorem uB_size : sizeT uB = 3 := by
  unfold sizeT
  rw [uB_canon]
  rfl
theorem uB_share (T : Lib.PrintTabs) : shareS T uB = uB := by
  refine share_idem uB_right uB_c (fun i j hi hj h => ?_)
  have hi : i < 2 := hi
  have hj : j < 2 := hj
  have h1 := ((like_iff uB_ahead uB_ahead hi hj).1 h).1.1
  match i, hi, j, hj with
  | 0, _, 0, _ => rfl
  | 0, _, 1, _ => exact absurd h1 (by decide)
  | 1, _, 0, _ => exact absurd h1 (by decide)
  | 1, _, 1, _ => rfl
theorem uA_share (T : Lib.PrintTabs) : shareS T uA = uB := by rw [share_eq T uA_right uB_right uAB_same, uB_share]
theorem uAB_eq : eqT uA uB = true := eqT_yes uA_right uB_right uAB_same
theorem uA_none : eqT uA ⟨[], 0⟩ = false := eqT_no (fun h => by have := h.2.1.r1; simp at this)
theorem fit_small {n : Node} (h1 : n.ints = []) (h2 : n.texts = []) (h3 : n.kids.length ≤ 300) (h4 : I64 n.kind) : FitN n :=
  ⟨by rw [h1]; simp, by rw [h2]; simp, h3, (fun x hx => by rw [h2] at hx; cases hx), ⟨h4, (fun x hx => by rw [h1] at hx; cases hx)⟩⟩
theorem uA_fit : Fit uA.nodes := fit_of_mem (by decide) (fun n hn => by
  have hn : n ∈ [uN, kA, kA] := hn
  simp at hn
  rcases hn with rfl | rfl
  · exact fit_small rfl rfl (by decide) ⟨by decide, by decide⟩
  · exact fit_small rfl rfl (by decide) ⟨by decide, by decide⟩)
theorem uB_fit : Fit uB.nodes := fit_of_mem (by decide) (fun n hn => by
  have hn : n ∈ [kA, uM] := hn
  simp at hn
  rcases hn with rfl | rfl
  · exact fit_small rfl rfl (by decide) ⟨by decide, by decide⟩
  · exact fit_small rfl rfl (by decide) ⟨by decide, by decide⟩)
theorem none_fit : Fit (⟨[], 0⟩ : Scene).nodes := ⟨by decide, fun i hi => absurd hi (Nat.not_lt_zero _)⟩
end Go.Proofs.YtdfneldenipljaaDoor.L
end
section
namespace Go.Proofs.YtdfneldenipljaaDoor.L
open Go.RowKit Go.ChangeShapes Go.WideShapes Go.Proofs.YtdfneldenipljaaDoorW.PrintWords Go.Proofs.YtdfneldenipljaaDoorW.PrintLast Go.Proofs.YtdfneldenipljaaDoorW.PrintMore
attribute [local go_sem] max2_int min2_int max_two min_two max_three min_three max_four min_four
abbrev uO1 : Obj := .cells #[.int .i64 1, .int .i64 2] 3
abbrev uO2 (g : Nat) : Obj := .cells #[.int .i64 1, .slice none 0 0, .slice none 0 0, .slice (some ⟨g, 0, none⟩) 2 2, .int .i64 3, .slice none 0 0, .slice none 0 0, .slice none 0 0, .int .i64 3, .slice none 0 0, .slice none 0 0, .slice none 0 0] 52
abbrev uO3 : Obj := .cells #[.int .i64 0, .int .i64 0] 3
abbrev uO4 (g : Nat) : Obj := .cells #[.int .i64 3, .slice none 0 0, .slice none 0 0, .slice none 0 0, .int .i64 1, .slice none 0 0, .slice none 0 0, .slice (some ⟨g, 0, none⟩) 2 2] 52
theorem uA_C (w : World) (g : Nat) (hg : w.heap.size = g) : kNode.C ((w.alloc uO1).alloc (uO2 g)) (some ⟨g + 1, 0, none⟩) 3 uA.nodes := by
  subst hg
  refine C_lits kNode _ 52 _ (by simp) [uN, kA, kA] _ ⟨_, _, (show _ = [_, _, _, _] ++ [_, _, _, _, _, _, _, _] from rfl), ?_, _, _, (show _ = [_, _, _, _] ++ [_, _, _, _] from rfl), kA_K _, _, _, (show _ = [_, _, _, _] ++ [] from rfl), kA_K _, rfl⟩ (by simp) rfl
  exact kNode_mk (x := uN) (w := w.alloc uO1) ⟨by simp [uN], by simp [uN], by simp [uN], C_nil _ _, C_nil _ _, C_ints w _ _ rfl [1, 2] (by simp) rfl⟩
theorem uB_C (w : World) (g : Nat) (hg : w.heap.size = g) : kNode.C ((w.alloc uO3).alloc (uO4 g)) (some ⟨g + 1, 0, none⟩) 2 uB.nodes := by
  subst hg
  refine C_lits kNode _ 52 _ (by simp) [kA, uM] _ ⟨_, _, (show _ = [_, _, _, _] ++ [_, _, _, _] from rfl), kA_K _, _, _, (show _ = [_, _, _, _] ++ [] from rfl), ?_, rfl⟩ (by simp) rfl
  exact kNode_mk (x := uM) (w := w.alloc uO3) ⟨by simp [uM], by simp [uM], by simp [uM], C_nil _ _, C_nil _ _, C_ints w _ _ rfl [0, 0] (by simp) rfl⟩
set_option maxRecDepth 100000 in
set_option maxHeartbeats 4000000 in
theorem uawake_any (T : Lib.PrintTabs) (w : World) (hT : QTabs T w) : Calls Tryd.prog 22 #[] w fun e w' => e = .returned (.bool true) ∧ Below w.heap.size w w' := by
  have HT := Aside0.mk hT
  have hua := Tryd.underlying34
  have hun := Tryd.underlying52
  clear hT
  go_enter Tryd.func22, Tryd.ntmps22
  go_wp2_with fail
  obtain ⟨wA, hwA⟩ : ∃ W, W = ((w.alloc uO1).alloc (uO2 w.heap.size)).alloc (.cells #[.slice (some ⟨w.heap.size + 1, 0, none⟩) 3 3, .int .i64 0] 34) := ⟨_, rfl⟩
  have hCA := Kd.C_alloc (uA_C w _ rfl) (.cells #[.slice (some ⟨w.heap.size + 1, 0, none⟩) 3 3, .int .i64 0] 34)
  have hBA := below_alloc (below_alloc (below_alloc (Below.refl w.heap.size w) uO1) (uO2 w.heap.size)) (.cells #[.slice (some ⟨w.heap.size + 1, 0, none⟩) 3 3, .int .i64 0] 34)
  have k0 := box_cell ((w.alloc uO1).alloc (uO2 w.heap.size)) (w.heap.size + 1 + 1) (by simp) #[.slice (some ⟨w.heap.size + 1, 0, none⟩) 3 3, .int .i64 0] 34 0 _ rfl
  have k1 := box_cell ((w.alloc uO1).alloc (uO2 w.heap.size)) (w.heap.size + 1 + 1) (by simp) #[.slice (some ⟨w.heap.size + 1, 0, none⟩) 3 3, .int .i64 0] 34 1 _ rfl
  have hzA : (((w.alloc uO1).alloc (uO2 w.heap.size)).alloc (.cells #[.slice (some ⟨w.heap.size + 1, 0, none⟩) 3 3, .int .i64 0] 34)).heap.size = w.heap.size + 1 + 1 + 1 := by simp
  rw [← hwA] at hCA hBA k0 k1 hzA ⊢
  clear hwA
  have hCB := Kd.C_alloc (uB_C wA _ hzA) (.cells #[.slice (some ⟨w.heap.size + 1 + 1 + 1 + 1, 0, none⟩) 2 2, .int .i64 1] 34)
  have hBB := below_alloc (below_alloc (below_alloc (Below.refl wA.heap.size wA) uO3) (uO4 (w.heap.size + 1 + 1 + 1))) (.cells #[.slice (some ⟨w.heap.size + 1 + 1 + 1 + 1, 0, none⟩) 2 2, .int .i64 1] 34)
  have q0 := box_cell ((wA.alloc uO3).alloc (uO4 (w.heap.size + 1 + 1 + 1))) (w.heap.size + 1 + 1 + 1 + 1 + 1) (by simp [hzA]) #[.slice (some ⟨w.heap.size + 1 + 1 + 1 + 1, 0, none⟩) 2 2, .int .i64 1] 34 0 _ rfl
  have q1 := box_cell ((wA.alloc uO3).alloc (uO4 (w.heap.size + 1 + 1 + 1))) (w.heap.size + 1 + 1 + 1 + 1 + 1) (by simp [hzA]) #[.slice (some ⟨w.heap.size + 1 + 1 + 1 + 1, 0, none⟩) 2 2, .int .i64 1] 34 1 _ rfl
  replace k0 := pw_cell_below hBB k0
  replace k1 := pw_cell_below hBB k1
  have HA := Aside0.mk (Kd.C_below hCA hBB)
  have HBn := Aside0.mk hCB
  have HB := Aside0.mk (below_step hBA hBB)
  clear hCA hCB hBA hBB hzA
  generalize ((wA.alloc uO3).alloc (uO4 (w.heap.size + 1 + 1 + 1))).alloc (.cells #[.slice (some ⟨w.heap.size + 1 + 1 + 1 + 1, 0, none⟩) 2 2, .int .i64 1] 34) = w0 at k0 k1 q0 q1 HA HBn HB ⊢
  have HZ := Aside0.mk (gcheck_right.2 uA_right)
  have HSh := Aside0.mk (show shR T uA = uB from by rw [shR_yes uA_right, uA_share])
  refine (ushare_any T (some ⟨w.heap.size + 1, 0, none⟩) 3 uA w0 HA.out (by decide) uA_fit (HT.out.below HB.out)).mono ?_
  rintro e w1 ⟨A1, c1, rfl, hR1, hB1⟩
  rw [HZ.out]
  rw [HSh.out] at hR1 ⊢
  replace k0 := pw_cell_below hB1 k0
  replace k1 := pw_cell_below hB1 k1
  replace q0 := pw_cell_below hB1 q0
  replace q1 := pw_cell_below hB1 q1
  have HB1 := Aside0.mk (below_step HB.out hB1)
  have HA1 := Aside0.mk (Kd.C_below HA.out hB1)
  have HD1 := Aside0.mk (Kd.C_below HBn.out hB1)
  have HC1 := Aside0.mk (show kNode.C w1 A1 2 uB.nodes from (Kd.R_reads' hR1).2.2)
  clear hR1 hB1 HB HA HBn HSh HZ
  have hA2 := below_alloc (Below.refl w1.heap.size w1) (.cells #[.slice A1 2 c1, .int .i64 1] 34)
  have z0 := box_cell w1 _ rfl #[.slice A1 2 c1, .int .i64 1] 34 0 _ rfl
  have z1 := box_cell w1 _ rfl #[.slice A1 2 c1, .int .i64 1] 34 1 _ rfl
  replace k0 := pw_cell_below hA2 k0
  replace k1 := pw_cell_below hA2 k1
  replace q0 := pw_cell_below hA2 q0
  replace q1 := pw_cell_below hA2 q1
  have HB2 := Aside0.mk (below_step HB1.out hA2)
  have HA2 := Aside0.mk (Kd.C_below HA1.out hA2)
  have HD2 := Aside0.mk (Kd.C_below HD1.out hA2)
  have HC2 := Aside0.mk (Kd.C_below HC1.out hA2)
  clear hA2 HB1 HA1 HD1 HC1
  have hl2 : uB.nodes.length = 2 := rfl
  have hr2 : uB.root = 1 := rfl
  go_wp2_with fail
  generalize w1.alloc (.cells #[.slice A1 2 c1, .int .i64 1] 34) = w2 at k0 k1 q0 q1 z0 z1 HB2 HA2 HD2 HC2 ⊢
  refine (uequal_any T (some ⟨w.heap.size + 1, 0, none⟩) 3 uA (some ⟨w.heap.size + 1 + 1 + 1 + 1, 0, none⟩) 2 uB w2 HA2.out (by decide) HD2.out (by decide) uA_fit uB_fit (HT.out.below HB2.out)).mono ?_
  rw [uAB_eq]
  rintro e w3 ⟨rfl, hB3⟩
  replace k0 := pw_cell_below hB3 k0
  replace k1 := pw_cell_below hB3 k1
  replace q0 := pw_cell_below hB3 q0
  replace q1 := pw_cell_below hB3 q1
  replace z0 := pw_cell_below hB3 z0
  replace z1 := pw_cell_below hB3 z1
  have HB3 := Aside0.mk (below_step HB2.out hB3)
  have HA3 := Aside0.mk (Kd.C_below HA2.out hB3)
  have HD3 := Aside0.mk (Kd.C_below HD2.out hB3)
  have HC3 := Aside0.mk (Kd.C_below HC2.out hB3)
  clear hB3 HB2 HA2 HD2 HC2
  go_wp2_with fail
  refine (usize_any (some ⟨w.heap.size + 1, 0, none⟩) 3 uA 99 w3 HA3.out (by decide) uA_fit (by omega) (by omega)).mono ?_
  rw [show uszN uA 99 = 3 from by rw [usz_yes uA_right, uA_size]; rfl]
  rintro e w4 ⟨rfl, hB4⟩
  replace k0 := pw_cell_below hB4 k0
  replace k1 := pw_cell_below hB4 k1
  replace q0 := pw_cell_below hB4 q0
  replace q1 := pw_cell_below hB4 q1
  replace z0 := pw_cell_below hB4 z0
  replace z1 := pw_cell_below hB4 z1
  have HB4 := Aside0.mk (below_step HB3.out hB4)
  have HA4 := Aside0.mk (Kd.C_below HA3.out hB4)
  have HD4 := Aside0.mk (Kd.C_below HD3.out hB4)
  have HC4 := Aside0.mk (Kd.C_below HC3.out hB4)
  clear hB4 HB3 HA3 HD3 HC3
  go_wp2_with fail
  refine (usize_any (some ⟨w.heap.size + 1 + 1 + 1 + 1, 0, none⟩) 2 uB 99 w4 HD4.out (by decide) uB_fit (by omega) (by omega)).mono ?_
  rw [show uszN uB 99 = 3 from by rw [usz_yes uB_right, uB_size]; rfl]
  rintro e w5 ⟨rfl, hB5⟩
  replace k0 := pw_cell_below hB5 k0
  replace k1 := pw_cell_below hB5 k1
  replace q0 := pw_cell_below hB5 q0
  replace q1 := pw_cell_below hB5 q1
  replace z0 := pw_cell_below hB5 z0
  replace z1 := pw_cell_below hB5 z1
  have HB5 := Aside0.mk (below_step HB4.out hB5)
  have HA5 := Aside0.mk (Kd.C_below HA4.out hB5)
  have HD5 := Aside0.mk (Kd.C_below HD4.out hB5)
  have HC5 := Aside0.mk (Kd.C_below HC4.out hB5)
  clear hB5 HB4 HA4 HD4 HC4
  go_wp2_with fail
  refine (usize_any (some ⟨w.heap.size + 1 + 1 + 1 + 1, 0, none⟩) 2 uB 2 w5 HD5.out (by decide) uB_fit (by omega) (by omega)).mono ?_
  rw [show uszN uB 2 = 2 from by rw [usz_yes uB_right, uB_size]; rfl]
  rintro e w6 ⟨rfl, hB6⟩
  replace k0 := pw_cell_below hB6 k0
  replace k1 := pw_cell_below hB6 k1
  replace q0 := pw_cell_below hB6 q0
  replace q1 := pw_cell_below hB6 q1
  replace z0 := pw_cell_below hB6 z0
  replace z1 := pw_cell_below hB6 z1
  have HB6 := Aside0.mk (below_step HB5.out hB6)
  have HA6 := Aside0.mk (Kd.C_below HA5.out hB6)
  have HD6 := Aside0.mk (Kd.C_below HD5.out hB6)
  have HC6 := Aside0.mk (Kd.C_below HC5.out hB6)
  clear hB6 HB5 HA5 HD5 HC5
  go_wp2_with fail
  refine (sameS_any A1 c1 uB (some ⟨w.heap.size + 1 + 1 + 1 + 1, 0, none⟩) 2 uB w6 HC6.out HD6.out uB_fit.small).mono ?_
  rw [sameS_yes rfl]
  rintro e w7 ⟨rfl, hB7⟩
  replace k0 := pw_cell_below hB7 k0
  replace k1 := pw_cell_below hB7 k1
  replace q0 := pw_cell_below hB7 q0
  replace q1 := pw_cell_below hB7 q1
  replace z0 := pw_cell_below hB7 z0
  replace z1 := pw_cell_below hB7 z1
  have HB7 := Aside0.mk (below_step HB6.out hB7)
  have HA7 := Aside0.mk (Kd.C_below HA6.out hB7)
  have HD7 := Aside0.mk (Kd.C_below HD6.out hB7)
  have HC7 := Aside0.mk (Kd.C_below HC6.out hB7)
  clear hB7 HB6 HA6 HD6 HC6
  go_wp2_with fail
  refine (uequal_any T (some ⟨w.heap.size + 1, 0, none⟩) 3 uA none 0 ⟨[], 0⟩ w7 HA7.out (by decide) (C_nil _ _) (by decide) uA_fit none_fit (HT.out.below HB7.out)).mono ?_
  rw [uA_none]
  rintro e w8 ⟨rfl, hB8⟩
  have HB8 := Aside0.mk (below_step HB7.out hB8)
  clear hB8 k0 k1 q0 q1 z0 z1
  go_wp2
  go_ret
  exact ⟨rfl, HB8.out⟩
end Go.Proofs.YtdfneldenipljaaDoor.L
end
section
namespace Go.Proofs.YtdfneldenipljaaDoor.L
open Go.RowKit Go.ChangeShapes Go.WideShapes Go.Proofs.YtdfneldenipljaaDoorW.PrintWords Go.Proofs.YtdfneldenipljaaDoorW.PrintLast Go.Proofs.YtdfneldenipljaaDoorW.PrintMore
attribute [local go_sem] max2_int min2_int max_two min_two max_three min_three max_four min_four
structure RsR (w2 : World) (ns : List Node) (i : Nat) (L : List Int) (v : Value) (W : World) : Prop where
  len : L.length = i
  done : ∀ k : Nat, k < i → rd L (k : Int) = (min 1073741824 (treeN ns k) : Nat)
  row : (Kd.int .i64).R 3 W w2.heap.size (fun _ => True) v L
  below : Below w2.heap.size w2 W
def rszN (s : Scene) (most : Int) : Int := if most < 0 then 0 else if most < ((min 1073741824 (sizeT s) : Nat) : Int) then most else ((min 1073741824 (sizeT s) : Nat) : Int)
set_option maxRecDepth 100000 in
set_option maxHeartbeats 8000000 in
theorem rsize_any (A : Option Addr) (c : Nat) (s : Scene) (most : Int) (w : World) (h : kNode.C w A s.nodes.length s.nodes) (hc : s.nodes.length ≤ c) (hF : Fit s.nodes) (hRt : Right s) :
    Calls Tryd.prog 29 #[.agg #[.slice A s.nodes.length c, .int .i64 s.root], .int .i64 most] w fun e w' => e = .returned (.int .i64 (rszN s most)) ∧ Below w.heap.size w w' := by
  have HR := Aside0.mk h
  have HF := Aside0.mk hF
  have HRt := Aside0.mk hRt
  have hu := Tryd.underlying34
  have hun := Tryd.underlying52
  have HB := Aside0.mk (below_alloc (Below.refl w.heap.size w) (.cells #[.slice A s.nodes.length c, .int .i64 s.root] 34))
  have k0 := box_cell w _ rfl #[.slice A s.nodes.length c, .int .i64 s.root] 34 0 (.slice A s.nodes.length c) rfl
  have k1 := box_cell w _ rfl #[.slice A s.nodes.length c, .int .i64 s.root] 34 1 (.int .i64 s.root) rfl
  clear h hF hRt
  go_enter Tryd.func29, Tryd.ntmps29
  go_wp2_with fail
  refine (rcanon_right A c s _ (Kd.C_below HR.out HB.out) hc HRt.out HF.out).mono ?_
  rintro e w1 ⟨B, d, rfl, hR1, hB1⟩
  have HB1 := Aside0.mk (below_step HB.out hB1)
  have HC1 := Aside0.mk (Kd.R_reads' hR1).2.2
  have hcd := (Kd.R_reads' hR1).2.1
  clear hR1 hB1 k0 k1 HB
  obtain ⟨r, hr, hrn⟩ := canS_at HRt.out
  have HCA := Aside0.mk (show AheadN (canS s).nodes from canon_ahead HRt.out)
  have HCF := Aside0.mk (show Fit (canS s).nodes from HF.out.canon HRt.out)
  have HE := Aside0.mk (show sizeT s = treeN (canS s).nodes r from by
    have e1 : r = s.nodes.length - 1 := by
      have hr' : (s.nodes.length : Int) - 1 = (r : Int) := hr
      omega
    subst e1
    rfl)
  rw [hr]
  clear hr
  generalize canS s = C at HCA HCF HE HC1 hcd hrn ⊢
  have hn60 : C.nodes.length ≤ 60 := HCF.out.1
  have e0 := box_cell w1 _ rfl #[.slice B C.nodes.length d, .int .i64 (r : Int)] 34 0 (.slice B C.nodes.length d) rfl
  have e1 := box_cell w1 _ rfl #[.slice B C.nodes.length d, .int .i64 (r : Int)] 34 1 (.int .i64 (r : Int)) rfl
  have hA2 := below_alloc (Below.refl w1.heap.size w1) (.cells #[.slice B C.nodes.length d, .int .i64 (r : Int)] 34)
  have HC2 := Aside0.mk (Kd.C_below HC1.out hA2)
  have HB2 := Aside0.mk (below_step HB1.out hA2)
  have hz2 : (w1.alloc (.cells #[.slice B C.nodes.length d, .int .i64 (r : Int)] 34)).heap.size = w1.heap.size + 1 := by simp
  have HE0 := Aside0.mk e0
  have HE1 := Aside0.mk e1
  have HW0 : Aside0 (RsR (w1.alloc (.cells #[.slice B C.nodes.length d, .int .i64 (r : Int)] 34)) C.nodes 0 [] (.slice (some ⟨w1.heap.size + 1, 0, none⟩) 0 0) ((w1.alloc (.cells #[.slice B C.nodes.length d, .int .i64 (r : Int)] 34)).alloc (.cells #[] 3))) := ⟨⟨rfl, fun k hk => by omega, by
    have h := R_empty (Kd.int .i64) 3 (w1.alloc (.cells #[.slice B C.nodes.length d, .int .i64 (r : Int)] 34)) _ (Nat.le_refl _)
    rw [hz2] at h ⊢
    exact h, below_alloc (Below.refl _ _) _⟩⟩
  clear hA2 HC1 HB1 e0 e1
  go_wp2
  generalize (w1.alloc (.cells #[.slice B C.nodes.length d, .int .i64 (r : Int)] 34)).alloc (.cells #[] 3) = w3 at HW0 ⊢
  generalize w1.alloc (.cells #[.slice B C.nodes.length d, .int .i64 (r : Int)] 34) = w2 at HW0 HC2 HB2 HE0 HE1 hz2
  clear hz2
  go_loopw [7, 6] (fun v7 v6 W => ∃ (i : Nat) (L : List Int) (v : Value), i ≤ C.nodes.length ∧ v7 = .int .i64 i ∧ v = v6 ∧ Aside0 (RsR w2 C.nodes i L v W)) (fun v7 _ _ => C.nodes.length - (intOf v7).toNat)
  case atStart => exact ⟨0, _, _, by omega, rfl, rfl, HW0⟩
  case round =>
    clear HW0
    obtain ⟨i, L, v, hi, rfl, rfl, HW⟩ := hrel
    have e0 := pw_cell_below HW.out.below HE0.out
    by_cases hlt : i < C.nodes.length
    · obtain ⟨Av, cv, hv⟩ := Kd.R_slice HW.out.row
      rw [HW.out.len] at hv
      subst hv
      obtain ⟨adn, A1, c1, A2, c2, A3, c3, rfl, x0, x1, x2, x3, hN⟩ := at_node HC2.out i hlt
      replace x3 := pw_cell_below HW.out.below x3
      have HN := Aside0.mk hN
      have HNk := Aside0.mk (HCA.out i hlt)
      have hkl : (nd C.nodes i).kids.length ≤ 300 := (HCF.out.2 i hlt).kids
      have HK0 := Aside0.mk (treeK_zero C.nodes i)
      have HKs := Aside0.mk (fun (k : Nat) (hk : k < (nd C.nodes i).kids.length) => treeK_succ (ns := C.nodes) (i := i) hk)
      have HKa := Aside0.mk (treeK_all HCA.out hlt)
      have hin : (i : Int) < (C.nodes.length : Int) := by omega
      clear hN x0 x1 x2
      generalize nd C.nodes i = n at x3 HN HNk hkl HKs HKa
      go_wp2
      go_loopw [9, 8] (fun v9 v8 W => ∃ (k x : Nat), k ≤ n.kids.length ∧ v9 = .int .i64 k ∧ v8 = .int .i64 x ∧ Aside0 (x = min 1073741824 (treeK C.nodes i k)) ∧ W = wr) (fun v9 _ _ => n.kids.length - (intOf v9).toNat)
      case atStart => exact ⟨0, 1, by omega, rfl, rfl, ⟨by rw [HK0.out]; omega⟩, rfl⟩
      case round =>
        obtain ⟨k, x, hk, rfl, rfl, HX, rfl⟩ := hrel
        by_cases hkl2 : k < n.kids.length
        · obtain ⟨a3, rfl, y0⟩ := at_nat HN.out.k k hkl2
          replace y0 := pw_cell_below HW.out.below y0
          have hkk := HNk.out _ (rd_mem hkl2)
          obtain ⟨q, hq⟩ : ∃ q : Nat, rd n.kids (k : Int) = (q : Int) := ⟨_, (Int.toNat_of_nonneg hkk.1).symm⟩
          have hqi : q < i := by omega
          have HKt := Aside0.mk (HKs.out k hkl2)
          rw [hq, Int.toNat_natCast] at HKt
          rw [hq] at y0
          obtain ⟨av, rfl, p1⟩ := at_nat (Kd.R_reads' HW.out.row).2.2 q (by rw [HW.out.len]; exact hqi)
          rw [HW.out.done q hqi] at p1
          obtain ⟨tx, htx⟩ : ∃ tx : Nat, tx = min 1073741824 (treeN C.nodes q) := ⟨_, rfl⟩
          rw [← htx] at p1
          have hxe := HX.out
          have hx1 : x ≤ 1073741824 := by omega
          have ht1 : tx ≤ 1073741824 := by omega
          have hkn : (k : Int) < (n.kids.length : Int) := by omega
          have hqn : (q : Int) < (i : Int) := by omega
          by_cases hgt : 1073741824 < x + tx
          · have HX2 := Aside0.mk (show (1073741824 : Nat) = min 1073741824 (treeK C.nodes i (k + 1)) from by rw [HKt.out]; omega)
            have d1 : decide ((1073741824 : Int) < (x : Int) + (tx : Int)) = true := decide_eq_true (by omega)
            clear hkk hq htx hxe
            go_wp2
            go_roundw
            case rel => exact ⟨k + 1, 1073741824, by omega, by go_num, rfl, HX2, by first | rfl | trivial⟩
            case measure => simp [intOf]; omega
          · have HX2 := Aside0.mk (show x + tx = min 1073741824 (treeK C.nodes i (k + 1)) from by rw [HKt.out]; omega)
            have d1 : decide ((1073741824 : Int) < (x : Int) + (tx : Int)) = false := decide_eq_false (by omega)
            clear hkk hq htx hxe
            go_wp2
            go_roundw
            case rel => exact ⟨k + 1, x + tx, by omega, by go_num, by go_num, HX2, by first | rfl | trivial⟩
            case measure => simp [intOf]; omega
        · obtain rfl : k = n.kids.length := by omega
          have HX2 := Aside0.mk (show (x : Int) = ((min 1073741824 (treeN C.nodes i) : Nat) : Int) from by rw [HX.out, HKa.out])
          have hli := HW.out.len
          have HLi := Aside0.mk hli
          have HRow := Aside0.mk (show (Kd.int .i64).R 3 wr w2.heap.size (fun _ => True) (.slice Av i cv) L from HW.out.row)
          clear hli
          go_wp2_with (at_builtin; refine Kd.R_append (Kd.int .i64) (w0 := w2) w2.heap.size rfl (.tmp 47) (.tmp 49) 31 3 (.int .i64 0) 8 rfl Tryd.underlying31 info_int rfl (by decide) (by omega) (.slice Av i cv) L (x : Int) [.int .i64 (x : Int)] (fun _ => True) (fun _ => False) rfl (by go_simp) rfl (fun _ h => h.elim) (fun _ _ => trivial) HRow.out HW.out.below HW.out.below.size (by have := HLi.out; omega) ?_; intro v7 w7 hR7 hB7 hg7 hat7; have HL := Aside0.mk (RsR.mk (ns := C.nodes) (i := i + 1) (by rw [List.length_append, HLi.out]; rfl) (fun k hk => by
            by_cases e : k = i
            · subst e
              have : rd (L ++ [(x : Int)]) (k : Int) = (x : Int) := by rw [← HLi.out]; exact rd_snoc_eq
              rw [this]; exact HX2.out
            · rw [rd_app (by omega) (by rw [HLi.out]; omega)]
              exact HW.out.done k (by omega)) hR7 hB7); clear hR7 hB7 hg7 hat7)
          go_roundw
          case rel => exact ⟨i + 1, _, _, by omega, by go_num, rfl, HL⟩
          case measure => simp [intOf]; omega
    · obtain rfl : i = C.nodes.length := by omega
      obtain ⟨Av, cv, hv⟩ := Kd.R_slice HW.out.row
      rw [HW.out.len] at hv
      subst hv
      obtain ⟨av, rfl, p1⟩ := at_nat (Kd.R_reads' HW.out.row).2.2 r (by rw [HW.out.len]; exact hrn)
      rw [HW.out.done r hrn, ← HE.out] at p1
      have e1 := pw_cell_below HW.out.below HE1.out
      have hrl : (r : Int) < (C.nodes.length : Int) := by omega
      obtain ⟨q, hq⟩ : ∃ q : Nat, q = min 1073741824 (sizeT s) := ⟨_, rfl⟩
      rw [← hq] at p1
      by_cases hm : most < 0
      · have HE2 := Aside0.mk (show rszN s most = 0 from if_pos hm)
        have d1 : decide (most < 0) = true := decide_eq_true hm
        clear hm hq
        go_wp2
        go_ret
        exact ⟨ret_int HE2.out.symm, below_step HB2.out HW.out.below⟩
      · have d1 : decide (most < 0) = false := decide_eq_false hm
        by_cases hmt : most < (q : Int)
        · have HE2 := Aside0.mk (show rszN s most = most from by unfold rszN; rw [if_neg hm, ← hq, if_pos hmt])
          have d2 : decide (most < (q : Int)) = true := decide_eq_true hmt
          clear hm hmt hq
          go_wp2
          go_ret
          exact ⟨ret_int HE2.out.symm, below_step HB2.out HW.out.below⟩
        · have HE2 := Aside0.mk (show rszN s most = (q : Int) from by unfold rszN; rw [if_neg hm, ← hq, if_neg hmt])
          have d2 : decide (most < (q : Int)) = false := decide_eq_false hmt
          clear hm hmt hq
          go_wp2
          go_ret
          exact ⟨ret_int HE2.out.symm, below_step HB2.out HW.out.below⟩
end Go.Proofs.YtdfneldenipljaaDoor.L
end
section
namespace Go.Proofs.YtdfneldenipljaaDoor.L
open Go.RowKit Go.ChangeShapes Go.WideShapes Go.Proofs.YtdfneldenipljaaDoorW.PrintWords Go.Proofs.YtdfneldenipljaaDoorW.PrintLast Go.Proofs.YtdfneldenipljaaDoorW.PrintMore
attribute [local go_sem] max2_int min2_int max_two min_two max_three min_three max_four min_four
theorem rightB_yes {s : Scene} (h : rightB s = true) : Right s := gcheck_right.1 (by unfold rightB at h; simpa using h)
theorem rightB_no {s : Scene} (h : rightB s = false) : ¬ Right s := fun hr => by
  have h1 := gcheck_right.2 hr
  unfold rightB at h
  rw [h1] at h
  simp at h
theorem sizes_eq {s : Scene} (hr : Right s) {most : Int} (hm : most ≤ 1073741824) : uszN s most = rszN s most ∧ (most < (s.nodes.length : Int) ∨ (s.nodes.length : Int) ≤ uszN s most) := by
  have h1 := size_ge hr
  rw [usz_yes hr]
  unfold rszN
  generalize sizeT s = t at h1 ⊢
  refine ⟨?_, ?_⟩
  · split
    · omega
    · split <;> omega
  · omega
set_option maxRecDepth 100000 in
set_option maxHeartbeats 8000000 in
theorem unfoldSizes_any (T : Lib.PrintTabs) (A : Option Addr) (c : Nat) (s : Scene) (most : Int) (w : World) (h : kNode.C w A s.nodes.length s.nodes) (hc : s.nodes.length ≤ c) (hm0 : -9223372036854775808 ≤ most) (hm : most ≤ 9223372036854775807)
    (hN : ∀ i : Nat, i < s.nodes.length → NBd (nd s.nodes i)) (hT : QTabs T w) :
    Calls Tryd.prog 9 #[.agg #[.slice A s.nodes.length c, .int .i64 s.root], .int .i64 most] w fun e w' => e = .returned (.bool true) ∧ Below w.heap.size w w' := by
  have HR := Aside0.mk h
  have HN := Aside0.mk hN
  have HT := Aside0.mk hT
  have hu := Tryd.underlying34
  have HB := Aside0.mk (below_alloc (Below.refl w.heap.size w) (.cells #[.slice A s.nodes.length c, .int .i64 s.root] 34))
  have k0 := box_cell w _ rfl #[.slice A s.nodes.length c, .int .i64 s.root] 34 0 (.slice A s.nodes.length c) rfl
  have k1 := box_cell w _ rfl #[.slice A s.nodes.length c, .int .i64 s.root] 34 1 (.int .i64 s.root) rfl
  clear h hN hT
  go_enter Tryd.func9, Tryd.ntmps9
  go_wp2_with fail
  refine (uawake_any T _ (HT.out.below HB.out)).mono ?_
  rintro e w1 ⟨rfl, hB1⟩
  replace k0 := pw_cell_below hB1 k0
  replace k1 := pw_cell_below hB1 k1
  have HB1 := Aside0.mk (below_step HB.out hB1)
  clear hB1 HB
  go_wp2_with fail
  refine (greatS_any A c s _ (Kd.C_below HR.out HB1.out)).mono ?_
  rintro e w2 ⟨rfl, hB2⟩
  replace k0 := pw_cell_below hB2 k0
  replace k1 := pw_cell_below hB2 k1
  have HB2 := Aside0.mk (below_step HB1.out hB2)
  clear hB2 HB1
  cases hg : greatS s with
  | true =>
    clear hg
    go_wp2_with fail
    refine (uawake_any T _ (HT.out.below HB2.out)).mono ?_
    rintro e w3 ⟨rfl, hB3⟩
    have HB3 := Aside0.mk (below_step HB2.out hB3)
    clear hB3 k0 k1
    go_wp2
    go_ret
    exact ⟨rfl, HB3.out⟩
  | false =>
    have HF := Aside0.mk (fit_of_great hg HN.out)
    clear hg
    by_cases hmm : 1073741824 < most
    · have d1 : decide ((1073741824 : Int) < most) = true := decide_eq_true hmm
      clear hmm
      go_wp2_with fail
      refine (uawake_any T _ (HT.out.below HB2.out)).mono ?_
      rintro e w3 ⟨rfl, hB3⟩
      have HB3 := Aside0.mk (below_step HB2.out hB3)
      clear hB3 k0 k1
      go_wp2
      go_ret
      exact ⟨rfl, HB3.out⟩
    · have d1 : decide ((1073741824 : Int) < most) = false := decide_eq_false hmm
      have HMm := Aside0.mk hmm
      clear hmm
      go_wp2_with fail
      refine (scopy_any A c s _ (Kd.C_below HR.out HB2.out) hc (by have := HF.out.1; omega) HF.out.small).mono ?_
      rintro e w3 ⟨A3, c3, rfl, hc3, hC3, hB3⟩
      replace k0 := pw_cell_below hB3 k0
      replace k1 := pw_cell_below hB3 k1
      have HB3 := Aside0.mk (below_step HB2.out hB3)
      clear hB3 HB2
      go_wp2_with fail
      refine (usize_any A3 c3 s most _ hC3 hc3 HF.out hm hm0).mono ?_
      rintro e w4 ⟨rfl, hB4⟩
      replace k0 := pw_cell_below hB4 k0
      replace k1 := pw_cell_below hB4 k1
      have HB4 := Aside0.mk (below_step HB3.out hB4)
      clear hB4 HB3 hC3
      go_wp2_with fail
      refine (rright_any A c s _ (Kd.C_below HR.out HB4.out) hc (by have := HF.out.rows; omega)).mono ?_
      rintro e w5 ⟨rfl, hB5⟩
      replace k0 := pw_cell_below hB5 k0
      replace k1 := pw_cell_below hB5 k1
      have HB5 := Aside0.mk (below_step HB4.out hB5)
      clear hB5 HB4
      cases hr : rightB s with
      | false =>
        rw [usz_no (rightB_no hr)]
        clear hr k0 k1
        go_wp2
        go_ret
        exact ⟨rfl, HB5.out⟩
      | true =>
        have HRt := Aside0.mk (rightB_yes hr)
        have HS := Aside0.mk (sizes_eq HRt.out (most := most) (by have := HMm.out; omega))
        clear hr
        go_wp2_with fail
        refine (rsize_any A c s most _ (Kd.C_below HR.out HB5.out) hc HF.out HRt.out).mono ?_
        rintro e w6 ⟨rfl, hB6⟩
        replace k0 := pw_cell_below hB6 k0
        have HB6 := Aside0.mk (below_step HB5.out hB6)
        rw [← HS.out.1]
        have hs2 := HS.out.2
        clear hB6 k1 HB5
        generalize uszN s most = n at hs2 ⊢
        have hnn : (n == n) = true := by simp
        by_cases hml : most < (s.nodes.length : Int)
        · have d2 : decide (most < (s.nodes.length : Int)) = true := decide_eq_true hml
          clear hs2 hml
          go_wp2
          go_ret
          exact ⟨rfl, HB6.out⟩
        · have d2 : decide (most < (s.nodes.length : Int)) = false := decide_eq_false hml
          have d3 : decide ((s.nodes.length : Int) ≤ n) = true := decide_eq_true (by omega)
          clear hs2 hml
          go_wp2
          go_ret
          exact ⟨rfl, HB6.out⟩
end Go.Proofs.YtdfneldenipljaaDoor.L
end
section
namespace Go.Proofs.YtdfneldenipljaaDoor.L
open Go.RowKit Go.ChangeShapes Go.WideShapes Go.Proofs.YtdfneldenipljaaDoorW.PrintWords Go.Proofs.YtdfneldenipljaaDoorW.PrintLast Go.Proofs.YtdfneldenipljaaDoorW.PrintMore
attribute [local go_sem] max2_int min2_int max_two min_two max_three min_three max_four min_four
section
variable {P : Program} {α β : Type}
def Opens (P : Program) (k : Kd α) (t : TypeId) (good : α → Prop) : Prop :=
  ∀ (H : Type) (enc : TypeId × Value → H) (w : World) (base : Nat) (spare : Nat → Bool) (held : Bool) (fuel : Nat) (cs : List Value) (x : DataW H × List MemPlace), DataW.trod enc P w base spare held fuel t cs = some x → ∃ v, k.K w v cs ∧ good v
theorem opens_int {t : TypeId} {k : IntKind} (ht : P.underlying t = some (.int k)) : Opens P (Kd.int k) t (fun n => (Lit.int k n).wf = true) := by
  intro H enc w base spare held fuel cs x h
  obtain ⟨n, rfl, _, hw⟩ := DataW.trod_int ht h
  exact ⟨n, rfl, hw⟩
theorem opens_string {t : TypeId} (ht : P.underlying t = some .string) : Opens P Kd.string t (fun s => s.size ≤ maxLen) := by
  intro H enc w base spare held fuel cs x h
  obtain ⟨s, rfl, _, hs⟩ := DataW.trod_string ht h
  exact ⟨s, rfl, hs⟩
theorem list_of {R : Nat → α → Prop} : ∀ n, (∀ i, i < n → ∃ p, R i p) → ∃ xs : List α, xs.length = n ∧ ∀ j p, xs[j]? = some p → R j p := by
  intro n
  induction n with
  | zero => intro _; exact ⟨[], rfl, fun j p h => by simp at h⟩
  | succ n ih =>
    intro h
    obtain ⟨xs, hl, hx⟩ := ih (fun i hi => h i (by omega))
    obtain ⟨p, hp⟩ := h n (by omega)
    refine ⟨xs ++ [p], by simp [hl], fun j q hq => ?_⟩
    rw [List.getElem?_append] at hq
    split at hq
    · exact hx j q hq
    · have hj : j = n := by
        have := (List.getElem?_eq_some_iff.1 hq).1
        simp at this
        omega
      subst hj
      rw [hl, Nat.sub_self] at hq
      simp at hq
      subst hq
      exact hp
theorem opens_slice {d : Kd α} {t e e' : TypeId} {good : α → Prop} (ht : P.underlying t = some (.slice e)) (hc : P.cellsOf e = d.sz) (hd : Opens P d e good) : Opens P (Kd.slice e' d) t (fun xs => xs.length ≤ maxLen ∧ ∀ x ∈ xs, good x) := by
  intro H enc w base spare held fuel cs x h
  rcases Deep.open_slice ht h with ⟨rfl, _⟩ | ⟨a, len, cap, m, n, D, Pl, rfl, _, hl, hm, hmm, _, hx⟩
  · exact ⟨[], ⟨none, 0, rfl, Nat.le_refl _, rfl, by simp, fun h => by simp at h⟩, by simp, by simp⟩
  · have hlm : len ≤ m := by rw [hmm]; split <;> omega
    rw [hc] at hx
    obtain ⟨xs, hxl, hxs⟩ := list_of (R := fun i p => (∃ c, c.length = d.sz ∧ d.K w p c ∧ ∀ j u, c[j]? = some u → w.cell? (a.add (i * d.sz + j)) = some u) ∧ good p) len (fun i hi => by
      obtain ⟨cs', h1, h2⟩ := hx i (by omega)
      obtain ⟨_, hcl, hat⟩ := World.cells?_some h1
      obtain ⟨p, hK, hg⟩ := hd H enc w base spare held n cs' _ h2
      refine ⟨p, ⟨cs', hcl, hK, fun j u hu => ?_⟩, hg⟩
      have hj : j < d.sz := by rw [← hcl]; exact (List.getElem?_eq_some_iff.1 hu).1
      rw [← Deep.add_add, hat j hj, hu])
    subst hxl
    refine ⟨xs, ⟨some a, cap, rfl, hl, rfl, by unfold maxLen at hm; omega, fun _ => ⟨a, rfl, fun j p hp => (hxs j p hp).1⟩⟩, by omega, fun x hx => ?_⟩
    obtain ⟨j, hj⟩ := List.getElem?_of_mem hx
    exact (hxs j x hj).2
def OpensL (P : Program) (k : Kd α) (fs : List Field) (off : Nat) (good : α → Prop) : Prop :=
  ∀ (H : Type) (enc : TypeId × Value → H) (w : World) (base : Nat) (spare : Nat → Bool) (held : Bool) (n : Nat) (cs : List Value), cs.length = k.sz → (∀ f ∈ fs, ∃ x, DataW.trod enc P w base spare held n f.type ((cs.drop (f.offset - off)).take (P.cellsOf f.type)) = some x) → ∃ v, k.K w v cs ∧ good v
theorem opensL_one {k : Kd α} {f : Field} {off : Nat} {good : α → Prop} (ho : f.offset = off) (hc : P.cellsOf f.type = k.sz) (h : Opens P k f.type good) : OpensL P k [f] off good := by
  intro H enc w base spare held n cs hl hf
  obtain ⟨x, hx⟩ := hf f (by simp)
  rw [ho, Nat.sub_self, List.drop_zero, hc, ← hl, List.take_length] at hx
  exact h H enc w base spare held n cs x hx
theorem opensL_cons {a : Kd α} {b : Kd β} {f : Field} {fs : List Field} {off : Nat} {ga : α → Prop} {gb : β → Prop} (ho : f.offset = off) (hc : P.cellsOf f.type = a.sz) (h : Opens P a f.type ga) (hoff : ∀ g ∈ fs, off + a.sz ≤ g.offset) (hs : OpensL P b fs (off + a.sz) gb) :
    OpensL P (Kd.pair a b) (f :: fs) off (fun x => ga x.1 ∧ gb x.2) := by
  intro H enc w base spare held n cs hl hf
  have hl' : cs.length = a.sz + b.sz := hl
  obtain ⟨x, hx⟩ := hf f (by simp)
  rw [ho, Nat.sub_self, List.drop_zero, hc] at hx
  obtain ⟨v, hv, hg⟩ := h H enc w base spare held n _ x hx
  obtain ⟨u, hu, hg'⟩ := hs H enc w base spare held n (cs.drop a.sz) (by rw [List.length_drop]; omega) (fun g hg => by
    obtain ⟨y, hy⟩ := hf g (by simp [hg])
    have := hoff g hg
    refine ⟨y, ?_⟩
    rw [List.drop_drop, show a.sz + (g.offset - (off + a.sz)) = g.offset - off from by omega]
    exact hy)
  exact ⟨(v, u), ⟨_, _, (List.take_append_drop a.sz cs).symm, hv, hu⟩, hg, hg'⟩
theorem opens_struct {k : Kd α} {t : TypeId} {fs : Array Field} {good : α → Prop} (ht : P.underlying t = some (.struct fs)) (hc : P.cellsOf t = k.sz) (h : OpensL P k fs.toList 0 good) : Opens P k t good := by
  intro H enc w base spare held fuel cs x hx
  obtain ⟨xs, n, _, _, hl, hxl, hf⟩ := DataW.trod_struct ht hx
  refine h H enc w base spare held n cs (hl.trans hc) (fun f hfm => ?_)
  obtain ⟨i, hi⟩ := List.getElem?_of_mem hfm
  have hi' : fs[i]? = some f := by simpa using hi
  have hil : i < xs.length := by rw [hxl]; exact (Array.getElem?_eq_some_iff.1 hi').1
  exact ⟨xs[i]'hil, by rw [Nat.sub_zero, hf i f hi', List.getElem?_eq_getElem hil]⟩
theorem opens_iso {d : Kd α} {f : β → α} {t : TypeId} {good : α → Prop} (hf : ∀ v, ∃ x, f x = v) (h : Opens P d t good) : Opens P (Kd.iso d f) t (fun x => good (f x)) := by
  intro H enc w base spare held fuel cs x hx
  obtain ⟨v, hv, hg⟩ := h H enc w base spare held fuel cs x hx
  obtain ⟨y, rfl⟩ := hf v
  exact ⟨y, hv, hg⟩
theorem Opens.arg_struct {k : Kd α} {H : Type} {enc : TypeId × Value → H} {W : World} {b0 base : Nat} {r : Reach} {spare : Nat → Bool} {held : Bool} {t : TypeId} {fs : Array Field} {good : α → Prop} {v : Value} {q : DataW H} {p : List MemPlace} (hs : P.underlying t = some (.struct fs)) (ho : Opens P k t good)
    (hv : Value.okWide P W r b0 t v) (h : DataW.Trod enc P W base spare held t v q p) : ∃ x cs, v = .agg cs ∧ k.K W x cs.toList ∧ good x := by
  obtain ⟨cs, rfl, _⟩ := okWide_struct hs hv
  obtain ⟨fuel, hf⟩ := h
  obtain ⟨x, hK, hg⟩ := ho H enc W base spare held fuel _ _ hf
  exact ⟨x, cs, rfl, by simpa [Value.cells] using hK, hg⟩
end
end Go.Proofs.YtdfneldenipljaaDoor.L
end
section
namespace Go.Proofs.YtdfneldenipljaaDoor.L
open Go.RowKit Go.ChangeShapes Go.WideShapes Go.Proofs.YtdfneldenipljaaDoorW.PrintWords Go.Proofs.YtdfneldenipljaaDoorW.PrintLast Go.Proofs.YtdfneldenipljaaDoorW.PrintMore
attribute [local go_sem] max2_int min2_int max_two min_two max_three min_three max_four min_four
open Go.ChangeShapes Go.WideShapes Go.ChangeAt Go.RowKit
theorem own : ownKnob Tryd.prog.godebug = none := by kernel_rfl
theorem laidOut : laidOutB Tryd.prog = true := by kernel_rfl
def rowLaid : List (String × DataW Unit) := [("math/bits.deBruijn32tab", Rows.laid_math_bits_deBruijn32tab), ("math/bits.deBruijn64tab", Rows.laid_math_bits_deBruijn64tab), ("internal/strconv.uint64pow10", Rows.laid_internal_strconv_uint64pow10), ("unicode/utf8.acceptRanges", Rows.laid_unicode_utf8_acceptRanges), ("strconv.isGraphic", Rows.laid_strconv_isGraphic), ("strconv.isNotPrint16", Rows.laid_strconv_isNotPrint16), ("strconv.isNotPrint32", Rows.laid_strconv_isNotPrint32), ("strconv.isPrint16", Rows.laid_strconv_isPrint16), ("strconv.isPrint32", Rows.laid_strconv_isPrint32), ("unicode/utf8.first", Rows.laid_unicode_utf8_first)]
theorem firstD : Go.Pinned.utf8First = Lib.firstData := by kernel_rfl
theorem acceptD : (Rows.laid_unicode_utf8_acceptRanges : DataW Unit) = Lib.acceptData := by kernel_rfl
theorem p16D : Go.Pinned.isPrint16 = Lib.sliceData .u16 Lib.goPrintTabs.p16 := by kernel_rfl
theorem n16D : Go.Pinned.isNotPrint16 = Lib.sliceData .u16 Lib.goPrintTabs.n16 := by kernel_rfl
theorem p32D : Go.Pinned.isPrint32 = Lib.sliceData .u32 Lib.goPrintTabs.p32 := by kernel_rfl
theorem n32D : Go.Pinned.isNotPrint32 = Lib.sliceData .u16 Lib.goPrintTabs.n32 := by kernel_rfl
theorem utf_of_laid {W : World} (h : laidMet Tryd.prog rowLaid W) : Tabs W :=
  utf8Tabs_of_reads Tryd.lays260 ⟨by kernel_rfl, by kernel_rfl, by kernel_rfl, by kernel_rfl, by kernel_rfl, by kernel_rfl, by kernel_rfl⟩
    (firstD ▸ (Lib.laidMet.reads h (show ("unicode/utf8.first", Go.Pinned.utf8First) ∈ rowLaid from (.tail _ (.tail _ (.tail _ (.tail _ (.tail _ (.tail _ (.tail _ (.tail _ (.tail _ (.head _))))))))))))) (acceptD ▸ (Lib.laidMet.reads h (show ("unicode/utf8.acceptRanges", Rows.laid_unicode_utf8_acceptRanges) ∈ rowLaid from (.tail _ (.tail _ (.tail _ (.head _)))))))
theorem prt_of_laid {W : World} (h : laidMet Tryd.prog rowLaid W) : Lib.PrintTabsAt 5 6 7 8 Lib.goPrintTabs W :=
  printTabs_of_reads Tryd.lays339 ⟨by kernel_rfl, by kernel_rfl, by kernel_rfl, by kernel_rfl, by kernel_rfl, by kernel_rfl, by kernel_rfl, by kernel_rfl, by kernel_rfl, by kernel_rfl⟩
    (p16D ▸ (Lib.laidMet.reads h (show ("strconv.isPrint16", Go.Pinned.isPrint16) ∈ rowLaid from (.tail _ (.tail _ (.tail _ (.tail _ (.tail _ (.tail _ (.tail _ (.head _))))))))))) (n16D ▸ (Lib.laidMet.reads h (show ("strconv.isNotPrint16", Go.Pinned.isNotPrint16) ∈ rowLaid from (.tail _ (.tail _ (.tail _ (.tail _ (.tail _ (.head _))))))))) (p32D ▸ (Lib.laidMet.reads h (show ("strconv.isPrint32", Go.Pinned.isPrint32) ∈ rowLaid from (.tail _ (.tail _ (.tail _ (.tail _ (.tail _ (.tail _ (.tail _ (.tail _ (.head _)))))))))))) (n32D ▸ (Lib.laidMet.reads h (show ("strconv.isNotPrint32", Go.Pinned.isNotPrint32) ∈ rowLaid from (.tail _ (.tail _ (.tail _ (.tail _ (.tail _ (.tail _ (.head _))))))))))
theorem powD : (Rows.laid_internal_strconv_uint64pow10 : DataW Unit) = Lib.tabData .u64 Lib.pow10Tab := by kernel_rfl
theorem tabIs_reads {P : Program} {W : World} {name : String} {k : IntKind} {zs : List Int} {g : Nat} {t e : TypeId} {n : Nat}
    (hg : P.globalNamed name = some g) (hty : (P.globals[g]?).map (·.type) = some t) (ht : P.underlying t = some (.array n e)) (he : P.underlying e = some (.int k)) (hce : P.cellsOf e = 1) (hct : P.cellsOf t = n)
    (h : Lib.VarReads P W name (Lib.tabData k zs)) : Lib.TabIs P W name k zs := by
  obtain ⟨g', t', cs, fuel, p, hg', ht', hvar, hd⟩ := h
  obtain rfl := Option.some.inj (hg.symm.trans hg')
  obtain rfl := Option.some.inj (hty.symm.trans ht')
  unfold Lib.TabIs
  rw [hvar, ← Lib.cells_of_tab ht he hce hct hd]
theorem pow_of_laid {W : World} (h : laidMet Tryd.prog rowLaid W) : Lib.TabIs Tryd.prog W "internal/strconv.uint64pow10" .u64 Lib.pow10Tab :=
  tabIs_reads (g := 0) (t := (((Tryd.prog.globals[0]?).map (·.type)).getD 0)) (e := 105) (n := 20) (by kernel_rfl) (by kernel_rfl) (by kernel_rfl) (by kernel_rfl) (by kernel_rfl) (by kernel_rfl) (powD ▸ (Lib.laidMet.reads h (show ("internal/strconv.uint64pow10", Rows.laid_internal_strconv_uint64pow10) ∈ rowLaid from .tail _ (.tail _ (.head _)))))
theorem qtabs_of_laid {W : World} (h : laidMetH Tryd.prog rowLaid W) : QTabs Lib.goPrintTabs W := by
  rw [MakeChecks.laidMetH_plain _ _ _ (by kernel_rfl)] at h
  exact ⟨utf_of_laid h, prt_of_laid h, pow_of_laid h⟩
theorem laid_met (os : Os) (args : Array Value) : laidMetH Tryd.prog rowLaid ((World.laidAll Tryd.prog os rowLaid).forCall (fun _ _ => 0) ⟨#[], args, []⟩).memory := by
  rw [MakeChecks.laidMetH_plain _ _ _ (by kernel_rfl)]
  exact laidMet_laidAll _ (by kernel_rfl) (by kernel_rfl)
theorem opensL_imp {P : Program} {α : Type} {k : Kd α} {fs : List Field} {off : Nat} {good good' : α → Prop} (h : OpensL P k fs off good) (hi : ∀ v, good v → good' v) : OpensL P k fs off good' := by
  intro H enc w base spare held n cs hl hf
  obtain ⟨v, hv, hg⟩ := h H enc w base spare held n cs hl hf
  exact ⟨v, hv, hi v hg⟩
theorem opens_nodeB : Opens Tryd.prog kNode 52 NBd := by
  unfold kNode
  refine opens_iso (good := fun x : Int × List Int × List ByteArray × List Int => NBd ⟨x.1, x.2.1, x.2.2.1, x.2.2.2⟩) (fun v => ⟨⟨v.1, v.2.1, v.2.2.1, v.2.2.2⟩, rfl⟩) (opens_struct Tryd.underlying52 (by kernel_rfl) ?_)
  refine opensL_imp (opensL_cons rfl (by kernel_rfl) (opens_int Tryd.underlying3) (by decide)
    (opensL_cons rfl (by kernel_rfl) (opens_slice Tryd.underlying49 (by kernel_rfl) (opens_int Tryd.underlying2)) (by decide)
    (opensL_cons rfl (by kernel_rfl) (opens_slice Tryd.underlying50 (by kernel_rfl) (opens_string Tryd.underlying9)) (by decide)
    (opensL_one rfl (by kernel_rfl) (opens_slice Tryd.underlying31 (by kernel_rfl) (opens_int Tryd.underlying3)))))) ?_
  rintro ⟨k, i, t, q⟩ ⟨h1, h2, _⟩
  exact ⟨wf_i64 h1, fun x hx => wf_i64 (h2.2 x hx)⟩
theorem opens_sceneB : Opens Tryd.prog kScene 34 (fun s => ∀ i : Nat, i < s.nodes.length → NBd (nd s.nodes i)) := by
  unfold kScene
  refine opens_iso (good := fun x : List Node × Int => ∀ i : Nat, i < x.1.length → NBd (nd x.1 i)) (fun v => ⟨⟨v.1, v.2⟩, rfl⟩) (opens_struct Tryd.underlying34 (by kernel_rfl) ?_)
  refine opensL_imp (opensL_cons rfl (by kernel_rfl) (opens_slice Tryd.underlying32 (by kernel_rfl) opens_nodeB) (by decide)
    (opensL_one rfl (by kernel_rfl) (opens_int Tryd.underlying3))) ?_
  rintro ⟨ns, r⟩ ⟨h1, _⟩ i hi
  refine h1.2 _ ?_
  show nd ns i ∈ ns
  unfold nd
  rw [getD_eq _ hi]
  exact List.getElem_mem hi
end Go.Proofs.YtdfneldenipljaaDoor.L
end
section
namespace Go.Proofs.YtdfneldenipljaaDoor.L
open Go.RowKit Go.ChangeShapes Go.WideShapes Go.Proofs.YtdfneldenipljaaDoorW.PrintWords Go.Proofs.YtdfneldenipljaaDoorW.PrintLast Go.Proofs.YtdfneldenipljaaDoorW.PrintMore
attribute [local go_sem] max2_int min2_int max_two min_two max_three min_three max_four min_four
set_option maxRecDepth 100000 in
set_option maxHeartbeats 8000000 in
theorem requal_any (A : Option Addr) (c : Nat) (a : Scene) (B : Option Addr) (d : Nat) (b : Scene) (w : World) (h : kNode.C w A a.nodes.length a.nodes) (hc : a.nodes.length ≤ c) (h' : kNode.C w B b.nodes.length b.nodes) (hd : b.nodes.length ≤ d)
    (hFa : Fit a.nodes) (hFb : Fit b.nodes) (hRa : Right a) (hRb : Right b) :
    Calls Tryd.prog 27 #[.agg #[.slice A a.nodes.length c, .int .i64 a.root], .agg #[.slice B b.nodes.length d, .int .i64 b.root]] w fun e w' => e = .returned (.bool (eqT a b)) ∧ Below w.heap.size w w' := by
  have HR := Aside0.mk h
  have HR' := Aside0.mk h'
  have HFa := Aside0.mk hFa
  have HFb := Aside0.mk hFb
  have HRa := Aside0.mk hRa
  have HRb := Aside0.mk hRb
  have hu := Tryd.underlying34
  have hA0 := below_alloc (Below.refl w.heap.size w) (.cells #[.slice A a.nodes.length c, .int .i64 a.root] 34)
  have hA1 := below_alloc (Below.refl (w.alloc (.cells #[.slice A a.nodes.length c, .int .i64 a.root] 34)).heap.size (w.alloc (.cells #[.slice A a.nodes.length c, .int .i64 a.root] 34))) (.cells #[.slice B b.nodes.length d, .int .i64 b.root] 34)
  have HB := Aside0.mk (below_step hA0 hA1)
  have k0 := pw_cell_below hA1 (box_cell w _ rfl #[.slice A a.nodes.length c, .int .i64 a.root] 34 0 (.slice A a.nodes.length c) rfl)
  have k1 := pw_cell_below hA1 (box_cell w _ rfl #[.slice A a.nodes.length c, .int .i64 a.root] 34 1 (.int .i64 a.root) rfl)
  have q0 := box_cell (w.alloc (.cells #[.slice A a.nodes.length c, .int .i64 a.root] 34)) (w.heap.size + 1) (by simp) #[.slice B b.nodes.length d, .int .i64 b.root] 34 0 (.slice B b.nodes.length d) rfl
  have q1 := box_cell (w.alloc (.cells #[.slice A a.nodes.length c, .int .i64 a.root] 34)) (w.heap.size + 1) (by simp) #[.slice B b.nodes.length d, .int .i64 b.root] 34 1 (.int .i64 b.root) rfl
  clear h h' hFa hFb hRa hRb hA0 hA1
  go_enter Tryd.func27, Tryd.ntmps27
  go_wp2_with fail
  refine (rcanon_right A c a _ (Kd.C_below HR.out HB.out) hc HRa.out HFa.out).mono ?_
  rintro e w1 ⟨A1, c1, rfl, hR1, hB1⟩
  replace q0 := pw_cell_below hB1 q0
  replace q1 := pw_cell_below hB1 q1
  have HB1 := Aside0.mk (below_step HB.out hB1)
  have HC1 := Aside0.mk (Kd.R_reads' hR1).2.2
  have hc1 := (Kd.R_reads' hR1).2.1
  clear hB1 HB k0 k1 hR1
  obtain ⟨CA, hCA⟩ : ∃ CA, CA = canS a := ⟨_, rfl⟩
  obtain ⟨ra, hra, hran⟩ := canS_at HRa.out
  rw [hra]
  rw [← hCA] at HC1 hc1 hra hran ⊢
  have HCA := Aside0.mk hCA
  have HRA := Aside0.mk hra
  clear hCA hra
  have hA2 := below_alloc (Below.refl w1.heap.size w1) (.cells #[.slice A1 CA.nodes.length c1, .int .i64 (ra : Int)] 34)
  have x0 := box_cell w1 _ rfl #[.slice A1 CA.nodes.length c1, .int .i64 (ra : Int)] 34 0 (.slice A1 CA.nodes.length c1) rfl
  have x1 := box_cell w1 _ rfl #[.slice A1 CA.nodes.length c1, .int .i64 (ra : Int)] 34 1 (.int .i64 (ra : Int)) rfl
  replace q0 := pw_cell_below hA2 q0
  replace q1 := pw_cell_below hA2 q1
  have HB2 := Aside0.mk (below_step HB1.out hA2)
  have HC2 := Aside0.mk (Kd.C_below HC1.out hA2)
  clear hA2 HB1 HC1
  go_wp2_with fail
  generalize w1.alloc (.cells #[.slice A1 CA.nodes.length c1, .int .i64 (ra : Int)] 34) = w2 at x0 x1 q0 q1 HB2 HC2 ⊢
  refine (rcanon_right B d b w2 (Kd.C_below HR'.out HB2.out) hd HRb.out HFb.out).mono ?_
  rintro e w3 ⟨A3, c3, rfl, hR3, hB3⟩
  replace x0 := pw_cell_below hB3 x0
  replace x1 := pw_cell_below hB3 x1
  have HB3 := Aside0.mk (below_step HB2.out hB3)
  have HC3 := Aside0.mk (Kd.C_below HC2.out hB3)
  have HD3 := Aside0.mk (Kd.R_reads' hR3).2.2
  have hc3 := (Kd.R_reads' hR3).2.1
  clear hB3 HB2 HC2 hR3 q0 q1
  obtain ⟨CB, hCB⟩ : ∃ CB, CB = canS b := ⟨_, rfl⟩
  obtain ⟨rb, hrb, hrbn⟩ := canS_at HRb.out
  rw [hrb]
  rw [← hCB] at HD3 hc3 hrb hrbn ⊢
  have HCB := Aside0.mk hCB
  have HRB := Aside0.mk hrb
  clear hCB hrb
  have hA4 := below_alloc (Below.refl w3.heap.size w3) (.cells #[.slice A3 CB.nodes.length c3, .int .i64 (rb : Int)] 34)
  have y0 := box_cell w3 _ rfl #[.slice A3 CB.nodes.length c3, .int .i64 (rb : Int)] 34 0 (.slice A3 CB.nodes.length c3) rfl
  have y1 := box_cell w3 _ rfl #[.slice A3 CB.nodes.length c3, .int .i64 (rb : Int)] 34 1 (.int .i64 (rb : Int)) rfl
  replace x0 := pw_cell_below hA4 x0
  replace x1 := pw_cell_below hA4 x1
  have HB4 := Aside0.mk (below_step HB3.out hA4)
  have HC4 := Aside0.mk (Kd.C_below HC3.out hA4)
  have HD4 := Aside0.mk (Kd.C_below HD3.out hA4)
  have HFA := Aside0.mk (show Fit CA.nodes from by rw [HCA.out]; exact HFa.out.canon HRa.out)
  have HFB := Aside0.mk (show Fit CB.nodes from by rw [HCB.out]; exact HFb.out.canon HRb.out)
  have HAA := Aside0.mk (show AheadN CA.nodes from by rw [HCA.out]; exact canon_ahead HRa.out)
  have HAB := Aside0.mk (show AheadN CB.nodes from by rw [HCB.out]; exact canon_ahead HRb.out)
  have hla := HFA.out.1
  have hlb := HFB.out.1
  have HE := Aside0.mk (show ((alkT CA.nodes CB.nodes CA.nodes.length).getD ra []).getD rb false = eqT a b from by
    rw [alk_cell _ _ hran hrbn]
    have e1 : ra = a.nodes.length - 1 := by
      have h1 := HRA.out
      rw [HCA.out] at h1
      have h1 : (a.nodes.length : Int) - 1 = (ra : Int) := h1
      omega
    have e2 : rb = b.nodes.length - 1 := by
      have h1 := HRB.out
      rw [HCB.out] at h1
      have h1 : (b.nodes.length : Int) - 1 = (rb : Int) := h1
      omega
    have h2 : alkC CA.nodes CB.nodes (alkT CA.nodes CB.nodes ra) ra rb = true ↔ SameT a b := by
      rw [HCA.out, HCB.out, e1, e2]
      exact Iff.rfl
    by_cases hst : SameT a b
    · rw [eqT_yes HRa.out HRb.out hst, h2.2 hst]
    · rw [eqT_no (fun hh => hst hh.2.2)]
      exact Bool.eq_false_iff.2 (fun e => hst (h2.1 e)))
  go_wp2
  generalize w3.alloc (.cells #[.slice A3 CB.nodes.length c3, .int .i64 (rb : Int)] 34) = w4 at x0 x1 y0 y1 HB4 HC4 HD4 ⊢
  have HTr := Aside0.mk (fun (p : Nat) (hp : p < CA.nodes.length) => alkT_row CA.nodes CB.nodes hp)
  have HRn := Aside0.mk (And.intro hran hrbn)
  have HCallR := Aside0.mk (show ∀ W : World, Below w.heap.size w W → kNode.C W A1 CA.nodes.length CA.nodes → kNode.C W A3 CB.nodes.length CB.nodes → Calls Tryd.prog 20 #[.agg #[.slice A1 CA.nodes.length c1, .int .i64 (ra : Int)], .agg #[.slice A3 CB.nodes.length c3, .int .i64 (rb : Int)]] W fun e w' => ∃ A' c', e = .returned (.slice A' CA.nodes.length c') ∧ ∃ ad Bp dp ap, A' = some ad ∧ Bp = some ap ∧ w'.cell? (ad.add ra) = some (.slice Bp CB.nodes.length dp) ∧ w'.cell? (ap.add rb) = some (.bool (eqT a b)) ∧ Below W.heap.size W w' from fun W hW hCa hCb => by
    have h1 := alike_any A1 c1 CA A3 c3 CB W hCa hc1 hCb hc3 HFA.out.small (fun p hp q hq => (HAA.out p hp q hq).1) (fun p hp q hq => (HAB.out p hp q hq).1) (by omega) (by omega)
    rw [HRA.out, HRB.out] at h1
    refine h1.mono ?_
    rintro e w' ⟨A', c', rfl, -, hTab, hB⟩
    obtain ⟨ad, Bp, dp, e1, o0, -, hCp⟩ := at_bools hTab ra HRn.out.1
    rw [HTr.out ra HRn.out.1] at o0 hCp
    have hl : ((List.range CB.nodes.length).map (alkC CA.nodes CB.nodes (alkT CA.nodes CB.nodes ra) ra)).length = CB.nodes.length := by simp
    rw [hl] at o0 hCp
    obtain ⟨ap, e2, o1⟩ := at_bool hCp rb HRn.out.2
    rw [← HTr.out ra HRn.out.1, HE.out] at o1
    exact ⟨A', c', rfl, ad, Bp, dp, ap, e1, e2, o0, o1, hB⟩)
  have z0 : w4.drew.cell? ⟨w1.heap.size, 0, none⟩ = some (.slice A1 CA.nodes.length c1) := x0
  have z1 : w4.drew.cell? ⟨w1.heap.size, 1, none⟩ = some (.int .i64 (ra : Int)) := x1
  have z2 : w4.drew.cell? ⟨w3.heap.size, 0, none⟩ = some (.slice A3 CB.nodes.length c3) := y0
  have z3 : w4.drew.cell? ⟨w3.heap.size, 1, none⟩ = some (.int .i64 (rb : Int)) := y1
  have HBd := Aside0.mk (below_drew HB4.out)
  have HCd := Aside0.mk (Kd.C_drew HC4.out)
  have HDd := Aside0.mk (Kd.C_drew HD4.out)
  have hia : (ra : Int) < (CA.nodes.length : Int) := by omega
  have hib : (rb : Int) < (CB.nodes.length : Int) := by omega
  clear hA4 hran hrbn HC4 HD4 HB4
  have HX := Aside0.mk (And.intro z0 (And.intro z1 (And.intro z2 z3)))
  clear HR HR' HFa HFb HRa HRb HCA HRA HCB HRB HFA HFB HAA HAB HE HTr HRn x0 x1 y0 y1 hla hlb hc1 hc3 hc hd
  go_region_with (first
    | (go_at_call 20; refine (HCallR.out w4.drew HBd.out HCd.out HDd.out).mono ?_; rintro e w8 ⟨A8, c8, rfl, ad8, Bp, dp, ap, rfl, rfl, t0, t1, hB8⟩; have z08 := pw_cell_below hB8 HX.out.1; have z18 := pw_cell_below hB8 HX.out.2.1; have z28 := pw_cell_below hB8 HX.out.2.2.1; have z38 := pw_cell_below hB8 HX.out.2.2.2; have HB8 := Aside0.mk (below_step HBd.out hB8)))
  all_goals
    go_wp2
    go_ret
    exact ⟨rfl, HB8.out⟩
end Go.Proofs.YtdfneldenipljaaDoor.L
end
section
namespace Go.Proofs.YtdfneldenipljaaDoor.L
open Go.RowKit Go.ChangeShapes Go.WideShapes Go.Proofs.YtdfneldenipljaaDoorW.PrintWords Go.Proofs.YtdfneldenipljaaDoorW.PrintLast Go.Proofs.YtdfneldenipljaaDoorW.PrintMore
attribute [local go_sem] max2_int min2_int max_two min_two max_three min_three max_four min_four
theorem eqT_symm (a b : Scene) : eqT a b = eqT b a := by
  cases h : eqT b a with
  | true =>
    by_cases hh : Right b ∧ Right a ∧ SameT b a
    · exact eqT_yes hh.2.1 hh.1 (hh.2.2.symm hh.1 hh.2.1)
    · rw [eqT_no hh] at h; cases h
  | false => exact eqT_no (fun hh => by rw [eqT_yes hh.2.1 hh.1 (hh.2.2.symm hh.1 hh.2.1)] at h; cases h)
set_option maxRecDepth 100000 in
set_option maxHeartbeats 8000000 in
theorem unfoldEqual_any (T : Lib.PrintTabs) (A : Option Addr) (c : Nat) (a : Scene) (B : Option Addr) (d : Nat) (b : Scene) (w : World) (h : kNode.C w A a.nodes.length a.nodes) (hc : a.nodes.length ≤ c) (h' : kNode.C w B b.nodes.length b.nodes) (hd : b.nodes.length ≤ d)
    (hNa : ∀ i : Nat, i < a.nodes.length → NBd (nd a.nodes i)) (hNb : ∀ i : Nat, i < b.nodes.length → NBd (nd b.nodes i)) (hT : QTabs T w) :
    Calls Tryd.prog 8 #[.agg #[.slice A a.nodes.length c, .int .i64 a.root], .agg #[.slice B b.nodes.length d, .int .i64 b.root]] w fun e w' => e = .returned (.bool true) ∧ Below w.heap.size w w' := by
  have HR := Aside0.mk h
  have HR' := Aside0.mk h'
  have HT := Aside0.mk hT
  have HNa := Aside0.mk hNa
  have HNb := Aside0.mk hNb
  have hA0 := below_alloc (Below.refl w.heap.size w) (.cells #[.slice A a.nodes.length c, .int .i64 a.root] 34)
  have hA1 := below_alloc (Below.refl (w.alloc (.cells #[.slice A a.nodes.length c, .int .i64 a.root] 34)).heap.size (w.alloc (.cells #[.slice A a.nodes.length c, .int .i64 a.root] 34))) (.cells #[.slice B b.nodes.length d, .int .i64 b.root] 34)
  have HB := Aside0.mk (below_step hA0 hA1)
  have k0 := pw_cell_below hA1 (box_cell w _ rfl #[.slice A a.nodes.length c, .int .i64 a.root] 34 0 (.slice A a.nodes.length c) rfl)
  have k1 := pw_cell_below hA1 (box_cell w _ rfl #[.slice A a.nodes.length c, .int .i64 a.root] 34 1 (.int .i64 a.root) rfl)
  have q0 := box_cell (w.alloc (.cells #[.slice A a.nodes.length c, .int .i64 a.root] 34)) (w.heap.size + 1) (by simp) #[.slice B b.nodes.length d, .int .i64 b.root] 34 0 (.slice B b.nodes.length d) rfl
  have q1 := box_cell (w.alloc (.cells #[.slice A a.nodes.length c, .int .i64 a.root] 34)) (w.heap.size + 1) (by simp) #[.slice B b.nodes.length d, .int .i64 b.root] 34 1 (.int .i64 b.root) rfl
  have hu := Tryd.underlying34
  clear h h' hT hNa hNb hA0 hA1
  go_enter Tryd.func8, Tryd.ntmps8
  go_wp2_with fail
  refine (uawake_any T _ (HT.out.below HB.out)).mono ?_
  rintro e w1 ⟨rfl, hB1⟩
  replace k0 := pw_cell_below hB1 k0
  replace k1 := pw_cell_below hB1 k1
  replace q0 := pw_cell_below hB1 q0
  replace q1 := pw_cell_below hB1 q1
  have HB1 := Aside0.mk (below_step HB.out hB1)
  clear hB1
  go_wp2_with fail
  refine (greatS_any A c a _ (Kd.C_below HR.out HB1.out)).mono ?_
  rintro e w2 ⟨rfl, hB2⟩
  replace k0 := pw_cell_below hB2 k0
  replace k1 := pw_cell_below hB2 k1
  replace q0 := pw_cell_below hB2 q0
  replace q1 := pw_cell_below hB2 q1
  have HB2 := Aside0.mk (below_step HB1.out hB2)
  clear hB2
  cases hga : greatS a with
  | true =>
    clear hga
    go_wp2_with fail
    refine (uawake_any T _ (HT.out.below HB2.out)).mono ?_
    rintro e w3 ⟨rfl, hB3⟩
    have HB3 := Aside0.mk (below_step HB2.out hB3)
    clear hB3 k0 k1 q0 q1
    go_wp2
    go_ret
    exact ⟨rfl, HB3.out⟩
  | false =>
    have HFa := Aside0.mk (fit_of_great hga HNa.out)
    clear hga
    go_wp2_with fail
    refine (greatS_any B d b _ (Kd.C_below HR'.out HB2.out)).mono ?_
    rintro e w3 ⟨rfl, hB3⟩
    replace k0 := pw_cell_below hB3 k0
    replace k1 := pw_cell_below hB3 k1
    replace q0 := pw_cell_below hB3 q0
    replace q1 := pw_cell_below hB3 q1
    have HB3 := Aside0.mk (below_step HB2.out hB3)
    clear hB3
    cases hgb : greatS b with
    | true =>
      clear hgb
      go_wp2_with fail
      refine (uawake_any T _ (HT.out.below HB3.out)).mono ?_
      rintro e w4 ⟨rfl, hB4⟩
      have HB4 := Aside0.mk (below_step HB3.out hB4)
      clear hB4 k0 k1 q0 q1
      go_wp2
      go_ret
      exact ⟨rfl, HB4.out⟩
    | false =>
      have HFb := Aside0.mk (fit_of_great hgb HNb.out)
      clear hgb
      have HX := Aside0.mk (And.intro k0 (And.intro k1 (And.intro q0 q1)))
      have HBd := Aside0.mk (below_drew HB3.out)
      have HCa := Aside0.mk (fun (W : World) (hW : Below w.heap.size w W) => scopy_any A c a W (Kd.C_below HR.out hW) hc (by have := HFa.out.1; omega) HFa.out.small)
      have HCb := Aside0.mk (fun (W : World) (hW : Below w.heap.size w W) => scopy_any B d b W (Kd.C_below HR'.out hW) hd (by have := HFb.out.1; omega) HFb.out.small)
      go_wp2
      go_region_with (first
        | (go_at_call 25; (with_reducible refine (HCa.out w3.drew HBd.out).mono ?_); rintro e wp ⟨A6, c6, rfl, hc6, hC6, hB6⟩; have q0p := pw_cell_below hB6 (show World.cell? (World.drew _) _ = _ from HX.out.2.2.1); have q1p := pw_cell_below hB6 (show World.cell? (World.drew _) _ = _ from HX.out.2.2.2); have HBp := Aside0.mk (below_step HBd.out hB6); have HSp := Aside0.mk (below_step (below_drew (Below.refl _ _)) hB6); have HC6 := Aside0.mk hC6; clear hC6 hB6)
        | (go_at_call 25; (with_reducible refine (HCb.out w3.drew HBd.out).mono ?_); rintro e wq ⟨B6, d6, rfl, hd6, hD6, hB6⟩; have k0p := pw_cell_below hB6 (show World.cell? (World.drew _) _ = _ from HX.out.1); have k1p := pw_cell_below hB6 (show World.cell? (World.drew _) _ = _ from HX.out.2.1); have HBq := Aside0.mk (below_step HBd.out hB6); have HSq := Aside0.mk (below_step (below_drew (Below.refl _ _)) hB6); have HD6 := Aside0.mk hD6; clear hD6 hB6)
        | (go_at_call 25; (with_reducible refine (HCb.out wp HBp.out).mono ?_); rintro e w7 ⟨B7, d7, rfl, hd7, hD7, hB7⟩; have HC7 := Aside0.mk (Kd.C_below HC6.out hB7); have HD7 := Aside0.mk hD7; have HB7 := Aside0.mk (below_step HBp.out hB7); have HS7 := Aside0.mk (below_step HSp.out hB7); clear hD7 hB7)
        | (go_at_call 25; (with_reducible refine (HCa.out wq HBq.out).mono ?_); rintro e w7 ⟨A7, c7, rfl, hc7, hC7, hB7⟩; have HD7 := Aside0.mk (Kd.C_below HD6.out hB7); have HC7 := Aside0.mk hC7; have HB7 := Aside0.mk (below_step HBq.out hB7); have HS7 := Aside0.mk (below_step HSq.out hB7); clear hC7 hB7)
        | (go_at_call 24; (with_reducible refine (uequal_any T A6 c6 a B7 d7 b w7 HC7.out hc6 HD7.out hd7 HFa.out HFb.out (HT.out.below HB7.out)).mono ?_); rintro e w8 ⟨rfl, hB8⟩; have HB8 := Aside0.mk (below_step HB7.out hB8); have HS8 := Aside0.mk (below_step HS7.out hB8); clear hB8)
        | (go_at_call 24; (with_reducible refine (uequal_any T A7 c7 a B6 d6 b w7 HC7.out hc7 HD7.out hd6 HFa.out HFb.out (HT.out.below HB7.out)).mono ?_); rintro e w8 ⟨rfl, hB8⟩; have HB8 := Aside0.mk (below_step HB7.out hB8); have HS8 := Aside0.mk (below_step HS7.out hB8); clear hB8))
      all_goals
        replace k0 := pw_cell_below HS8.out k0
        replace k1 := pw_cell_below HS8.out k1
        replace q0 := pw_cell_below HS8.out q0
        replace q1 := pw_cell_below HS8.out q1
        clear HS8
        have HE := Aside0.mk (And.intro (eqT_symm a b) (fun h => eqT_no (a := a) (b := b) h))
        generalize hE : eqT a b = E at HE ⊢
        have HEe := Aside0.mk hE
        clear hE
        go_wp2_with fail
        refine (rright_any A c a _ (Kd.C_below HR.out HB8.out) hc (by have := HFa.out.rows; omega)).mono ?_
        rintro e w9 ⟨rfl, hB9⟩
        replace k0 := pw_cell_below hB9 k0
        replace k1 := pw_cell_below hB9 k1
        replace q0 := pw_cell_below hB9 q0
        replace q1 := pw_cell_below hB9 q1
        have HB9 := Aside0.mk (below_step HB8.out hB9)
        clear hB9
        cases hra : rightB a with
        | false =>
          have hEf : E = false := HE.out.2 (fun hh => rightB_no hra hh.1)
          subst hEf
          clear hra k0 k1 q0 q1
          go_wp2
          go_ret
          exact ⟨rfl, HB9.out⟩
        | true =>
          have HRa := Aside0.mk (rightB_yes hra)
          clear hra
          go_wp2_with fail
          refine (rright_any B d b _ (Kd.C_below HR'.out HB9.out) hd (by have := HFb.out.rows; omega)).mono ?_
          rintro e w10 ⟨rfl, hB10⟩
          replace k0 := pw_cell_below hB10 k0
          replace k1 := pw_cell_below hB10 k1
          replace q0 := pw_cell_below hB10 q0
          replace q1 := pw_cell_below hB10 q1
          have HB10 := Aside0.mk (below_step HB9.out hB10)
          clear hB10
          cases hrb : rightB b with
          | false =>
            have hEf : E = false := HE.out.2 (fun hh => rightB_no hrb hh.2.1)
            subst hEf
            clear hrb k0 k1 q0 q1
            go_wp2
            go_ret
            exact ⟨rfl, HB10.out⟩
          | true =>
            have HRb := Aside0.mk (rightB_yes hrb)
            clear hrb
            go_wp2_with fail
            refine (requal_any A c a B d b _ (Kd.C_below HR.out HB10.out) hc (Kd.C_below HR'.out HB10.out) hd HFa.out HFb.out HRa.out HRb.out).mono ?_
            rw [HEe.out]
            rintro e w11 ⟨rfl, hB11⟩
            replace k0 := pw_cell_below hB11 k0
            replace k1 := pw_cell_below hB11 k1
            replace q0 := pw_cell_below hB11 q0
            replace q1 := pw_cell_below hB11 q1
            have HB11 := Aside0.mk (below_step HB10.out hB11)
            have hEE : (E == E) = true := by simp
            clear hB11
            go_wp2_with fail
            refine (uequal_any T B d b A c a _ (Kd.C_below HR'.out HB11.out) hd (Kd.C_below HR.out HB11.out) hc HFb.out HFa.out (HT.out.below HB11.out)).mono ?_
            rw [← HE.out.1]
            rintro e w12 ⟨rfl, hB12⟩
            have HB12 := Aside0.mk (below_step HB11.out hB12)
            clear hB12 k0 k1 q0 q1
            go_wp2
            go_ret
            exact ⟨rfl, HB12.out⟩
end Go.Proofs.YtdfneldenipljaaDoor.L
end
section
namespace Go.Proofs.YtdfneldenipljaaDoor.L
open Go.RowKit Go.ChangeShapes Go.WideShapes Go.Proofs.YtdfneldenipljaaDoorW.PrintWords Go.Proofs.YtdfneldenipljaaDoorW.PrintLast Go.Proofs.YtdfneldenipljaaDoorW.PrintMore
attribute [local go_sem] max2_int min2_int max_two min_two max_three min_three max_four min_four
theorem fields_eq (T : Lib.PrintTabs) {a b : Scene} (ha : Right a) (hb : Right b) : sameS (shareS T a) (shareS T b) = eqT a b := by
  by_cases h : SameT a b
  · rw [eqT_yes ha hb h]
    exact sameS_yes (share_eq T ha hb h)
  · rw [eqT_no (fun hh => h hh.2.2)]
    exact sameS_no (fun e => h (share_conv ha hb e))
set_option maxRecDepth 100000 in
set_option maxHeartbeats 8000000 in
theorem unfoldFields_any (T : Lib.PrintTabs) (A : Option Addr) (c : Nat) (a : Scene) (B : Option Addr) (d : Nat) (b : Scene) (w : World) (h : kNode.C w A a.nodes.length a.nodes) (hc : a.nodes.length ≤ c) (h' : kNode.C w B b.nodes.length b.nodes) (hd : b.nodes.length ≤ d)
    (hNa : ∀ i : Nat, i < a.nodes.length → NBd (nd a.nodes i)) (hNb : ∀ i : Nat, i < b.nodes.length → NBd (nd b.nodes i)) (hT : QTabs T w) :
    Calls Tryd.prog 11 #[.agg #[.slice A a.nodes.length c, .int .i64 a.root], .agg #[.slice B b.nodes.length d, .int .i64 b.root]] w fun e w' => e = .returned (.bool true) ∧ Below w.heap.size w w' := by
  have HR := Aside0.mk h
  have HR' := Aside0.mk h'
  have HT := Aside0.mk hT
  have HNa := Aside0.mk hNa
  have HNb := Aside0.mk hNb
  have hA0 := below_alloc (Below.refl w.heap.size w) (.cells #[.slice A a.nodes.length c, .int .i64 a.root] 34)
  have hA1 := below_alloc (Below.refl (w.alloc (.cells #[.slice A a.nodes.length c, .int .i64 a.root] 34)).heap.size (w.alloc (.cells #[.slice A a.nodes.length c, .int .i64 a.root] 34))) (.cells #[.slice B b.nodes.length d, .int .i64 b.root] 34)
  have HB := Aside0.mk (below_step hA0 hA1)
  have k0 := pw_cell_below hA1 (box_cell w _ rfl #[.slice A a.nodes.length c, .int .i64 a.root] 34 0 (.slice A a.nodes.length c) rfl)
  have k1 := pw_cell_below hA1 (box_cell w _ rfl #[.slice A a.nodes.length c, .int .i64 a.root] 34 1 (.int .i64 a.root) rfl)
  have q0 := box_cell (w.alloc (.cells #[.slice A a.nodes.length c, .int .i64 a.root] 34)) (w.heap.size + 1) (by simp) #[.slice B b.nodes.length d, .int .i64 b.root] 34 0 (.slice B b.nodes.length d) rfl
  have q1 := box_cell (w.alloc (.cells #[.slice A a.nodes.length c, .int .i64 a.root] 34)) (w.heap.size + 1) (by simp) #[.slice B b.nodes.length d, .int .i64 b.root] 34 1 (.int .i64 b.root) rfl
  have hu := Tryd.underlying34
  clear h h' hT hNa hNb hA0 hA1
  go_enter Tryd.func11, Tryd.ntmps11
  go_wp2_with fail
  refine (uawake_any T _ (HT.out.below HB.out)).mono ?_
  rintro e w1 ⟨rfl, hB1⟩
  replace k0 := pw_cell_below hB1 k0
  replace k1 := pw_cell_below hB1 k1
  replace q0 := pw_cell_below hB1 q0
  replace q1 := pw_cell_below hB1 q1
  have HB1 := Aside0.mk (below_step HB.out hB1)
  clear hB1
  go_wp2_with fail
  refine (greatS_any A c a _ (Kd.C_below HR.out HB1.out)).mono ?_
  rintro e w2 ⟨rfl, hB2⟩
  replace k0 := pw_cell_below hB2 k0
  replace k1 := pw_cell_below hB2 k1
  replace q0 := pw_cell_below hB2 q0
  replace q1 := pw_cell_below hB2 q1
  have HB2 := Aside0.mk (below_step HB1.out hB2)
  clear hB2
  cases hga : greatS a with
  | true =>
    clear hga
    go_wp2_with fail
    refine (uawake_any T _ (HT.out.below HB2.out)).mono ?_
    rintro e w3 ⟨rfl, hB3⟩
    have HB3 := Aside0.mk (below_step HB2.out hB3)
    clear hB3 k0 k1 q0 q1
    go_wp2
    go_ret
    exact ⟨rfl, HB3.out⟩
  | false =>
    have HFa := Aside0.mk (fit_of_great hga HNa.out)
    clear hga
    go_wp2_with fail
    refine (greatS_any B d b _ (Kd.C_below HR'.out HB2.out)).mono ?_
    rintro e w3 ⟨rfl, hB3⟩
    replace k0 := pw_cell_below hB3 k0
    replace k1 := pw_cell_below hB3 k1
    replace q0 := pw_cell_below hB3 q0
    replace q1 := pw_cell_below hB3 q1
    have HB3 := Aside0.mk (below_step HB2.out hB3)
    clear hB3
    cases hgb : greatS b with
    | true =>
      clear hgb
      go_wp2_with fail
      refine (uawake_any T _ (HT.out.below HB3.out)).mono ?_
      rintro e w4 ⟨rfl, hB4⟩
      have HB4 := Aside0.mk (below_step HB3.out hB4)
      clear hB4 k0 k1 q0 q1
      go_wp2
      go_ret
      exact ⟨rfl, HB4.out⟩
    | false =>
      have HFb := Aside0.mk (fit_of_great hgb HNb.out)
      clear hgb
      go_wp2_with fail
      refine (rright_any A c a _ (Kd.C_below HR.out HB3.out) hc (by have := HFa.out.rows; omega)).mono ?_
      rintro e w4 ⟨rfl, hB4⟩
      replace k0 := pw_cell_below hB4 k0
      replace k1 := pw_cell_below hB4 k1
      replace q0 := pw_cell_below hB4 q0
      replace q1 := pw_cell_below hB4 q1
      have HB4 := Aside0.mk (below_step HB3.out hB4)
      clear hB4
      cases hra : rightB a with
      | false =>
        clear hra
        go_wp2_with fail
        refine (uawake_any T _ (HT.out.below HB4.out)).mono ?_
        rintro e w5 ⟨rfl, hB5⟩
        have HB5 := Aside0.mk (below_step HB4.out hB5)
        clear hB5 k0 k1 q0 q1
        go_wp2
        go_ret
        exact ⟨rfl, HB5.out⟩
      | true =>
        have HRa := Aside0.mk (rightB_yes hra)
        clear hra
        go_wp2_with fail
        refine (rright_any B d b _ (Kd.C_below HR'.out HB4.out) hd (by have := HFb.out.rows; omega)).mono ?_
        rintro e w5 ⟨rfl, hB5⟩
        replace k0 := pw_cell_below hB5 k0
        replace k1 := pw_cell_below hB5 k1
        replace q0 := pw_cell_below hB5 q0
        replace q1 := pw_cell_below hB5 q1
        have HB5 := Aside0.mk (below_step HB4.out hB5)
        clear hB5
        cases hrb : rightB b with
        | false =>
          clear hrb
          go_wp2_with fail
          refine (uawake_any T _ (HT.out.below HB5.out)).mono ?_
          rintro e w6 ⟨rfl, hB6⟩
          have HB6 := Aside0.mk (below_step HB5.out hB6)
          clear hB6 k0 k1 q0 q1
          go_wp2
          go_ret
          exact ⟨rfl, HB6.out⟩
        | true =>
          have HRb := Aside0.mk (rightB_yes hrb)
          clear hrb
          have HFd := Aside0.mk (fields_eq T HRa.out HRb.out)
          have HSa := Aside0.mk (show shR T a = shareS T a from shR_yes HRa.out)
          have HSb := Aside0.mk (show shR T b = shareS T b from shR_yes HRb.out)
          have HFX := Aside0.mk (HFa.out.share T HRa.out)
          have HZa := Aside0.mk (gcheck_right.2 HRa.out)
          have HZb := Aside0.mk (gcheck_right.2 HRb.out)
          go_wp2_with fail
          refine (ushare_any T A c a _ (Kd.C_below HR.out HB5.out) hc HFa.out (HT.out.below HB5.out)).mono ?_
          rw [HSa.out, HZa.out]
          rintro e w6 ⟨A6, c6, rfl, hR6, hB6⟩
          replace k0 := pw_cell_below hB6 k0
          replace k1 := pw_cell_below hB6 k1
          replace q0 := pw_cell_below hB6 q0
          replace q1 := pw_cell_below hB6 q1
          have HB6 := Aside0.mk (below_step HB5.out hB6)
          clear hB6
          have HX6 := Aside0.mk (Kd.R_reads' hR6).2.2
          clear hR6
          generalize shareS T a = X at HFd HFX HX6 ⊢
          have x0 := box_cell w6 _ rfl #[.slice A6 X.nodes.length c6, .int .i64 X.root] 34 0 (.slice A6 X.nodes.length c6) rfl
          have x1 := box_cell w6 _ rfl #[.slice A6 X.nodes.length c6, .int .i64 X.root] 34 1 (.int .i64 X.root) rfl
          have hB7 := below_alloc (Below.refl w6.heap.size w6) (.cells #[.slice A6 X.nodes.length c6, .int .i64 X.root] 34)
          have HX7 := Aside0.mk (Kd.C_below HX6.out hB7)
          replace k0 := pw_cell_below hB7 k0
          replace k1 := pw_cell_below hB7 k1
          replace q0 := pw_cell_below hB7 q0
          replace q1 := pw_cell_below hB7 q1
          have HB7 := Aside0.mk (below_step HB6.out hB7)
          clear hB7
          clear HX6
          go_wp2_with fail
          generalize w6.alloc (.cells #[.slice A6 X.nodes.length c6, .int .i64 X.root] 34) = w7 at k0 k1 q0 q1 x0 x1 HB7 HX7 ⊢
          refine (ushare_any T B d b w7 (Kd.C_below HR'.out HB7.out) hd HFb.out (HT.out.below HB7.out)).mono ?_
          rw [HSb.out, HZb.out]
          rintro e w8 ⟨B8, d8, rfl, hR8, hB8⟩
          replace x0 := pw_cell_below hB8 x0
          replace x1 := pw_cell_below hB8 x1
          have HX8 := Aside0.mk (Kd.C_below HX7.out hB8)
          replace k0 := pw_cell_below hB8 k0
          replace k1 := pw_cell_below hB8 k1
          replace q0 := pw_cell_below hB8 q0
          replace q1 := pw_cell_below hB8 q1
          have HB8 := Aside0.mk (below_step HB7.out hB8)
          clear hB8
          have HY8 := Aside0.mk (Kd.R_reads' hR8).2.2
          clear hR8 HX7
          generalize shareS T b = Y at HFd HY8 ⊢
          have y0 := box_cell w8 _ rfl #[.slice B8 Y.nodes.length d8, .int .i64 Y.root] 34 0 (.slice B8 Y.nodes.length d8) rfl
          have y1 := box_cell w8 _ rfl #[.slice B8 Y.nodes.length d8, .int .i64 Y.root] 34 1 (.int .i64 Y.root) rfl
          have hB9 := below_alloc (Below.refl w8.heap.size w8) (.cells #[.slice B8 Y.nodes.length d8, .int .i64 Y.root] 34)
          have HX9 := Aside0.mk (Kd.C_below HX8.out hB9)
          have HY9 := Aside0.mk (Kd.C_below HY8.out hB9)
          replace x0 := pw_cell_below hB9 x0
          replace x1 := pw_cell_below hB9 x1
          replace k0 := pw_cell_below hB9 k0
          replace k1 := pw_cell_below hB9 k1
          replace q0 := pw_cell_below hB9 q0
          replace q1 := pw_cell_below hB9 q1
          have HB9 := Aside0.mk (below_step HB8.out hB9)
          clear hB9
          clear HX8 HY8
          go_wp2
          generalize w8.alloc (.cells #[.slice B8 Y.nodes.length d8, .int .i64 Y.root] 34) = w9 at k0 k1 q0 q1 x0 x1 y0 y1 HB9 HX9 HY9 ⊢
          have z0 : w9.drew.cell? ⟨w.heap.size, 0, none⟩ = some (.slice A a.nodes.length c) := k0
          have z1 : w9.drew.cell? ⟨w.heap.size, 1, none⟩ = some (.int .i64 a.root) := k1
          have z2 : w9.drew.cell? ⟨w.heap.size + 1, 0, none⟩ = some (.slice B b.nodes.length d) := q0
          have z3 : w9.drew.cell? ⟨w.heap.size + 1, 1, none⟩ = some (.int .i64 b.root) := q1
          have z4 : w9.drew.cell? ⟨w6.heap.size, 0, none⟩ = some (.slice A6 X.nodes.length c6) := x0
          have z5 : w9.drew.cell? ⟨w6.heap.size, 1, none⟩ = some (.int .i64 X.root) := x1
          have z6 : w9.drew.cell? ⟨w8.heap.size, 0, none⟩ = some (.slice B8 Y.nodes.length d8) := y0
          have z7 : w9.drew.cell? ⟨w8.heap.size, 1, none⟩ = some (.int .i64 Y.root) := y1
          have HCe := Aside0.mk (fun (W : World) (hW : Below w9.drew.heap.size w9.drew W) => uequal_any T A c a B d b W (Kd.C_below HR.out (below_step (below_drew HB9.out) hW)) hc (Kd.C_below HR'.out (below_step (below_drew HB9.out) hW)) hd HFa.out HFb.out (HT.out.below (below_step (below_drew HB9.out) hW)))
          have HCs := Aside0.mk (fun (W : World) (hW : Below w9.drew.heap.size w9.drew W) => (show Calls Tryd.prog 34 #[.agg #[.slice A6 X.nodes.length c6, .int .i64 X.root], .agg #[.slice B8 Y.nodes.length d8, .int .i64 Y.root]] W fun e w' => e = .returned (.bool (eqT a b)) ∧ Below W.heap.size W w' from by
            have h1 := sameS_any A6 c6 X B8 d8 Y W (Kd.C_below (Kd.C_drew HX9.out) hW) (Kd.C_below (Kd.C_drew HY9.out) hW) HFX.out.small
            rw [HFd.out] at h1
            exact h1))
          have HBd := Aside0.mk (below_drew HB9.out)
          clear k0 k1 q0 q1 x0 x1 y0 y1
          generalize eqT a b = E at HCe HCs
          have hEE : (E == E) = true := by simp
          go_region_held3 (fun W => W.cell? ⟨w.heap.size, 0, none⟩ = some (.slice A a.nodes.length c) ∧ W.cell? ⟨w.heap.size, 1, none⟩ = some (.int .i64 a.root) ∧ W.cell? ⟨w.heap.size + 1, 0, none⟩ = some (.slice B b.nodes.length d) ∧ W.cell? ⟨w.heap.size + 1, 1, none⟩ = some (.int .i64 b.root) ∧ W.cell? ⟨w6.heap.size, 0, none⟩ = some (.slice A6 X.nodes.length c6) ∧ W.cell? ⟨w6.heap.size, 1, none⟩ = some (.int .i64 X.root) ∧ W.cell? ⟨w8.heap.size, 0, none⟩ = some (.slice B8 Y.nodes.length d8) ∧ W.cell? ⟨w8.heap.size, 1, none⟩ = some (.int .i64 Y.root))
            (first
              | (go_split_ands
                 (repeat' apply And.intro)
                 all_goals first
                   | with_reducible assumption
                   | with_reducible exact pw_cell_below hBe (by assumption)
                   | with_reducible exact pw_cell_below hBs (by assumption)
                   | with_reducible exact pw_cell_below hBf (by assumption)
                   | (simp [*]; done)))
            (first
              | (go_at_call 24; (with_reducible refine (HCe.out w9.drew (Below.refl _ _)).mono ?_); rintro e we ⟨rfl, hBe⟩)
              | (go_at_call 34; (with_reducible refine (HCs.out w9.drew (Below.refl _ _)).mono ?_); rintro e ws ⟨rfl, hBs⟩)
              | (go_at_call 24; (with_reducible refine (HCe.out ws hBs).mono ?_); rintro e wf ⟨rfl, hBf⟩; have HBf := Aside0.mk (below_step (below_step HBd.out hBs) hBf))
              | (go_at_call 34; (with_reducible refine (HCs.out we hBe).mono ?_); rintro e wf ⟨rfl, hBf⟩; have HBf := Aside0.mk (below_step (below_step HBd.out hBe) hBf)))
          all_goals
            go_wp2
            go_ret
            exact ⟨rfl, HBf.out⟩
end Go.Proofs.YtdfneldenipljaaDoor.L
end
