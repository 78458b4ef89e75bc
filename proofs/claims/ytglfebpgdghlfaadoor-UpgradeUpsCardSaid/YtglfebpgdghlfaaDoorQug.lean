/- Any scene of version 1 becomes by upgrade.Up the scene that the document says, or none, for the reason that it says; conditions: none (every scene; the two tables of unicode/utf8 read as the program's text lays them, and the card ties that). Conditions: those that each theorem states. -/
import Derived.Test.YtglfebpgdghlfaaDoorQuf
import Derived.Test.YtglfebpgdghlfaaDoorCards
import Derived.Test.YtglfebpgdghlfaaDoorTie
import Derived.OpenShut
import Derived.ChangeOld
import Derived.SizedLaws
import Derived.LaidMore
import Derived.Lay
import Derived.SevenTiedAt
import Derived.Stop.Joined
import Derived.Lib.LaidU8
set_option linter.unusedVariables false
set_option linter.unusedSimpArgs false
section
namespace Go.Proofs.YtglfebpgdghlfaaDoor.L
open Go.RowKit Go.ChangeShapes Go.WideShapes Go.Proofs.YtglfebpgdghlfaaDoorW.PrintWords Go.Proofs.YtglfebpgdghlfaaDoorW.PrintLast Go.Proofs.YtglfebpgdghlfaaDoorW.PrintMore
attribute [local go_sem] max2_int min2_int max_two min_two max_three min_three max_four min_four
open Go.Proofs.YtglfebpgdghlfaaDoor.PUpgradeUps
def findI (l : List Int) (a : Int) : Int := if a ∈ l then (l.idxOf a : Int) else -1
theorem find_l0 (l : List Int) (a : Int) (hl : l.length ≤ 1000000) : ∀ (m i : Nat), l.length ≤ i + m → i ≤ l.length → (∀ j : Nat, j < i → ¬ rd l (j : Int) = a) → dioramaref10_Find.l0 (m + 1) l a (i : Int) = some (findI l a)
  | 0, i, h1, h2, h3 => by
    rw [dioramaref10_Find.l0, if_neg (by omega)]
    have : ¬ a ∈ l := fun hm => by
      obtain ⟨j, hj⟩ := List.getElem?_of_mem hm
      have hjl := (List.getElem?_eq_some_iff.1 hj).1
      refine h3 j (by omega) ?_
      unfold rd
      rw [Int.toNat_natCast, List.getD_eq_getElem?_getD, hj]; rfl
    unfold findI
    rw [if_neg this]
  | m + 1, i, h1, h2, h3 => by
    by_cases hi : i < l.length
    · rw [dioramaref10_Find.l0, if_pos (by omega), if_pos (Int.natCast_nonneg i)]
      by_cases he : rd l (i : Int) = a
      · rw [if_pos he]
        have hg : l[i] = a := by rw [← he, rd_eq hi]
        have hm : a ∈ l := by rw [← hg]; exact List.getElem_mem hi
        unfold findI
        rw [if_pos hm]
        have h4 : l.idxOf a ≤ i := by
          refine Nat.le_of_not_lt (fun hlt => ?_)
          have := List.not_of_lt_findIdx (p := fun x => x == a) (xs := l) hlt
          simp [hg] at this
        have h5 : l.idxOf a = i := by
          refine Nat.le_antisymm h4 (Nat.le_of_not_lt (fun hlt => ?_))
          have h6 : l.idxOf a < l.length := by omega
          refine h3 _ hlt ?_
          rw [rd_eq h6]
          exact List.getElem_idxOf h6
        rw [h5]
      · rw [if_neg he, wrap64_in ((i : Int) + 1) (by omega), show (i : Int) + 1 = ((i + 1 : Nat) : Int) from rfl]
        exact find_l0 l a hl m (i + 1) (by omega) (by omega) (ext_lt (P := fun j : Nat => ¬ rd l (j : Int) = a) h3 he)
    · have := find_l0 l a hl m i (by omega) h2 h3
      rw [dioramaref10_Find.l0, if_neg (by omega)]
      rw [dioramaref10_Find.l0.eq_def] at this
      cases m with
      | zero => simpa [show ¬ ((i : Int) < (l.length : Int)) by omega] using this
      | succ m => simpa [show ¬ ((i : Int) < (l.length : Int)) by omega] using this
theorem find_C (A : Option Addr) (c : Nat) (l : List Int) (a : Int) (w : World) (h : (Kd.int .i64).C w A l.length l) (hc : l.length ≤ c) (hl : l.length ≤ 1000000) :
    Calls Tryd.prog 61 #[.slice A l.length c, .int .i64 a] w fun e w' => e = .returned (.int .i64 (findI l a)) ∧ Drawn0 w w' :=
  dioramaref10_Find.calls (l.length + 1) A c l a (findI l a) w h hc (by
    unfold dioramaref10_Find.f
    exact find_l0 l a hl l.length 0 (by omega) (by omega) (fun j hj => by omega))
def refN (ns : List Node) (l : List Int) (a : Int) : Node := ⟨(nd ns a.toNat).kind, (nd ns a.toNat).ints, (nd ns a.toNat).texts, (nd ns a.toNat).kids.map (findI l)⟩
def refCanL (ns : List Node) (l : List Int) : List Node := l.map (refN ns l)
def SceneRPost (t : Scene) (w : World) (e : Ending) (w' : World) : Prop := ∃ A c, e = .returned (.agg #[.slice A t.nodes.length c, .int .i64 t.root]) ∧ kNode.R 26 w' w.heap.size (fun _ => True) (.slice A t.nodes.length c) t.nodes ∧ Below w.heap.size w w'
structure KidB (f : Int → Int) (n : Node) (v1 v2 v3 : Value) (j g : Nat) (W0 W : World) : Prop where
  below : Below W0.heap.size W0 W
  gb : W0.heap.size ≤ g
  box : W.heap[g]? = some (.cells #[.int .i64 n.kind, v1, v2, v3] 26 (0, 0))
  r1 : (Kd.int .i64).R 2 W W0.heap.size (fun _ => True) v1 n.ints
  r2 : Kd.string.R 9 W W0.heap.size (fun _ => True) v2 n.texts
  r3 : (Kd.int .i64).R 3 W W0.heap.size (fun _ => True) v3 (mapTake f n.kids j)
theorem KidB.drewN {f : Int → Int} {n : Node} {v1 v2 v3 : Value} {j g : Nat} {W0 W : World} (h : KidB f n v1 v2 v3 j g W0 W) (m : Nat) : KidB f n v1 v2 v3 j g W0 (W.drewN m) :=
  ⟨pw_below_drewN h.below m, h.gb, h.box, Kd.R_drewN h.r1 m, Kd.R_drewN h.r2 m, Kd.R_drewN h.r3 m⟩
theorem KidB.set {f : Int → Int} {n : Node} {v1 v2 : Value} {g' g c m : Nat} {j : Nat} {W0 W : World} (h : KidB f n v1 v2 (.slice (some ⟨g, 0, none⟩) m c) j g' W0 W) (hj : j < n.kids.length) :
    W.cell? ⟨g, j, none⟩ = some (.int .i64 (rd n.kids (j : Int))) ∧ W.frozen? ⟨g, j, none⟩ = false ∧ g ≠ g' ∧ KidB f n v1 v2 (.slice (some ⟨g, 0, none⟩) m c) (j + 1) g' W0 (W.setCell ⟨g, j, none⟩ (.int .i64 (f (rd n.kids (j : Int))))) := by
  have hm := (Kd.R_reads' h.r3).1
  rw [mapTake_len] at hm
  obtain ⟨c1, c2⟩ := ints_cell h.r3 j (by omega)
  obtain ⟨s1, s2, s3⟩ := ints_store h.r3 j (by omega) (f (rd n.kids (j : Int)))
  rw [mapTake_rd f _ _ hj] at c1
  rw [mapTake_set f _ _ hj] at s1
  obtain ⟨cells, hc⟩ := Kd.R_typed h.r3 g rfl
  have hne : g ≠ g' := fun e => by
    rw [e, h.box] at hc
    cases hc
  refine ⟨c1, c2, hne, below_set h.below s3, h.gb, blk_grown h.box s2 (fun e => ?_), Kd.R_grown1 h.r1 rfl s2 (Kd.R_ne h.r1 hc (by decide)), Kd.R_grown1 h.r2 rfl s2 (Kd.R_ne h.r2 hc (by decide)), s1⟩
  injection e with e
  exact hne e.symm
theorem R_apart {α β : Type} {d : Kd α} {d' : Kd β} {e e' : Nat} {w : World} {b b' : Nat} {ok ok' : Nat → Prop} {v v' : Value} {xs : List α} {ys : List β} (h : d.R e w b ok v xs) (h' : d'.R e' w b' ok' v' ys) (hT : e ≠ e') (k : Nat) (hk : some k = v.ownBlock) : some k ≠ v'.ownBlock := fun hk' => by
  obtain ⟨c1, e1⟩ := Kd.R_typed h k hk.symm
  obtain ⟨c2, e2⟩ := Kd.R_typed h' k hk'.symm
  rw [e1] at e2
  injection e2 with e2
  injection e2 with _ e2
  exact hT e2
theorem KidB.drew {f : Int → Int} {n : Node} {v1 v2 v3 : Value} {j g : Nat} {W0 W : World} (h : KidB f n v1 v2 v3 j g W0 W) : KidB f n v1 v2 v3 j g W0 W.drew := h.drewN 1
structure CnRel (w1 : World) (root : Int) (xs : List Node) (v4 : Value) (W : World) : Prop where
  below : Below w1.heap.size w1 W
  out : W.heap[w1.heap.size]? = some (.cells #[v4, .int .i64 root] 39 (0, 0))
  row : kNode.R 26 W w1.heap.size (fun _ => True) v4 xs
theorem CnRel.start (w1 : World) (root : Int) : CnRel w1 root [] (.slice none 0 0) (w1.alloc (.cells #[.slice none 0 0, .int .i64 root] 39)) :=
  ⟨below_alloc (Below.refl _ _) _, by simpa using heap_alloc_new w1 _, Kd.R_nil _ _ _ _ _⟩
theorem CnRel.later {w1 : World} {root : Int} {xs : List Node} {v4 : Value} {W W1 : World} (h : CnRel w1 root xs v4 W) (hb : Below W.heap.size W W1) : CnRel w1 root xs v4 W1 :=
  ⟨below_step h.below hb, (hb.block _ (blk_lt h.out)).trans h.out, Kd.R_below h.row hb⟩
theorem CnRel.drewN {w1 : World} {root : Int} {xs : List Node} {v4 : Value} {W : World} (h : CnRel w1 root xs v4 W) (m : Nat) : CnRel w1 root xs v4 (W.drewN m) := h.later (pw_below_drewN (Below.refl _ _) m)
theorem CnRel.put {w1 : World} {root : Int} {xs : List Node} {v4 v5 : Value} {ys : List Node} {W w2 : World} (h : CnRel w1 root xs v4 W) (hR : kNode.R 26 w2 w1.heap.size (fun _ => True) v5 ys) (hB : Below w1.heap.size w1 w2) (hg : W.grownBy w2 v4.ownBlock) :
    w2.heap[w1.heap.size]? = some (.cells #[v4, .int .i64 root] 39 (0, 0)) ∧ CnRel w1 root ys v5 (w2.setCell ⟨w1.heap.size, 0, none⟩ v5) := by
  have hb := blk_grown h.out hg (Kd.R_ne h.row h.out (by decide))
  refine ⟨hb, below_set hB (Nat.le_refl _), ?_, R_type hR hb (by decide) v5 0⟩
  have := blk_set hb 0 v5
  simpa using this
theorem node_off {W : World} {base : Nat} {n : Node} {v1 v2 v3 v4 : Value} {xs : List Node} (h1 : (Kd.int .i64).R 2 W base (fun _ => True) v1 n.ints) (h2 : Kd.string.R 9 W base (fun _ => True) v2 n.texts) (h3 : (Kd.int .i64).R 3 W base (fun _ => True) v3 n.kids)
    (h : kNode.R 26 W base (fun _ => True) v4 xs) : kNode.M W base (fun k => some k ≠ v4.ownBlock) n [.int .i64 n.kind, v1, v2, v3] :=
  kNode_mkM (Kd.R_mono (Kd.R_tight rfl h1) (fun k hk => R_apart h1 h (by decide) k hk)) (Kd.R_mono (Kd.R_tight rfl h2) (fun k hk => R_apart h2 h (by decide) k hk)) (Kd.R_mono (Kd.R_tight rfl h3) (fun k hk => R_apart h3 h (by decide) k hk))
end Go.Proofs.YtglfebpgdghlfaaDoor.L
end
section
namespace Go.Proofs.YtglfebpgdghlfaaDoor.L
open Go.RowKit Go.ChangeShapes Go.WideShapes Go.Proofs.YtglfebpgdghlfaaDoorW.PrintWords Go.Proofs.YtglfebpgdghlfaaDoorW.PrintLast Go.Proofs.YtglfebpgdghlfaaDoorW.PrintMore
attribute [local go_sem] max2_int min2_int max_two min_two max_three min_three max_four min_four
open Go.Proofs.YtglfebpgdghlfaaDoor.PUpgradeUps
theorem refN_len (ns : List Node) (l : List Int) : (refCanL ns l).length = l.length := by simp [refCanL]
theorem take_succ_map {α β : Type} (f : α → β) (l : List α) (i : Nat) (h : i < l.length) : (l.map f).take (i + 1) = (l.map f).take i ++ [f l[i]] := by
  rw [List.take_succ_eq_append_getElem (by simpa using h)]
  simp
set_option maxRecDepth 100000 in
set_option maxHeartbeats 8000000 in
theorem rcanon_any (A : Option Addr) (c : Nat) (s : Scene) (l : List Int) (k : Nat) (w : World) (h : kNode.C w A s.nodes.length s.nodes) (hc : s.nodes.length ≤ c) (hS : ∀ i : Nat, i < s.nodes.length → Small (nd s.nodes i))
    (ho : dioramaref10_Order.f k (s.nodes.map toS) s.root = some l) (hl : l.length ≤ 1000000) (hp : ∀ x ∈ l, 0 ≤ x ∧ x < (s.nodes.length : Int)) :
    Calls Tryd.prog 33 #[.agg #[.slice A s.nodes.length c, .int .i64 s.root]] w (SceneRPost ⟨refCanL s.nodes l, (l.length : Int) - 1⟩ w) := by
  have HR := Aside0.mk h
  have HSm := Aside0.mk hS
  have HO := Aside0.mk ho
  have HP := Aside0.mk hp
  have HCc := Aside0.mk hc
  have b0 := h.2.1
  have HB := Aside0.mk (below_alloc (below_alloc (Below.refl w.heap.size w) (.cells #[.slice A s.nodes.length c, .int .i64 s.root] 39)) (.cells #[.slice none 0 0, .int .i64 0] 39))
  have k0 := box_cell2 w _ rfl #[.slice A s.nodes.length c, .int .i64 s.root] 39 (.cells #[.slice none 0 0, .int .i64 0] 39) 0 (.slice A s.nodes.length c) rfl
  have k1 := box_cell2 w _ rfl #[.slice A s.nodes.length c, .int .i64 s.root] 39 (.cells #[.slice none 0 0, .int .i64 0] 39) 1 (.int .i64 s.root) rfl
  have HL := Aside0.mk (show ((w.alloc (.cells #[.slice A s.nodes.length c, .int .i64 s.root] 39)).alloc (.cells #[.slice none 0 0, .int .i64 0] 39)).heap[w.heap.size + 1]? = some (.cells #[.slice none 0 0, .int .i64 0] 39 (0, 0)) from by
    have := heap_alloc_new (w.alloc (.cells #[.slice A s.nodes.length c, .int .i64 s.root] 39)) (.cells #[.slice none 0 0, .int .i64 0] 39)
    simpa using this)
  have hu := Tryd.underlying39
  have hun := Tryd.underlying26
  clear h hc hS ho hp
  go_enter Tryd.func33, Tryd.ntmps33
  go_wp2_with fail
  have hml : (s.nodes.map toS).length = s.nodes.length := List.length_map ..
  have hcall := dioramaref10_Order.calls k A c (s.nodes.map toS) s.root l ((w.alloc (.cells #[.slice A s.nodes.length c, .int .i64 s.root] 39)).alloc (.cells #[.slice none 0 0, .int .i64 0] 39)) (by rw [hml]; exact C_to (Kd.C_below HR.out HB.out)) (by rw [hml]; exact HCc.out) HO.out
  rw [hml] at hcall
  refine hcall.mono ?_
  clear hcall hml
  rintro e w1 ⟨v, rfl, hV, hB1⟩
  obtain ⟨A3, c3, rfl⟩ := Kd.V_slice hV
  have HV := Aside0.mk (Kd.V_reads' hV)
  have hlc : l.length ≤ c3 := HV.out.2.1
  have HB1 := Aside0.mk (below_step HB.out hB1)
  have HL1 := Aside0.mk ((hB1.block _ (blk_lt HL.out)).trans HL.out)
  have HK1 := Aside0.mk (pw_cell_below hB1 k0)
  have HI := Aside0.mk (CnRel.start w1 ((l.length : Int) - 1))
  have hw1 : IntKind.i64.wrap ((l.length : Int) - 1) = (l.length : Int) - 1 := wrap_i (by omega) (by omega)
  clear hV hB1 k0 k1 HL HB
  go_wp2
  generalize w1.alloc (.cells #[.slice none 0 0, .int .i64 ((l.length : Int) - 1)] 39) = W5 at HI ⊢
  go_loopw [5] (fun v5 W => ∃ i : Nat, i ≤ l.length ∧ v5 = .int .i64 i ∧ ∃ A4 c4, Aside0 (CnRel w1 ((l.length : Int) - 1) ((refCanL s.nodes l).take i) (.slice A4 i c4) W)) (fun v5 _ => l.length - (intOf v5).toNat)
  case atStart => exact ⟨0, by omega, rfl, none, 0, by rw [List.take_zero]; exact HI⟩
  case round =>
    clear HI
    obtain ⟨i, hi, rfl, A4, c4, HI⟩ := hrel
    by_cases hlt : i < l.length
    · obtain ⟨adl, rfl, z0⟩ := at_nat (Kd.C_below HV.out.2.2 HI.out.below) i hlt
      have hpi := HP.out _ (rd_mem hlt)
      obtain ⟨q, hq⟩ : ∃ q : Nat, rd l (i : Int) = (q : Int) := ⟨(rd l (i : Int)).toNat, by omega⟩
      rw [hq] at z0 hpi
      have hqn : q < s.nodes.length := by omega
      have HRN : Aside0 ((refCanL s.nodes l).take (i + 1) = (refCanL s.nodes l).take i ++ [⟨(nd s.nodes q).kind, (nd s.nodes q).ints, (nd s.nodes q).texts, (nd s.nodes q).kids.map (findI l)⟩]) := ⟨by
        unfold refCanL
        rw [take_succ_map _ _ _ hlt]
        have : l[i] = (q : Int) := by rw [← hq, rd_eq hlt]
        rw [this]; unfold refN; rw [Int.toNat_natCast]⟩
      clear hq hpi
      obtain ⟨adn, A1, c1, A2, c2, A5, c5, rfl, x0, x1, x2, x3, hN⟩ := at_node HR.out q hqn
      have k0 := pw_cell_below HI.out.below HK1.out
      have HW := Aside0.mk (below_step HB1.out HI.out.below)
      replace x0 := pw_cell_below HW.out x0
      replace x1 := pw_cell_below HW.out x1
      replace x2 := pw_cell_below HW.out x2
      replace x3 := pw_cell_below HW.out x3
      have HN := Aside0.mk hN
      clear hN
      have HSq := Aside0.mk (HSm.out q hqn)
      have hbz : (wr.alloc (.cells #[.int .i64 0, .slice none 0 0, .slice none 0 0, .slice none 0 0] 26)).drew.heap[wr.heap.size]? = some (.cells #[.int .i64 0, .slice none 0 0, .slice none 0 0, .slice none 0 0] 26 (0, 0)) := by
        show (wr.alloc _).heap[wr.heap.size]? = _
        simpa using heap_alloc_new wr _
      have HBZ := Aside0.mk hbz
      have hbA := below_drew (below_alloc (Below.refl wr.heap.size wr) (.cells #[.int .i64 0, .slice none 0 0, .slice none 0 0, .slice none 0 0] 26))
      have HBA := Aside0.mk hbA
      have n0 : wr.heap.size ≠ w.heap.size := World.new_ne wr _ k0
      have n1 := World.new_ne wr _ z0
      have n2 := World.new_ne wr _ x0
      clear hbz hbA
      have k0d : wr.drew.cell? ⟨w.heap.size, 0, none⟩ = some (.slice (some adn) s.nodes.length c) := k0
      have k0a : (wr.alloc (.cells #[.int .i64 0, .slice none 0 0, .slice none 0 0, .slice none 0 0] 26)).drew.cell? ⟨w.heap.size, 0, none⟩ = some (.slice (some adn) s.nodes.length c) := pw_cell_below HBA.out k0
      have z0d : wr.drew.cell? (adl.add i) = some (.int .i64 q) := z0
      have z0a : (wr.alloc (.cells #[.int .i64 0, .slice none 0 0, .slice none 0 0, .slice none 0 0] 26)).drew.cell? (adl.add i) = some (.int .i64 q) := pw_cell_below HBA.out z0
      have x0d : wr.drew.cell? (adn.add (q * 4)) = some (.int .i64 (nd s.nodes q).kind) := x0
      have x0a : (wr.alloc (.cells #[.int .i64 0, .slice none 0 0, .slice none 0 0, .slice none 0 0] 26)).drew.cell? (adn.add (q * 4)) = some (.int .i64 (nd s.nodes q).kind) := pw_cell_below HBA.out x0
      have x1d : wr.drew.cell? ⟨(adn.add (q * 4)).block, (adn.add (q * 4)).off + 1, none⟩ = some (.slice A1 (nd s.nodes q).ints.length c1) := x1
      have x1a : (wr.alloc (.cells #[.int .i64 0, .slice none 0 0, .slice none 0 0, .slice none 0 0] 26)).drew.cell? ⟨(adn.add (q * 4)).block, (adn.add (q * 4)).off + 1, none⟩ = some (.slice A1 (nd s.nodes q).ints.length c1) := pw_cell_below HBA.out x1
      have x2d : wr.drew.cell? ⟨(adn.add (q * 4)).block, (adn.add (q * 4)).off + 2, none⟩ = some (.slice A2 (nd s.nodes q).texts.length c2) := x2
      have x2a : (wr.alloc (.cells #[.int .i64 0, .slice none 0 0, .slice none 0 0, .slice none 0 0] 26)).drew.cell? ⟨(adn.add (q * 4)).block, (adn.add (q * 4)).off + 2, none⟩ = some (.slice A2 (nd s.nodes q).texts.length c2) := pw_cell_below HBA.out x2
      have x3d : wr.drew.cell? ⟨(adn.add (q * 4)).block, (adn.add (q * 4)).off + 3, none⟩ = some (.slice A5 (nd s.nodes q).kids.length c5) := x3
      have x3a : (wr.alloc (.cells #[.int .i64 0, .slice none 0 0, .slice none 0 0, .slice none 0 0] 26)).drew.cell? ⟨(adn.add (q * 4)).block, (adn.add (q * 4)).off + 3, none⟩ = some (.slice A5 (nd s.nodes q).kids.length c5) := pw_cell_below HBA.out x3
      go_wp2
      go_region_held3 (fun W => W.cell? ⟨w.heap.size, 0, none⟩ = some (.slice (some adn) s.nodes.length c) ∧ W.cell? (adl.add i) = some (.int .i64 q) ∧ W.cell? (adn.add (q * 4)) = some (.int .i64 (nd s.nodes q).kind) ∧ W.cell? ⟨(adn.add (q * 4)).block, (adn.add (q * 4)).off + 1, none⟩ = some (.slice A1 (nd s.nodes q).ints.length c1) ∧ W.cell? ⟨(adn.add (q * 4)).block, (adn.add (q * 4)).off + 2, none⟩ = some (.slice A2 (nd s.nodes q).texts.length c2) ∧ W.cell? ⟨(adn.add (q * 4)).block, (adn.add (q * 4)).off + 3, none⟩ = some (.slice A5 (nd s.nodes q).kids.length c5))
        (first
          | (go_split_ands
             (repeat' apply And.intro)
             all_goals first
               | with_reducible assumption
               | with_reducible exact pw_cell_below hB (by assumption)
               | with_reducible exact pw_cell_below (below_alloc (Below.refl _ _) _) (pw_cell_below hB k0d)
               | with_reducible exact pw_cell_below (below_alloc (Below.refl _ _) _) (pw_cell_below hB z0d)
               | with_reducible exact pw_cell_below (below_alloc (Below.refl _ _) _) (pw_cell_below hB x0d)
               | with_reducible exact pw_cell_below (below_alloc (Below.refl _ _) _) (pw_cell_below hB x1d)
               | with_reducible exact pw_cell_below (below_alloc (Below.refl _ _) _) (pw_cell_below hB x2d)
               | with_reducible exact pw_cell_below (below_alloc (Below.refl _ _) _) (pw_cell_below hB x3d)
               | with_reducible exact far_set (far_set (far_set (far_set (by assumption) _ _ (by assumption) _) _ _ (by assumption) _) _ _ (by assumption) _) _ _ (by assumption) _
               | (simp [*]; done)))
        (first
          | (go_at_call 13; refine (rcopy_any (nd s.nodes q) A1 c1 A2 c2 A5 c5 wr.drew (HN.out.below (below_drew HW.out)) HSq.out).mono ?_; rintro e w6 ⟨_, rfl, ⟨v1, v2, v3, rfl, hM⟩, hB⟩; obtain ⟨v1', v2', v3', ev, hR1, hR2, hR3⟩ := kNode_openM hM; injection ev with _ ev; injection ev with e1 ev; injection ev with e2 ev; injection ev with e3 _; subst e1 e2 e3; obtain ⟨B1, d1, rfl⟩ := Kd.R_slice hR1; obtain ⟨B2, d2, rfl⟩ := Kd.R_slice hR2; obtain ⟨B3, d3, rfl⟩ := Kd.R_slice hR3)
          | (go_at_call 13; refine (rcopy_any (nd s.nodes q) A1 c1 A2 c2 A5 c5 (wr.alloc (.cells #[.int .i64 0, .slice none 0 0, .slice none 0 0, .slice none 0 0] 26)).drew (HN.out.below (below_step HW.out HBA.out)) HSq.out).mono ?_; rintro e w6 ⟨_, rfl, ⟨v1, v2, v3, rfl, hM⟩, hB⟩; obtain ⟨v1', v2', v3', ev, hR1, hR2, hR3⟩ := kNode_openM hM; injection ev with _ ev; injection ev with e1 ev; injection ev with e2 ev; injection ev with e3 _; subst e1 e2 e3; obtain ⟨B1, d1, rfl⟩ := Kd.R_slice hR1; obtain ⟨B2, d2, rfl⟩ := Kd.R_slice hR2; obtain ⟨B3, d3, rfl⟩ := Kd.R_slice hR3; have hb6 := (hB.block _ (blk_lt HBZ.out)).trans HBZ.out; have f0 := (blk_cell hb6 0).trans rfl; have f0f := blk_frozen hb6 0; have f1 := (blk_cell (blk_set hb6 0 (.int .i64 (nd s.nodes q).kind)) 1).trans rfl; have f1f := blk_frozen (blk_set hb6 0 (.int .i64 (nd s.nodes q).kind)) 1; have f2 := (blk_cell (blk_set (blk_set hb6 0 (.int .i64 (nd s.nodes q).kind)) 1 (.slice B1 (nd s.nodes q).ints.length d1)) 2).trans rfl; have f2f := blk_frozen (blk_set (blk_set hb6 0 (.int .i64 (nd s.nodes q).kind)) 1 (.slice B1 (nd s.nodes q).ints.length d1)) 2; have f3 := (blk_cell (blk_set (blk_set (blk_set hb6 0 (.int .i64 (nd s.nodes q).kind)) 1 (.slice B1 (nd s.nodes q).ints.length d1)) 2 (.slice B2 (nd s.nodes q).texts.length d2)) 3).trans rfl; have f3f := blk_frozen (blk_set (blk_set (blk_set hb6 0 (.int .i64 (nd s.nodes q).kind)) 1 (.slice B1 (nd s.nodes q).ints.length d1)) 2 (.slice B2 (nd s.nodes q).texts.length d2)) 3))
      have HK : Aside0 (KidB (findI l) (nd s.nodes q) (.slice B1 (nd s.nodes q).ints.length d1) (.slice B2 (nd s.nodes q).texts.length d2) (.slice B3 (nd s.nodes q).kids.length d3) 0 w6.heap.size wr (w6.alloc (.cells #[.int .i64 (nd s.nodes q).kind, .slice B1 (nd s.nodes q).ints.length d1, .slice B2 (nd s.nodes q).texts.length d2, .slice B3 (nd s.nodes q).kids.length d3] 26))) := ⟨⟨below_step ((below_drew (Below.refl _ _)).trans hB) (below_alloc (Below.refl _ _) _), hB.size, by simpa using heap_alloc_new w6 _, Kd.R_alloc hR1 _, Kd.R_alloc hR2 _, by rw [mapTake_zero]; exact Kd.R_alloc hR3 _⟩⟩
      clear hM hR1 hR2 hR3 hB k0 z0 x0 x1 x2 x3 k0d z0d x0d x1d x2d x3d k0a z0a x0a x1a x2a x3a n0 n1 n2
      generalize (w6.alloc (.cells #[.int .i64 (nd s.nodes q).kind, .slice B1 (nd s.nodes q).ints.length d1, .slice B2 (nd s.nodes q).texts.length d2, .slice B3 (nd s.nodes q).kids.length d3] 26)) = W7 at HK ⊢
      generalize w6.heap.size = g6 at HK ⊢
      rotate_left
      have HK : Aside0 (KidB (findI l) (nd s.nodes q) (.slice B1 (nd s.nodes q).ints.length d1) (.slice B2 (nd s.nodes q).texts.length d2) (.slice B3 (nd s.nodes q).kids.length d3) 0 wr.heap.size wr ((((w6.setCell ⟨wr.heap.size, 0, none⟩ (.int .i64 (nd s.nodes q).kind)).setCell ⟨wr.heap.size, 1, none⟩ (.slice B1 (nd s.nodes q).ints.length d1)).setCell ⟨wr.heap.size, 2, none⟩ (.slice B2 (nd s.nodes q).texts.length d2)).setCell ⟨wr.heap.size, 3, none⟩ (.slice B3 (nd s.nodes q).kids.length d3))) := ⟨by
        have hlt2 : wr.heap.size < (wr.alloc (.cells #[.int .i64 0, .slice none 0 0, .slice none 0 0, .slice none 0 0] 26)).drew.heap.size := by show _ < (wr.alloc _).heap.size; simp
        exact ⟨below_set4 (below_step HBA.out hB) (Nat.le_refl _), Nat.le_refl _, box4 hb6 _ _ _ _, Kd.R_lower (R_old4 hR1 hlt2 _ _ _ _) (Nat.le_of_lt hlt2), Kd.R_lower (R_old4 hR2 hlt2 _ _ _ _) (Nat.le_of_lt hlt2), by rw [mapTake_zero]; exact Kd.R_lower (R_old4 hR3 hlt2 _ _ _ _) (Nat.le_of_lt hlt2)⟩⟩
      clear hM hR1 hR2 hR3 hB k0 z0 x0 x1 x2 x3 k0d z0d x0d x1d x2d x3d k0a z0a x0a x1a x2a x3a n0 n1 n2 hb6 f0 f0f f1 f1f f2 f2f f3 f3f
      generalize ((((w6.setCell ⟨wr.heap.size, 0, none⟩ (.int .i64 (nd s.nodes q).kind)).setCell ⟨wr.heap.size, 1, none⟩ (.slice B1 (nd s.nodes q).ints.length d1)).setCell ⟨wr.heap.size, 2, none⟩ (.slice B2 (nd s.nodes q).texts.length d2)).setCell ⟨wr.heap.size, 3, none⟩ (.slice B3 (nd s.nodes q).kids.length d3)) = W7 at HK ⊢
      generalize hg6 : wr.heap.size = g6 at HK ⊢
      all_goals
        obtain ⟨W0, hW0⟩ : ∃ W, W = wr := ⟨_, rfl⟩
        have HW0 := Aside0.mk hW0
        rw [← hW0] at HI HK HW
        have hkl : (nd s.nodes q).kids.length ≤ 1000000 := HSq.out.2.2
        clear hW0 HBZ HBA
        go_wp2
        go_loopw [7] (fun v7 W => ∃ j : Nat, j ≤ (nd s.nodes q).kids.length ∧ v7 = .int .i64 j ∧ Aside0 (KidB (findI l) (nd s.nodes q) (.slice B1 (nd s.nodes q).ints.length d1) (.slice B2 (nd s.nodes q).texts.length d2) (.slice B3 (nd s.nodes q).kids.length d3) j g6 W0 W)) (fun v7 _ => (nd s.nodes q).kids.length - (intOf v7).toNat)
        case atStart => exact ⟨0, by omega, rfl, HK⟩
        case round =>
          clear HK
          obtain ⟨j, hj, rfl, HJ⟩ := hrel
          have hq3 : wr.cell? ⟨g6, 3, none⟩ = some (.slice B3 (nd s.nodes q).kids.length d3) := (blk_cell HJ.out.box 3).trans rfl
          by_cases hjl : j < (nd s.nodes q).kids.length
          · obtain ⟨g7, c7', hv, -⟩ := Kd.R_form HJ.out.r3 (by rw [mapTake_len]; omega)
            injection hv with hA hmm hcc
            clear hmm
            subst hA hcc
            obtain ⟨s1, s2, s3, -⟩ := HJ.out.set hjl
            have HLs := Aside0.mk (Kd.C_below HV.out.2.2 (below_step HI.out.below HJ.out.below))
            go_wp2
            go_region_with (first
                | (go_at_call 61; refine (find_C (some adl) c3 l (rd (nd s.nodes q).kids (j : Int)) _ (Kd.C_drew HLs.out) hlc hl).mono ?_; rintro e w8 ⟨rfl, ⟨nn, rfl⟩⟩; obtain ⟨t1, t2, -, t4⟩ := (HJ.out.drewN (1 + nn)).set hjl))
            all_goals
              have HS4 := Aside0.mk t4
              clear t1 t2 t4 s1 s2 hq3
              go_wp2
              go_roundw
              case rel => exact ⟨j + 1, by omega, by go_num, HS4⟩
              case measure => simp [intOf]; omega
          · obtain rfl : j = (nd s.nodes q).kids.length := by omega
            have HI7 := Aside0.mk (HI.out.later HJ.out.below)
            have q0 := (blk_cell HJ.out.box 0).trans rfl
            have q1 := (blk_cell HJ.out.box 1).trans rfl
            have q2 := (blk_cell HJ.out.box 2).trans rfl
            have o0 := (blk_cell HI7.out.out 0).trans rfl
            have hsz1 := HI.out.below.size
            have HMk := Aside0.mk (node_off (n := ⟨(nd s.nodes q).kind, (nd s.nodes q).ints, (nd s.nodes q).texts, (nd s.nodes q).kids.map (findI l)⟩) (Kd.R_lower HJ.out.r1 hsz1) (Kd.R_lower HJ.out.r2 hsz1) (Kd.R_lower (by have h := HJ.out.r3; rw [mapTake_all] at h; exact h) hsz1) HI7.out.row)
            have hlnx : ((refCanL s.nodes l).take i).length ≤ 1000000 := by rw [List.length_take, refN_len]; omega
            have hln : ((refCanL s.nodes l).take (i + 1)).length = i + 1 := by rw [List.length_take, refN_len]; omega
            go_wp2_with (at_builtin; refine Kd.R_append kNode (w0 := w1) w1.heap.size rfl (.tmp 48) (.tmp 50) 30 26 (.agg #[.int .i64 0, .slice none 0 0, .slice none 0 0, .slice none 0 0]) 80 rfl Tryd.underlying30 info_nodez rfl (by decide) (by omega) (.slice A4 i c4) ((refCanL s.nodes l).take i) ⟨(nd s.nodes q).kind, (nd s.nodes q).ints, (nd s.nodes q).texts, (nd s.nodes q).kids.map (findI l)⟩ [.int .i64 (nd s.nodes q).kind, .slice B1 (nd s.nodes q).ints.length d1, .slice B2 (nd s.nodes q).texts.length d2, .slice B3 (nd s.nodes q).kids.length d3] (fun _ => True) (fun k => some k ≠ (Value.slice A4 i c4).ownBlock) rfl (by go_simp) HMk.out (fun k hk => ⟨trivial, hk⟩) (fun _ _ => trivial) HI7.out.row HI7.out.below HI7.out.below.size (by omega) ?_; intro v5 w8 hR8 hB8 hg8 hat8; rw [← HRN.out] at hR8; obtain ⟨A5', c5', rfl⟩ := Kd.R_slice hR8; rw [hln] at hR8 ⊢; obtain ⟨hb8, hN8⟩ := HI7.out.put hR8 hB8 hg8; have HN8 := Aside0.mk hN8; have y0 := (blk_cell hb8 0).trans rfl; have y0f := blk_frozen hb8 0; clear hR8 hB8 hg8 hat8 hN8 q0 q1 q2 o0 hq3)
            go_roundw
            case rel => exact ⟨i + 1, by omega, by go_num, A5', c5', HN8⟩
            case measure => simp [intOf]; omega
    · obtain rfl : i = l.length := by omega
      have hlall : (refCanL s.nodes l).take l.length = refCanL s.nodes l := List.take_of_length_le (Nat.le_of_eq (refN_len _ _))
      have o0 := (blk_cell HI.out.out 0).trans rfl
      have o1 := (blk_cell HI.out.out 1).trans rfl
      have hres := (HI.out.below.block _ (blk_lt HL1.out)).trans HL1.out
      have l0 := (blk_cell hres 0).trans rfl
      have l0f := blk_frozen hres 0
      have l1 := (blk_cell (blk_set hres 0 (.slice A4 l.length c4)) 1).trans rfl
      have l1f := blk_frozen (blk_set hres 0 (.slice A4 l.length c4)) 1
      go_wp2
      have h2 := And.intro ((blk_cell (box2 hres (.slice A4 l.length c4) (.int .i64 ((l.length : Int) - 1))) 0).trans rfl) ((blk_cell (box2 hres (.slice A4 l.length c4) (.int .i64 ((l.length : Int) - 1))) 1).trans rfl)
      have hRR := Kd.R_lower (R_type (R_type HI.out.row hres (by decide) (.slice A4 l.length c4) 0) (blk_set hres 0 _) (by decide) (.int .i64 ((l.length : Int) - 1)) 1) HB1.out.size
      rw [hlall] at hRR
      exact bodyPost_ret (v := .agg #[.slice A4 l.length c4, .int .i64 ((l.length : Int) - 1)]) (by simp [results, Tryd.results33, go_sem, h2]) rfl
        ⟨A4, c4, by rw [refN_len], by rw [refN_len]; exact hRR, below_set2 (below_step HB1.out HI.out.below) (by omega)⟩
end Go.Proofs.YtglfebpgdghlfaaDoor.L
end
section
namespace Go.Proofs.YtglfebpgdghlfaaDoor.L
open Go.RowKit Go.ChangeShapes Go.WideShapes Go.Proofs.YtglfebpgdghlfaaDoorW.PrintWords Go.Proofs.YtglfebpgdghlfaaDoorW.PrintLast Go.Proofs.YtglfebpgdghlfaaDoorW.PrintMore
attribute [local go_sem] max2_int min2_int max_two min_two max_three min_three max_four min_four
open Go.Proofs.YtglfebpgdghlfaaDoor.PUpgradeUps
structure LedInv (ns : List Node) (K : List Int) (met : List Bool) (vs work : List Int) : Prop where
  len : met.length = ns.length
  tell : ∀ i : Nat, i < ns.length → rdOf false met (i : Int) = decide ((i : Int) ∈ vs)
  vpl : ∀ x ∈ vs, 0 ≤ x ∧ x < (ns.length : Int)
  wpl : ∀ x ∈ work, 0 ≤ x ∧ x < (ns.length : Int)
  vin : ∀ x ∈ vs, Rch ns K x
  win : ∀ x ∈ work, Rch ns K x
  k0 : ∀ k ∈ K, k ∈ vs ∨ k ∈ work
  clo : ∀ x ∈ vs, ∀ k ∈ kids ns x, k ∈ vs ∨ k ∈ work
theorem LedInv.done {ns : List Node} {K : List Int} {met : List Bool} {vs : List Int} (h : LedInv ns K met vs []) (x : Int) : Rch ns K x ↔ x ∈ vs := by
  refine ⟨fun hr => ?_, h.vin x⟩
  induction hr with
  | base hk => exact (h.k0 _ hk).resolve_right (by simp)
  | step _ hk ih => exact (h.clo _ ih _ hk).resolve_right (by simp)
theorem LedInv.skip {ns : List Node} {K : List Int} {met : List Bool} {vs work : List Int} {x : Int} (h : LedInv ns K met vs (x :: work)) (hx : x ∈ vs) : LedInv ns K met vs work :=
  ⟨h.len, h.tell, h.vpl, fun y hy => h.wpl y (by simp [hy]), h.vin, fun y hy => h.win y (by simp [hy]),
    fun k hk => (h.k0 k hk).elim .inl (fun hm => by
      rcases List.mem_cons.1 hm with rfl | hm
      · exact .inl hx
      · exact .inr hm),
    fun y hy k hk => (h.clo y hy k hk).elim .inl (fun hm => by
      rcases List.mem_cons.1 hm with rfl | hm
      · exact .inl hx
      · exact .inr hm)⟩
theorem LedInv.meet {ns : List Node} {K : List Int} {met : List Bool} {vs work : List Int} {x : Int} (hP : Places ns) (h : LedInv ns K met vs (x :: work)) (hx : ¬ x ∈ vs) : LedInv ns K (met.set x.toNat true) (x :: vs) (work ++ kids ns x) := by
  have hxp := h.wpl x (by simp)
  obtain ⟨q, rfl⟩ : ∃ q : Nat, x = (q : Int) := ⟨x.toNat, by omega⟩
  have hkp : ∀ k ∈ kids ns q, 0 ≤ k ∧ k < (ns.length : Int) := fun k hk => hP q (by omega) k hk
  refine ⟨by rw [List.length_set]; exact h.len, fun i hi => ?_, fun y hy => ?_, fun y hy => ?_, fun y hy => ?_, fun y hy => ?_, fun k hk => ?_, fun y hy k hk => ?_⟩
  · have ht := h.tell i hi
    unfold rdOf at ht ⊢
    rw [Int.toNat_natCast] at ht ⊢
    rw [Int.toNat_natCast, List.getD_eq_getElem?_getD, List.getElem?_set]
    rw [List.getD_eq_getElem?_getD] at ht
    by_cases e : q = i
    · subst e
      rw [if_pos rfl, if_pos (by rw [h.len]; exact hi)]
      simp
    · rw [if_neg e, ht]
      have : ((i : Int) ∈ (q : Int) :: vs) ↔ (i : Int) ∈ vs := by
        rw [List.mem_cons]
        exact ⟨fun h => h.resolve_left (fun e' => e (by omega)), .inr⟩
      exact decide_eq_decide.2 this.symm
  · rcases List.mem_cons.1 hy with rfl | hy
    · exact hxp
    · exact h.vpl y hy
  · rcases List.mem_append.1 hy with hy | hy
    · exact h.wpl y (by simp [hy])
    · exact hkp y hy
  · rcases List.mem_cons.1 hy with rfl | hy
    · exact h.win _ (by simp)
    · exact h.vin y hy
  · rcases List.mem_append.1 hy with hy | hy
    · exact h.win y (by simp [hy])
    · exact .step (h.win _ (List.mem_cons_self)) hy
  · rcases h.k0 k hk with hm | hm
    · exact .inl (by simp [hm])
    · rcases List.mem_cons.1 hm with rfl | hm
      · exact .inl (by simp)
      · exact .inr (by simp [hm])
  · rcases List.mem_cons.1 hy with rfl | hy
    · exact .inr (by simp [hk])
    · rcases h.clo y hy k hk with hm | hm
      · exact .inl (by simp [hm])
      · rcases List.mem_cons.1 hm with rfl | hm
        · exact .inl (by simp)
        · exact .inr (by simp [hm])
def Tells (ns : List Node) (K : List Int) (r : List Bool) : Prop := r.length = ns.length ∧ ∀ i : Nat, i < ns.length → (rdOf false r (i : Int) = true ↔ Rch ns K (i : Int))
theorem led_l0 {ns : List Node} (hP : Places ns) (K : List Int) (root : Int) (hM : rows ns ≤ 1000000) : ∀ (m : Nat) (met : List Bool) (vs work : List Int), LedInv ns K met vs work → left ns vs + work.length < m → work.length ≤ 3000000 →
    (work.length + left ns vs ≤ 3000000) → ∃ r, dioramaref09_Led.l0 m met work (ns.map toS) root = some r ∧ Tells ns K r
  | 0, _, _, _, _, h, _, _ => by omega
  | m + 1, met, vs, [], h, _, _, _ => by
    rw [dioramaref09_Led.l0, if_neg (by simp)]
    refine ⟨_, rfl, h.len, fun i hi => ?_⟩
    rw [h.tell i hi, decide_eq_true_iff]
    exact (h.done _).symm
  | m + 1, met, vs, x :: work, h, hl, hw, hs => by
    have hxp := h.wpl x (by simp)
    have hrd : rd (x :: work) 0 = x := rfl
    have hlen : (((x :: work).length : Nat) : Int) = (work.length : Int) + 1 := by simp
    rw [dioramaref09_Led.l0, if_pos (by rw [hlen]; omega), if_pos (by rw [hlen]; omega), if_pos (by rw [hlen]; omega), Option.bind_some, hrd, if_pos hxp.1, if_pos (by rw [h.len]; exact hxp.2)]
    rw [show (x :: work).drop (1 : Int).toNat = work from rfl]
    have hlen' : (x :: work).length = work.length + 1 := rfl
    obtain ⟨q, rfl⟩ : ∃ q : Nat, x = (q : Int) := ⟨x.toNat, by omega⟩
    have ht := h.tell q (by omega)
    by_cases hx : (q : Int) ∈ vs
    · rw [if_pos (by rw [ht]; exact decide_eq_true hx)]
      exact led_l0 hP K root hM m met vs work (h.skip hx) (by omega) (by omega) (by omega)
    · rw [if_neg (by rw [ht, decide_eq_false hx]; decide), Option.bind_some, if_pos (by simp; omega), Option.bind_some, if_pos (by rw [List.length_map]; exact hxp.2)]
      have hk := kids_to ns (q : Int)
      have hlc := left_cons (ns := ns) (vs := vs) (x := q) (by omega) hx
      have hwt : wt ns q = (kids ns (q : Int)).length + 1 := rfl
      rw [hk, if_pos (by simp; omega), List.nil_append]
      exact led_l0 hP K root hM m _ _ _ (h.meet hP hx) (by rw [List.length_append]; omega) (by rw [List.length_append]; omega) (by rw [List.length_append]; omega)
theorem wt_le {ns : List Node} {p : Nat} (hp : p < ns.length) : wt ns p ≤ rows ns := by
  have := left_cons (ns := ns) (vs := []) (x := p) hp (by simp)
  rw [left_nil] at this
  omega
theorem led_f {ns : List Node} (hP : Places ns) (root : Int) (hM : rows ns ≤ 1000000) (p : Nat) (hp : p < ns.length) (k : Nat) (hk : 2 * rows ns < k) :
    ∃ r, dioramaref09_Led.f k (ns.map toS) root (p : Int) = some r ∧ Tells ns (kids ns (p : Int)) r := by
  unfold dioramaref09_Led.f
  have hlr := len_rows ns
  have hl : (((ns.map toS).length : Nat) : Int) = (ns.length : Int) := by rw [List.length_map]
  have hwt : wt ns p = (kids ns (p : Int)).length + 1 := rfl
  have hle := wt_le hp
  rw [hl, if_pos (by omega), if_pos (by rw [Int.toNat_natCast]; omega), Option.bind_some, if_pos (by omega), if_pos (by omega), kids_to, if_pos (by simp; omega), List.nil_append, Int.toNat_natCast]
  refine led_l0 hP (kids ns (p : Int)) root hM k _ [] _ ⟨by simp, fun i hi => ?_, by simp, fun x hx => hP p hp x hx, by simp, fun x hx => .base hx, fun k hk => .inr hk, by simp⟩ ?_ (by omega) ?_
  · unfold rdOf
    rw [Int.toNat_natCast, List.getD_eq_getElem?_getD, List.getElem?_replicate, if_pos hi]
    simp
  · rw [left_nil]; omega
  · rw [left_nil]; omega
theorem rch_root {ns : List Node} {r x : Int} : Rch ns [r] x ↔ x = r ∨ Rch ns (kids ns r) x := by
  refine ⟨fun h => ?_, fun h => ?_⟩
  · induction h with
    | base hk => exact .inl (List.mem_singleton.1 hk)
    | step _ hk ih =>
      rcases ih with rfl | ih
      · exact .inr (.base hk)
      · exact .inr (.step ih hk)
  · rcases h with rfl | h
    · exact .base (by simp)
    · exact h.under
theorem chk_l1 (s : Scene) (led : List Bool) (hn : s.nodes.length ≤ 1000000) (hT : Tells s.nodes (kids s.nodes s.root) led) : ∀ (m i K : Nat), s.nodes.length ≤ i + m → i ≤ s.nodes.length → (∀ j : Nat, j < i → Rch s.nodes [s.root] (j : Int)) →
    dioramaref09_Check.l1 (K + 1 + m) led (i : Int) (s.nodes.map toS) s.root = some (if 0 ≤ looseAt s then (15, looseAt s) else (0, 0))
  | 0, i, K, h1, h2, h3 => by
    rw [show K + 1 + 0 = K + 1 by omega, dioramaref09_Check.l1, if_neg (by rw [List.length_map]; omega)]
    have : looseAt s = -1 := firstP_no _ 0 (fun j hj h => h (by rw [Nat.zero_add]; exact h3 j (by omega)))
    rw [this]; rfl
  | m + 1, i, K, h1, h2, h3 => by
    by_cases hi : i < s.nodes.length
    · rw [show K + 1 + (m + 1) = (K + 1 + m) + 1 by omega, dioramaref09_Check.l1, if_pos (by rw [List.length_map]; omega), wrap64_in ((i : Int) + 1) (by omega), show (i : Int) + 1 = ((i + 1 : Nat) : Int) from rfl]
      have next : Rch s.nodes [s.root] (i : Int) → dioramaref09_Check.l1 (K + 1 + m) led ((i + 1 : Nat) : Int) (s.nodes.map toS) s.root = some (if 0 ≤ looseAt s then (15, looseAt s) else (0, 0)) := fun hr =>
        chk_l1 s led hn hT m (i + 1) K (by omega) (by omega) (ext_lt (P := fun j : Nat => Rch s.nodes [s.root] (j : Int)) h3 hr)
      by_cases hr : (i : Int) = s.root
      · rw [if_pos hr]
        exact next (rch_root.2 (.inl hr))
      · rw [if_neg hr, if_pos (Int.natCast_nonneg i), if_pos (by rw [hT.1]; omega)]
        have ht := hT.2 i hi
        by_cases hl : rdOf false led (i : Int) = true
        · rw [if_pos hl]
          exact next (rch_root.2 (.inr (ht.1 hl)))
        · rw [if_neg hl]
          have : looseAt s = (i : Int) := by
            have := firstP_at (p := fun i => ¬ Rch s.nodes [s.root] (i : Int)) s.nodes.length 0 i hi (fun j hj h => h (by rw [Nat.zero_add]; exact h3 j hj)) (by rw [Nat.zero_add]; exact fun h => hl (ht.2 ((rch_root.1 h).resolve_left hr)))
            rw [Nat.zero_add] at this
            exact this
          rw [this, if_pos (Int.natCast_nonneg i)]
    · have := chk_l1 s led hn hT m i (K + 1) (by omega) h2 h3
      rw [show K + 1 + 1 + m = K + 1 + (m + 1) by omega] at this
      exact this
theorem chk_l0 (s : Scene) (hM : rows s.nodes ≤ 1000000) (hP : Places s.nodes) (h0 : 0 ≤ s.root) (h1 : s.root < s.nodes.length) : ∀ (m i K : Nat), s.nodes.length ≤ i + m → i ≤ s.nodes.length → (∀ j : Nat, j < i → ¬ Cyc s.nodes (j : Int)) →
    dioramaref09_Check.l0 (K + 2 * rows s.nodes + s.nodes.length + 3 + m) (i : Int) (s.nodes.map toS) s.root = some (if 0 ≤ cycAt s.nodes then (14, cycAt s.nodes) else if 0 ≤ looseAt s then (15, looseAt s) else (0, 0))
  | 0, i, K, k1, k2, k3 => by
    have hlr := len_rows s.nodes
    rw [show K + 2 * rows s.nodes + s.nodes.length + 3 + 0 = (K + 2 * rows s.nodes + s.nodes.length + 2) + 1 by omega, dioramaref09_Check.l0, if_neg (by rw [List.length_map]; omega)]
    obtain ⟨q, hq⟩ : ∃ q : Nat, s.root = (q : Int) := ⟨s.root.toNat, by omega⟩
    obtain ⟨r, hr, hT⟩ := led_f hP s.root hM q (by omega) (K + 2 * rows s.nodes + s.nodes.length + 2) (by omega)
    rw [← hq] at hr hT
    rw [hr, Option.bind_some]
    have hc : cycAt s.nodes = -1 := firstP_no _ 0 (fun j hj h => k3 j (by omega) (by rwa [Nat.zero_add] at h))
    rw [hc, if_neg (by decide)]
    have := chk_l1 s r (by omega) hT s.nodes.length 0 (K + 2 * rows s.nodes + 1) (by omega) (by omega) (fun j hj => by omega)
    rw [show K + 2 * rows s.nodes + 1 + 1 + s.nodes.length = K + 2 * rows s.nodes + s.nodes.length + 2 by omega] at this
    exact this
  | m + 1, i, K, k1, k2, k3 => by
    by_cases hi : i < s.nodes.length
    · have hlr := len_rows s.nodes
      rw [show K + 2 * rows s.nodes + s.nodes.length + 3 + (m + 1) = (K + 2 * rows s.nodes + s.nodes.length + 3 + m) + 1 by omega, dioramaref09_Check.l0, if_pos (by rw [List.length_map]; omega)]
      obtain ⟨r, hr, hT⟩ := led_f hP s.root hM i hi (K + 2 * rows s.nodes + s.nodes.length + 3 + m) (by omega)
      rw [hr, Option.bind_some, if_pos (Int.natCast_nonneg i), if_pos (by rw [hT.1]; omega), wrap64_in ((i : Int) + 1) (by omega), show (i : Int) + 1 = ((i + 1 : Nat) : Int) from rfl]
      have ht := hT.2 i hi
      by_cases hl : rdOf false r (i : Int) = true
      · rw [if_pos hl]
        have : cycAt s.nodes = (i : Int) := by
          have := firstP_at (p := fun i => Cyc s.nodes (i : Int)) s.nodes.length 0 i hi (fun j hj h => k3 j hj (by rwa [Nat.zero_add] at h)) (by rw [Nat.zero_add]; exact ht.1 hl)
          rw [Nat.zero_add] at this
          exact this
        rw [this, if_pos (Int.natCast_nonneg i)]
      · rw [if_neg hl]
        exact chk_l0 s hM hP h0 h1 m (i + 1) K (by omega) (by omega) (ext_lt (P := fun j : Nat => ¬ Cyc s.nodes (j : Int)) k3 (fun h => hl (ht.2 h)))
    · have := chk_l0 s hM hP h0 h1 m i (K + 1) (by omega) k2 k3
      rw [show K + 1 + 2 * rows s.nodes + s.nodes.length + 3 + m = K + 2 * rows s.nodes + s.nodes.length + 3 + (m + 1) by omega] at this
      exact this
theorem chk_f (s : Scene) (hM : rows s.nodes ≤ 1000000) : dioramaref09_Check.f (2 * rows s.nodes + 2 * s.nodes.length + 3) (s.nodes.map toS) s.root = some (gcheck s) := by
  unfold dioramaref09_Check.f dioramaref09_Place.f dioramaref09_Refs.f
  rw [Option.bind_some, List.length_map, Option.bind_some, map_of_to]
  by_cases h0 : s.root < 0 ∨ (s.nodes.length : Int) ≤ s.root
  · have : isPl s.nodes.length s.root = false := by unfold isPl; exact decide_eq_false (by omega)
    rw [this, if_neg (by decide), gcheck_root h0]
  · have : isPl s.nodes.length s.root = true := by unfold isPl; exact decide_eq_true (by omega)
    rw [this, if_pos rfl]
    by_cases h : 0 ≤ refsAt s.nodes
    · rw [if_pos h, gcheck_refs h0 h]
    · rw [if_neg h]
      have hP : Places s.nodes := Places.of_refs ((refsAt_lt _).resolve_right h)
      have := chk_l0 s hM hP (by omega) (by omega) s.nodes.length 0 0 (by omega) (by omega) (fun j hj => by omega)
      rw [show 0 + 2 * rows s.nodes + s.nodes.length + 3 + s.nodes.length = 2 * rows s.nodes + 2 * s.nodes.length + 3 by omega] at this
      refine this.trans ?_
      unfold gcheck
      rw [if_neg h0, if_neg h]
theorem rchk_any (A : Option Addr) (c : Nat) (s : Scene) (w : World) (h : kNode.C w A s.nodes.length s.nodes) (hc : s.nodes.length ≤ c) (hM : rows s.nodes ≤ 1000000) :
    Calls Tryd.prog 22 #[.agg #[.slice A s.nodes.length c, .int .i64 s.root]] w fun e w' => e = .returned (.tuple #[.int .i64 (gcheck s).1, .int .i64 (gcheck s).2]) ∧ Below w.heap.size w w' := by
  have hl : (s.nodes.map toS).length = s.nodes.length := List.length_map ..
  have := dioramaref09_Check.calls (2 * rows s.nodes + 2 * s.nodes.length + 3) A c (s.nodes.map toS) s.root (gcheck s).1 (gcheck s).2 w (by rw [hl]; exact C_to h) (by rw [hl]; exact hc) (chk_f s hM)
  rw [hl] at this
  exact this
end Go.Proofs.YtglfebpgdghlfaaDoor.L
end
section
namespace Go.Proofs.YtglfebpgdghlfaaDoor.L
open Go.RowKit Go.ChangeShapes Go.WideShapes Go.Proofs.YtglfebpgdghlfaaDoorW.PrintWords Go.Proofs.YtglfebpgdghlfaaDoorW.PrintLast Go.Proofs.YtglfebpgdghlfaaDoorW.PrintMore
attribute [local go_sem] max2_int min2_int max_two min_two max_three min_three max_four min_four
open Go.Proofs.YtglfebpgdghlfaaDoor.PUpgradeUps
structure Iso (ns ms : List Node) (f : Int → Int) : Prop where
  len : ns.length = ms.length
  pl : ∀ x, Pl ms x → Pl ns (f x)
  inj : ∀ x y, Pl ms x → Pl ms y → f x = f y → x = y
  nd : ∀ x, Pl ms x → nd ns (f x).toNat = ⟨(nd ms x.toNat).kind, (nd ms x.toNat).ints, (nd ms x.toNat).texts, (kids ms x).map f⟩
theorem Iso.kids {ns ms : List Node} {f : Int → Int} (h : Iso ns ms f) {x : Int} (hx : Pl ms x) : L.kids ns (f x) = (L.kids ms x).map f := by
  show (L.nd ns (f x).toNat).kids = _
  rw [h.nd x hx]
theorem Iso.mem {ns ms : List Node} {f : Int → Int} (h : Iso ns ms f) {x : Int} (hx : Pl ms x) {l : List Int} (hl : ∀ y ∈ l, Pl ms y) : f x ∈ l.map f ↔ x ∈ l := by
  refine ⟨fun hm => ?_, fun hm => List.mem_map_of_mem hm⟩
  obtain ⟨y, hy, e⟩ := List.mem_map.1 hm
  rw [h.inj x y hx (hl y hy) e.symm]; exact hy
theorem kids_pl {ms : List Node} (hP : Places ms) {x : Int} (hx : Pl ms x) : ∀ k ∈ kids ms x, Pl ms k := fun k hk => hP x.toNat (by have := hx.1; have := hx.2; omega) k hk
theorem Iso.meet {ns ms : List Node} {f : Int → Int} (h : Iso ns ms f) (hP : Places ms) : ∀ (m : Nat) (a : Int) (met : List Int), Pl ms a → (∀ x ∈ met, Pl ms x) →
    L.meet ns m (f a) (met.map f) = (L.meet ms m a met).map f ∧ ∀ x ∈ L.meet ms m a met, Pl ms x
  | 0, a, met, _, hm => ⟨rfl, hm⟩
  | m + 1, a, met, ha, hm => by
    unfold L.meet
    by_cases hin : a ∈ met
    · rw [if_pos hin, if_pos ((h.mem ha hm).2 hin)]
      exact ⟨rfl, hm⟩
    · rw [if_neg hin, if_neg (fun e => hin ((h.mem ha hm).1 e)), h.kids ha, List.foldl_map]
      have key : ∀ (l met : List Int), (∀ k ∈ l, Pl ms k) → (∀ x ∈ met, Pl ms x) →
          l.foldl (fun v k => L.meet ns m (f k) v) (met.map f) = (l.foldl (fun v k => L.meet ms m k v) met).map f ∧ ∀ x ∈ l.foldl (fun v k => L.meet ms m k v) met, Pl ms x := by
        intro l
        induction l with
        | nil => intro met _ hm; exact ⟨rfl, hm⟩
        | cons k l ih =>
          intro met hl hm
          obtain ⟨e1, e2⟩ := Iso.meet h hP m k met (hl k (by simp)) hm
          rw [List.foldl_cons, List.foldl_cons, e1]
          exact ih _ (fun y hy => hl y (by simp [hy])) e2
      obtain ⟨e1, e2⟩ := key (L.kids ms a) met (kids_pl hP ha) hm
      refine ⟨?_, fun x hx => ?_⟩
      · rw [List.map_append, ← e1]; rfl
      · rcases List.mem_append.1 hx with hx | hx
        · exact e2 x hx
        · rw [List.mem_singleton.1 hx]; exact ha
theorem Iso.rch {ns ms : List Node} {f : Int → Int} (h : Iso ns ms f) (hP : Places ms) {l : List Int} (hl : ∀ k ∈ l, Pl ms k) {x : Int} (hr : Rch ms l x) : Rch ns (l.map f) (f x) ∧ Pl ms x := by
  induction hr with
  | base hk => exact ⟨.base (List.mem_map_of_mem hk), hl _ hk⟩
  | step _ hk ih => exact ⟨.step ih.1 (by rw [h.kids ih.2]; exact List.mem_map_of_mem hk), kids_pl hP ih.2 _ hk⟩
theorem Iso.dag {ns ms : List Node} {f : Int → Int} (h : Iso ns ms f) (hP : Places ms) (hc : ∀ p : Nat, p < ns.length → ¬ Cyc ns p) : Dag ms := by
  refine ⟨hP, fun p hp hcy => ?_⟩
  have hx : Pl ms (p : Int) := ⟨by omega, by omega⟩
  have h1 := (h.rch hP (kids_pl hP hx) hcy).1
  rw [← h.kids hx] at h1
  have hpl := h.pl _ hx
  obtain ⟨q, hq⟩ : ∃ q : Nat, f (p : Int) = (q : Int) := ⟨(f p).toNat, by have := hpl.1; omega⟩
  rw [hq] at h1 hpl
  exact hc q (by have := hpl.2; omega) h1
theorem idxOf_map {f : Int → Int} {P : Int → Prop} (hf : ∀ x y, P x → P y → f x = f y → x = y) {k : Int} (hk : P k) : ∀ l : List Int, (∀ y ∈ l, P y) → (l.map f).idxOf (f k) = l.idxOf k
  | [], _ => rfl
  | y :: l, h => by
    rw [List.map_cons, List.idxOf_cons, List.idxOf_cons, idxOf_map hf hk l (fun z hz => h z (by simp [hz]))]
    by_cases e : y = k
    · rw [e]; simp
    · have : ¬ f y = f k := fun e' => e (hf y k (h y (by simp)) hk e')
      rw [beq_eq_false_iff_ne.2 e, beq_eq_false_iff_ne.2 this]
theorem Iso.ord {s t : Scene} {f : Int → Int} (h : Iso s.nodes t.nodes f) (hP : Places t.nodes) (hr : Pl t.nodes t.root) (he : s.root = f t.root) : L.ord s = (L.ord t).map f ∧ ∀ x ∈ L.ord t, Pl t.nodes x := by
  unfold L.ord M
  rw [he, h.len]
  exact h.meet hP _ _ [] hr (fun x hx => by simp at hx)
theorem Iso.canonL {s t : Scene} {f : Int → Int} (h : Iso s.nodes t.nodes f) (hP : Places t.nodes) (hr : Pl t.nodes t.root) (he : s.root = f t.root) : L.canonL s = L.canonL t := by
  obtain ⟨ho, hop⟩ := h.ord hP hr he
  unfold L.canonL
  rw [ho, List.map_map]
  refine List.map_congr_left (fun a ha => ?_)
  have hap := hop a ha
  show relab s (L.nd s.nodes (f a).toNat) = relab t (L.nd t.nodes a.toNat)
  unfold relab
  rw [h.nd a hap]
  show Node.mk _ _ _ _ = Node.mk _ _ _ _
  congr 1
  rw [List.map_map]
  refine List.map_congr_left (fun k hk => ?_)
  show ((idx s (f k) : Nat) : Int) = (idx t k : Int)
  unfold idx
  rw [ho, idxOf_map (P := Pl t.nodes) h.inj (kids_pl hP hap k hk) _ hop]
theorem Shut.len {ns : List Node} {m : List Int} (h : Shut ns m) : m.length ≤ ns.length := nodup_len h.nd h.pl
theorem shut_next {ns : List Node} {met : List Int} (hs : Shut ns met) (a : Int) : ∀ x ∈ met, ¬ Rch ns (kids ns x) a ∨ a ∈ met := fun x hx => by
  by_cases hr : Rch ns (kids ns x) a
  · right
    have : ∀ y, Rch ns (kids ns x) y → y ∈ met := fun y hy => by
      induction hy with
      | base hb => exact hs.kids x hx _ hb
      | step _ hb ih => exact hs.kids _ ih _ hb
    exact this a hr
  · exact .inl hr
theorem meet_l0 (ns : List Node) (root a : Int) (met : List Int) (hm : met.length ≤ 1000000) : ∀ (m i K : Nat), met.length ≤ i + m → i ≤ met.length → (∀ j : Nat, j < i → ¬ rd met (j : Int) = a) →
    (a ∈ met → dioramaref10_meet.l0 (K + 1 + m) a met (i : Int) (ns.map toS) root = some met) ∧
    (¬ a ∈ met → ∃ K', K ≤ K' ∧ dioramaref10_meet.l0 (K + 1 + m) a met (i : Int) (ns.map toS) root = dioramaref10_meet.l1 K' a met 0 (ns.map toS) root)
  | 0, i, K, h1, h2, h3 => by
    have hno : ¬ a ∈ met := fun hm => by
      obtain ⟨j, hj⟩ := List.getElem?_of_mem hm
      have hjl := (List.getElem?_eq_some_iff.1 hj).1
      refine h3 j (by omega) ?_
      unfold rd
      rw [Int.toNat_natCast, List.getD_eq_getElem?_getD, hj]; rfl
    refine ⟨fun h => absurd h hno, fun _ => ⟨K, Nat.le_refl _, ?_⟩⟩
    rw [show K + 1 + 0 = K + 1 by omega, dioramaref10_meet.l0, if_neg (by omega)]
  | m + 1, i, K, h1, h2, h3 => by
    by_cases hi : i < met.length
    · rw [show K + 1 + (m + 1) = (K + 1 + m) + 1 by omega, dioramaref10_meet.l0, if_pos (by omega), if_pos (Int.natCast_nonneg i)]
      by_cases he : rd met (i : Int) = a
      · rw [if_pos he]
        have hin : a ∈ met := by rw [← he]; exact rd_mem hi
        exact ⟨fun _ => rfl, fun h => absurd hin h⟩
      · rw [if_neg he, wrap64_in ((i : Int) + 1) (by omega), show (i : Int) + 1 = ((i + 1 : Nat) : Int) from rfl]
        exact meet_l0 ns root a met hm m (i + 1) K (by omega) (by omega) (ext_lt (P := fun j : Nat => ¬ rd met (j : Int) = a) h3 he)
    · obtain ⟨g1, g2⟩ := meet_l0 ns root a met hm m i (K + 1) (by omega) h2 h3
      rw [show K + 1 + 1 + m = K + 1 + (m + 1) by omega] at g1 g2
      exact ⟨g1, fun h => by obtain ⟨K', h1, h2⟩ := g2 h; exact ⟨K', by omega, h2⟩⟩
def meetT (ns : List Node) : Nat := ns.length + rows ns + 4
theorem meet_f {ns : List Node} (hd : Dag ns) (root : Int) (hM : rows ns ≤ 1000000) : ∀ (N : Nat) (a : Int) (met : List Int) (K : Nat), reachN ns a < N → Pl ns a → Shut ns met → N * meetT ns ≤ K →
    dioramaref10_meet.f K (ns.map toS) root a met = some (M ns a met)
  | 0, _, _, _, h, _, _, _ => by omega
  | N + 1, a, met, K, hN, ha, hs, hK => by
    have hT : (N + 1) * meetT ns = N * meetT ns + meetT ns := Nat.succ_mul _ _
    have hlen := hs.len
    have hlr := len_rows ns
    have hTd : meetT ns = ns.length + rows ns + 4 := rfl
    obtain ⟨K1, rfl⟩ : ∃ K1, K = (K1 + (kids ns a).length + 1) + 1 + met.length + 1 := ⟨K - met.length - 3 - (kids ns a).length, by
      have hw : (kids ns a).length + 1 ≤ rows ns := wt_le (ns := ns) (p := a.toNat) (by have := ha.1; have := ha.2; omega)
      omega⟩
    rw [dioramaref10_meet.f]
    obtain ⟨g1, g2⟩ := meet_l0 ns root a met (by omega) met.length 0 (K1 + (kids ns a).length + 1) (by omega) (by omega) (fun j hj => by omega)
    by_cases hin : a ∈ met
    · rw [M_in hd ha hin]
      exact g1 hin
    · obtain ⟨K', hK', e⟩ := g2 hin
      rw [M_out hd ha hin]
      refine Eq.trans e ?_
      have hw : (kids ns a).length + 1 ≤ rows ns := wt_le (ns := ns) (p := a.toNat) (by have := ha.1; have := ha.2; omega)
      have hK1 : N * meetT ns ≤ K1 := by omega
      -- the kids, one behind the other
      have key : ∀ (m j K2 : Nat) (v : List Int), (kids ns a).length = j + m → N * meetT ns ≤ K2 → Shut ns v → (∀ x ∈ v, x ∈ v) → v = ML ns ((kids ns a).take j) met →
          dioramaref10_meet.l1 (K2 + 1 + m) a v (j : Int) (ns.map toS) root = some (ML ns (kids ns a) met ++ [a]) := by
        intro m
        induction m with
        | zero =>
          intro j K2 v hj hK2 hv _ hve
          have hvl := hv.len
          rw [show K2 + 1 + 0 = K2 + 1 by omega, dioramaref10_meet.l1, if_pos ha.1, if_pos (by rw [List.length_map]; exact ha.2), kids_to, if_neg (by omega), Option.bind_some, if_pos (by simp; omega), Option.bind_some, if_pos (by simp; omega), List.nil_append]
          rw [hve, List.take_of_length_le (by omega)]
        | succ m ih =>
          intro j K2 v hj hK2 hv _ hve
          have hjl : j < (kids ns a).length := by omega
          rw [show K2 + 1 + (m + 1) = (K2 + 1 + m) + 1 by omega, dioramaref10_meet.l1, if_pos ha.1, if_pos (by rw [List.length_map]; exact ha.2), kids_to, if_pos (by omega), if_pos (Int.natCast_nonneg j)]
          have hk : rd (kids ns a) (j : Int) ∈ kids ns a := rd_mem hjl
          have hkp := hd.kid ha hk
          have hlow := hd.lower ha hk
          rw [meet_f hd root hM N (rd (kids ns a) (j : Int)) v (K2 + 1 + m) (by omega) hkp hv (by omega), Option.bind_some, wrap64_in ((j : Int) + 1) (by have := hs.len; omega), show (j : Int) + 1 = ((j + 1 : Nat) : Int) from rfl]
          have hmet := M_met hd _ (rd (kids ns a) (j : Int)) v (Nat.lt_succ_self _) hkp hv (shut_next hv _)
          refine ih (j + 1) K2 _ (by omega) hK2 hmet.shut (fun _ h => h) ?_
          rw [take_succ_rd hjl, hve]
          unfold ML
          rw [List.foldl_append]
          rfl
      obtain ⟨K2, rfl⟩ : ∃ K2, K' = K2 + 1 + (kids ns a).length := ⟨K' - 1 - (kids ns a).length, by omega⟩
      exact key (kids ns a).length 0 K2 met (by omega) (by omega) hs (fun _ h => h) (by rw [List.take_zero]; rfl)
theorem order_f {s : Scene} (hd : Dag s.nodes) (hr : Pl s.nodes s.root) (hM : rows s.nodes ≤ 1000000) : dioramaref10_Order.f ((s.nodes.length + 1) * meetT s.nodes) (s.nodes.map toS) s.root = some (ord s) := by
  unfold dioramaref10_Order.f
  rw [meet_f hd s.root hM (s.nodes.length + 1) s.root [] _ (Nat.lt_succ_of_le (reachN_le _ _)) hr (Shut.nil _) (Nat.le_refl _)]
  rfl
theorem ord_met' {s : Scene} (hd : Dag s.nodes) (hr : Pl s.nodes s.root) : Met s.nodes s.root [] (ord s) := M_met hd _ _ _ (Nat.lt_succ_self _) hr (Shut.nil _) (fun x hx => by simp at hx)
theorem refCan_eq {s : Scene} (hd : Dag s.nodes) (hr : Pl s.nodes s.root) : refCanL s.nodes (ord s) = canonL s := by
  have hm := ord_met' hd hr
  unfold refCanL canonL
  refine List.map_congr_left (fun a ha => ?_)
  unfold refN relab
  congr 1
  refine List.map_congr_left (fun k hk => ?_)
  have := hm.shut.kids a ha k hk
  unfold findI idx
  rw [if_pos this]
end Go.Proofs.YtglfebpgdghlfaaDoor.L
end
section
namespace Go.Proofs.YtglfebpgdghlfaaDoor.L
open Go.RowKit Go.ChangeShapes Go.WideShapes Go.Proofs.YtglfebpgdghlfaaDoorW.PrintWords Go.Proofs.YtglfebpgdghlfaaDoorW.PrintLast Go.Proofs.YtglfebpgdghlfaaDoorW.PrintMore
attribute [local go_sem] max2_int min2_int max_two min_two max_three min_three max_four min_four
open Go.Proofs.YtglfebpgdghlfaaDoor.PUpgradeUps
def isTr (n : Node) : Bool := decide (n.kind = 2)
def lows (ns : List Node) (n : Nat) : List Nat := (List.range n).filter (fun p => isTr (nd ns p))
def cnt (ns : List Node) (n : Nat) : Nat := (lows ns n).length
theorem lows_succ (ns : List Node) (n : Nat) : lows ns (n + 1) = if isTr (nd ns n) then lows ns n ++ [n] else lows ns n := by
 unfold lows
 rw [List.range_succ, List.filter_append]
 by_cases h : isTr (nd ns n) = true
 ·rw [if_pos h]; simp [h]
 ·rw [if_neg h]; simp [h]
theorem cnt_succ (ns : List Node) (n : Nat) : cnt ns (n + 1) = cnt ns n + if isTr (nd ns n) then 1 else 0 := by
 unfold cnt
 rw [lows_succ]
 split <;> simp
theorem pos_cnt (ns : List Node) (n : Nat) : pos ns n = n + cnt ns n := by
 induction n with
 | zero => rfl
 | succ n ih =>
  rw [pos_succ, cnt_succ, ih]
  unfold upLen isTr
  by_cases h : (nd ns n).kind = 2
  ·rw [if_pos h, decide_eq_true h]; simp; omega
  ·rw [if_neg h, decide_eq_false h]; simp; omega
theorem lows_at (ns : List Node) : ∀ (n p : Nat), p < n → isTr (nd ns p) = true → (lows ns n)[cnt ns p]? = some p
 | 0, _, h, _ => by omega
 | n + 1, p, h, ht => by
  by_cases e : p = n
  ·subst e
   rw [lows_succ, if_pos ht, show cnt ns p = (lows ns p).length from rfl, List.getElem?_append_right (Nat.le_refl _), Nat.sub_self]; rfl
  ·have ih := lows_at ns n p (by omega) ht
   have hl : cnt ns p < (lows ns n).length := (List.getElem?_eq_some_iff.1 ih).1
   rw [lows_succ]
   split
   ·rw [List.getElem?_append_left hl]; exact ih
   ·exact ih
theorem lows_inv (ns : List Node) : ∀ (n c : Nat), c < (lows ns n).length → ∃ p, p < n ∧ isTr (nd ns p) = true ∧ cnt ns p = c ∧ (lows ns n)[c]? = some p
 | 0, c, h => by simp [lows] at h
 | n + 1, c, h => by
  by_cases hc : c < (lows ns n).length
  ·obtain ⟨p, h1, h2, h3, h4⟩ := lows_inv ns n c hc
   refine ⟨p, by omega, h2, h3, ?_⟩
   rw [lows_succ]
   split
   ·rw [List.getElem?_append_left hc]; exact h4
   ·exact h4
  ·rw [lows_succ] at h ⊢
   by_cases ht : isTr (nd ns n) = true
   ·rw [if_pos ht] at h ⊢
    rw [List.length_append] at h
    have hcn : c = (lows ns n).length := by simp at h; omega
    exact ⟨n, by omega, ht, hcn.symm, by rw [hcn, List.getElem?_append_right (Nat.le_refl _), Nat.sub_self]; rfl⟩
   ·rw [if_neg ht] at h
    exact absurd h hc
theorem tr_len {n : Node} (h : isTr n = true) : upLen n = 2 := by unfold upLen; rw [if_pos (of_decide_eq_true h)]
theorem tr_not {n : Node} (h : ¬ isTr n = true) : upLen n = 1 := by unfold upLen; rw [if_neg (fun e => h (decide_eq_true e))]
theorem pos_inj (ns : List Node) {p j q k : Nat} (hj : j < upLen (nd ns p)) (hk : k < upLen (nd ns q)) (h : pos ns p + j = pos ns q + k) : p = q ∧ j = k := by
 have h1 := pos_succ ns p
 have h2 := pos_succ ns q
 by_cases hlt : p < q
 ·have := pos_mono ns (show p + 1 ≤ q from hlt); omega
 ·by_cases hgt : q < p
  ·have := pos_mono ns (show q + 1 ≤ p from hgt); omega
  ·obtain rfl : p = q := by omega
   exact ⟨rfl, by omega⟩
theorem pos_find (ns : List Node) : ∀ (n x : Nat), x < pos ns n → ∃ p j, p < n ∧ j < upLen (nd ns p) ∧ x = pos ns p + j
 | 0, x, h => by simp [pos] at h
 | n + 1, x, h => by
  by_cases hx : x < pos ns n
  ·obtain ⟨p, j, h1, h2, h3⟩ := pos_find ns n x hx
   exact ⟨p, j, by omega, h2, h3⟩
  ·rw [pos_succ] at h
   exact ⟨n, x - pos ns n, by omega, by omega, by omega⟩
theorem nd_mix (ns : List Node) (m : Nat) : ∀ (n p j : Nat), p < n → n ≤ m → j < upLen (nd ns p) → nd (mix ns n m) (pos ns p + j) = nd (upK (nd ns p) ((pos ns p : Int) + 1) (mapK ns (nd ns p).kids)) j
 | 0, _, _, h, _, _ => by omega
 | n + 1, p, j, h, hm, hj => by
  rw [mix_succ]
  by_cases e : p = n
  ·subst e
   have hl := mix_len ns p m
   rw [if_pos (by omega), ← hl]
   rw [nd_append_right, hl]
  ·have hl := mix_len ns n m
   have h1 := pos_mono ns (show p + 1 ≤ n by omega)
   have h2 := pos_succ ns p
   rw [nd_append_left (by omega)]
   exact nd_mix ns m n p j (by omega) (by omega) hj
theorem upK_tr {n : Node} (h : isTr n = true) (b : Int) (q : List Int) : upK n b q = [⟨2, n.ints.take 3, [], [b]⟩, ⟨8, [rd n.ints 3, rd n.ints 3, rd n.ints 3], [], q⟩] := by
 have hk := of_decide_eq_true h
 unfold upK
 rw [if_neg (by omega), if_pos hk]
theorem upK_ntr {n : Node} (h : ¬ isTr n = true) (b b' : Int) (q q' : List Int) : nd (upK n b q') 0 = withKids (nd (upK n b' q) 0) q' ∧ (nd (upK n b' q) 0).kids = q := by
 have hk : ¬ n.kind = 2 := fun e => h (decide_eq_true e)
 unfold upK
 by_cases h1 : n.kind = 1
 ·rw [if_pos h1, if_pos h1]; exact ⟨rfl, rfl⟩
 ·rw [if_neg h1, if_neg h1, if_neg hk, if_neg hk]
  by_cases h3 : n.kind = 3
  ·rw [if_pos h3, if_pos h3]; exact ⟨rfl, rfl⟩
  ·rw [if_neg h3, if_neg h3]
   by_cases h4 : n.kind = 4
   ·rw [if_pos h4, if_pos h4]; exact ⟨rfl, rfl⟩
   ·rw [if_neg h4, if_neg h4]
    by_cases h5 : n.kind = 5
    ·rw [if_pos h5, if_pos h5]; exact ⟨rfl, rfl⟩
    ·rw [if_neg h5, if_neg h5]; exact ⟨rfl, rfl⟩
theorem kidsU (ns : List Node) {p j : Nat} (hp : p < ns.length) (hj : j < upLen (nd ns p)) :
  kids (mix ns ns.length ns.length) ((pos ns p + j : Nat) : Int) = if isTr (nd ns p) = true ∧ j = 0 then [((pos ns p + 1 : Nat) : Int)] else mapK ns (nd ns p).kids := by
 unfold kids
 rw [Int.toNat_natCast, nd_mix ns ns.length ns.length p j hp (Nat.le_refl _) hj]
 by_cases ht : isTr (nd ns p) = true
 ·rw [upK_tr ht]
  have := tr_len ht
  by_cases h0 : j = 0
  ·subst h0; rw [if_pos ⟨ht, rfl⟩]; rfl
  ·obtain rfl : j = 1 := by omega
   rw [if_neg (fun h => h0 h.2)]; rfl
 ·have := tr_not ht
  obtain rfl : j = 0 := by omega
  rw [if_neg (fun h => ht h.1)]
  exact (upK_ntr ht 0 _ (mapK ns (nd ns p).kids) []).2
theorem U_len (ns : List Node) : (mix ns ns.length ns.length).length = pos ns ns.length := mix_len ns _ _
theorem mem_mapK {ns : List Node} (hP : Places ns) {p : Nat} (hp : p < ns.length) {x : Int} (hx : x ∈ mapK ns (nd ns p).kids) : ∃ k : Nat, k < ns.length ∧ (k : Int) ∈ kids ns (p : Int) ∧ x = ((pos ns k + 0 : Nat) : Int) := by
 obtain ⟨k, hk, rfl⟩ := List.mem_map.1 hx
 have := hP p hp k hk
 exact ⟨k.toNat, by omega, by show ((k.toNat : Nat) : Int) ∈ (nd ns (p : Int).toNat).kids; rw [Int.toNat_natCast, Int.toNat_of_nonneg this.1]; exact hk, rfl⟩
theorem up_pos_lt (ns : List Node) {p j : Nat} (hp : p < ns.length) (hj : j < upLen (nd ns p)) : pos ns p + j < pos ns ns.length := by
 have h1 := pos_succ ns p
 have h2 := pos_mono ns (show p + 1 ≤ ns.length from hp)
 omega
theorem U_rch {ns : List Node} (hP : Places ns) {p j : Nat} (hp : p < ns.length) (hj : j < upLen (nd ns p)) {x : Int} (hr : Rch (mix ns ns.length ns.length) (kids (mix ns ns.length ns.length) ((pos ns p + j : Nat) : Int)) x) :
  ∃ q k, q < ns.length ∧ k < upLen (nd ns q) ∧ x = ((pos ns q + k : Nat) : Int) ∧ (Rch ns (kids ns (p : Int)) (q : Int) ∨ (q = p ∧ j < k)) := by
 induction hr with
 | base hk =>
  rw [kidsU ns hp hj] at hk
  by_cases hc : isTr (nd ns p) = true ∧ j = 0
  ·rw [if_pos hc] at hk
   have := tr_len hc.1
   exact ⟨p, 1, hp, by omega, List.mem_singleton.1 hk, .inr ⟨rfl, by omega⟩⟩
  ·rw [if_neg hc] at hk
   obtain ⟨k, h1, h2, h3⟩ := mem_mapK hP hp hk
   exact ⟨k, 0, h1, upLen_pos _, h3, .inl (.base h2)⟩
 | step _ hk ih =>
  obtain ⟨q, k, hq, hkl, rfl, ho⟩ := ih
  rw [kidsU ns hq hkl] at hk
  by_cases hc : isTr (nd ns q) = true ∧ k = 0
  ·rw [if_pos hc] at hk
   have := tr_len hc.1
   refine ⟨q, 1, hq, by omega, List.mem_singleton.1 hk, ?_⟩
   rcases ho with ho | ⟨_, ho⟩
   ·exact .inl ho
   ·omega
  ·rw [if_neg hc] at hk
   obtain ⟨k', h1, h2, h3⟩ := mem_mapK hP hq hk
   refine ⟨k', 0, h1, upLen_pos _, h3, .inl ?_⟩
   rcases ho with ho | ⟨rfl, _⟩
   ·exact .step ho h2
   ·exact .base h2
theorem upS_right {s : Scene} (h : Right s) : Right (upS s) := by
 have hU : (upS s).nodes = mix s.nodes s.nodes.length s.nodes.length := rfl
 have hlen : (upS s).nodes.length = pos s.nodes s.nodes.length := U_len _
 have h0 := h.r0
 have h1 := h.r1
 obtain ⟨r, hr⟩ : ∃ r : Nat, s.root = (r : Int) := ⟨s.root.toNat, by omega⟩
 have hroot : (upS s).root = ((pos s.nodes r + 0 : Nat) : Int) := by
  show ((pos s.nodes s.root.toNat : Nat) : Int) = _
  rw [hr]; rfl
 have hup : ∀ q : Int, Rch s.nodes [s.root] q → ∃ p : Nat, q = (p : Int) ∧ p < s.nodes.length ∧ Rch (upS s).nodes [(upS s).root] ((pos s.nodes p + 0 : Nat) : Int) := fun q hq => by
  induction hq with
  | base hk =>
   rw [List.mem_singleton.1 hk]
   exact ⟨r, hr, by omega, by rw [hroot]; exact .base (by simp)⟩
  | step _ hk ih =>
   rename_i i k _
   obtain ⟨p, rfl, hp, hrc⟩ := ih
   have hkp := kids_pl h.pl ⟨by omega, by omega⟩ k hk
   obtain ⟨k', rfl⟩ : ∃ k' : Nat, k = (k' : Int) := ⟨k.toNat, by have := hkp.1; omega⟩
   have hm : ((pos s.nodes k' + 0 : Nat) : Int) ∈ mapK s.nodes (nd s.nodes p).kids := List.mem_map.2 ⟨(k' : Int), by have := hk; unfold kids at this; rwa [Int.toNat_natCast] at this, rfl⟩
   refine ⟨k', rfl, by have := hkp.2; omega, ?_⟩
   by_cases ht : isTr (nd s.nodes p) = true
   ·have h2 := tr_len ht
    have l1 : Rch (upS s).nodes [(upS s).root] ((pos s.nodes p + 1 : Nat) : Int) := .step hrc (by rw [hU, kidsU s.nodes hp (by omega), if_pos ⟨ht, rfl⟩]; simp)
    exact .step l1 (by rw [hU, kidsU s.nodes hp (by omega), if_neg (fun h => by have := h.2; omega)]; exact hm)
   ·exact .step hrc (by rw [hU, kidsU s.nodes hp (upLen_pos _), if_neg (fun h => ht h.1)]; exact hm)
 refine ⟨by rw [hroot]; omega, ?_, fun x hx k hk => ?_, fun x hx hc => ?_, fun x hx => ?_⟩
 ·rw [hroot, hlen]
  have := up_pos_lt s.nodes (p := r) (j := 0) (by omega) (upLen_pos _)
  omega
 ·rw [hlen] at hx ⊢
  obtain ⟨p, j, hp, hj, rfl⟩ := pos_find s.nodes _ x hx
  have hk' : k ∈ kids (mix s.nodes s.nodes.length s.nodes.length) ((pos s.nodes p + j : Nat) : Int) := by unfold kids; rw [Int.toNat_natCast]; exact hk
  obtain ⟨q, i, hq, hi, rfl, _⟩ := U_rch h.pl hp hj (.base hk')
  have := up_pos_lt s.nodes hq hi
  omega
 ·rw [hlen] at hx
  obtain ⟨p, j, hp, hj, rfl⟩ := pos_find s.nodes _ x hx
  obtain ⟨q, i, hq, hi, he, ho⟩ := U_rch h.pl hp hj hc
  obtain ⟨rfl, rfl⟩ := pos_inj s.nodes hj hi (by omega)
  rcases ho with ho | ⟨_, ho⟩
  ·exact h.cyc p hp ho
  ·omega
 ·rw [hlen] at hx
  obtain ⟨p, j, hp, hj, rfl⟩ := pos_find s.nodes _ x hx
  obtain ⟨q, hq, _, hrc⟩ := hup _ (h.all p hp)
  obtain rfl : q = p := by omega
  by_cases h0 : j = 0
  ·subst h0; exact hrc
  ·have ht : isTr (nd s.nodes q) = true := Classical.byContradiction fun hn => by have := tr_not hn; omega
   have := tr_len ht
   obtain rfl : j = 1 := by omega
   exact .step hrc (by rw [hU, kidsU s.nodes hp (by omega), if_pos ⟨ht, rfl⟩]; simp)
def hd0 (ns : List Node) (p : Nat) : Node := nd (upN (nd ns p)) 0
def lo1 (ns : List Node) (p : Nat) : Node := nd (upN (nd ns p)) 1
def r18 (ns : List Node) (i : Nat) : List Node :=
 (List.range ns.length).map (fun p => if p < i ∧ isTr (nd ns p) = true then withKids (hd0 ns p) [((ns.length + cnt ns p : Nat) : Int)] else hd0 ns p) ++ (lows ns i).map (lo1 ns)
def r18S (s : Scene) : Scene := ⟨r18 s.nodes s.nodes.length, s.root⟩
theorem r18_len (ns : List Node) (i : Nat) : (r18 ns i).length = ns.length + cnt ns i := by unfold r18 cnt; simp
theorem r18_hd (ns : List Node) (i : Nat) {p : Nat} (hp : p < ns.length) : nd (r18 ns i) p = if p < i ∧ isTr (nd ns p) = true then withKids (hd0 ns p) [((ns.length + cnt ns p : Nat) : Int)] else hd0 ns p := by
 unfold r18
 rw [nd_append_left (by simpa using hp)]
 unfold nd
 rw [List.getD_eq_getElem?_getD, List.getElem?_map, List.getElem?_range hp]
 rfl
theorem r18_lo (ns : List Node) (i : Nat) {c p : Nat} (h : (lows ns i)[c]? = some p) : nd (r18 ns i) (ns.length + c) = lo1 ns p := by
 unfold r18
 have : ((List.range ns.length).map (fun p => if p < i ∧ isTr (nd ns p) = true then withKids (hd0 ns p) [((ns.length + cnt ns p : Nat) : Int)] else hd0 ns p)).length = ns.length := by simp
 rw [show ns.length + c = ((List.range ns.length).map (fun p => if p < i ∧ isTr (nd ns p) = true then withKids (hd0 ns p) [((ns.length + cnt ns p : Nat) : Int)] else hd0 ns p)).length + c by rw [this], nd_append_right]
 unfold nd
 rw [List.getD_eq_getElem?_getD, List.getElem?_map, h]
 rfl
theorem r18_zero (ns : List Node) : r18 ns 0 = (List.range ns.length).map (hd0 ns) := by
 unfold r18
 have : lows ns 0 = [] := rfl
 rw [this, List.map_nil, List.append_nil]
 exact List.map_congr_left (fun p _ => if_neg (fun h => by omega))
theorem r18_same (ns : List Node) (i : Nat) (h : ¬ isTr (nd ns i) = true) : r18 ns (i + 1) = r18 ns i := by
 unfold r18
 rw [lows_succ, if_neg h]
 congr 1
 refine List.map_congr_left (fun p _ => ?_)
 by_cases e : p = i
 ·subst e; rw [if_neg (fun hh => h hh.2), if_neg (fun hh => h hh.2)]
 ·have : (p < i + 1 ∧ isTr (nd ns p) = true) ↔ (p < i ∧ isTr (nd ns p) = true) := ⟨fun hh => ⟨by omega, hh.2⟩, fun hh => ⟨by omega, hh.2⟩⟩
  by_cases hc : p < i ∧ isTr (nd ns p) = true
  ·rw [if_pos hc, if_pos (this.2 hc)]
  ·rw [if_neg hc, if_neg (fun hh => hc (this.1 hh))]
theorem r18_next (ns : List Node) (i : Nat) (hi : i < ns.length) (h : isTr (nd ns i) = true) :
  r18 ns (i + 1) = (r18 ns i).set i (withKids (hd0 ns i) [((r18 ns i).length : Int)]) ++ [lo1 ns i] := by
 have hl := r18_len ns i
 rw [hl]
 unfold r18
 rw [lows_succ, if_pos h, List.map_append, List.set_append_left _ _ (by simpa using hi), List.append_assoc]
 congr 1
 refine List.ext_getElem (by simp) (fun p h1 h2 => ?_)
 have hp : p < ns.length := by simpa using h1
 rw [List.getElem_set]
 simp only [List.getElem_map, List.getElem_range]
 by_cases e : i = p
 ·subst e
  rw [if_pos rfl, if_pos ⟨by omega, h⟩]
 ·rw [if_neg e]
  have : (p < i + 1 ∧ isTr (nd ns p) = true) ↔ (p < i ∧ isTr (nd ns p) = true) := ⟨fun hh => ⟨by omega, hh.2⟩, fun hh => ⟨by omega, hh.2⟩⟩
  by_cases hc : p < i ∧ isTr (nd ns p) = true
  ·rw [if_pos hc, if_pos (this.2 hc)]
  ·rw [if_neg hc, if_neg (fun hh => hc (this.1 hh))]
theorem r18_hd_now (ns : List Node) (i : Nat) (hi : i < ns.length) : nd (r18 ns i) i = hd0 ns i := by rw [r18_hd ns i hi, if_neg (fun h => by omega)]
def phi (ns : List Node) (x : Int) : Int := if x < (ns.length : Int) then (pos ns x.toNat : Int) else ((pos ns ((lows ns ns.length).getD (x - ns.length).toNat 0) + 1 : Nat) : Int)
def rpos (ns : List Node) (p j : Nat) : Nat := if j = 0 then p else ns.length + cnt ns p
theorem r_find (ns : List Node) {x : Nat} (hx : x < ns.length + cnt ns ns.length) : ∃ p j, p < ns.length ∧ j < upLen (nd ns p) ∧ x = rpos ns p j := by
 by_cases h : x < ns.length
 ·exact ⟨x, 0, h, upLen_pos _, rfl⟩
 ·obtain ⟨p, h1, h2, h3, h4⟩ := lows_inv ns ns.length (x - ns.length) (by unfold cnt at hx; omega)
  have := tr_len h2
  exact ⟨p, 1, h1, by omega, by unfold rpos; rw [if_neg (by decide)]; omega⟩
theorem one_tr {ns : List Node} {p j : Nat} (hj : j < upLen (nd ns p)) (h0 : ¬ j = 0) : isTr (nd ns p) = true ∧ j = 1 := by
 have ht : isTr (nd ns p) = true := Classical.byContradiction fun hn => by have := tr_not hn; omega
 have := tr_len ht
 exact ⟨ht, by omega⟩
theorem phi_rpos (ns : List Node) {p j : Nat} (hp : p < ns.length) (hj : j < upLen (nd ns p)) : phi ns (rpos ns p j : Int) = ((pos ns p + j : Nat) : Int) := by
 unfold phi rpos
 by_cases h0 : j = 0
 ·subst h0
  rw [if_pos rfl, if_pos (by omega)]; rfl
 ·obtain ⟨ht, rfl⟩ := one_tr hj h0
  rw [if_neg h0, if_neg (by omega)]
  have e : ((ns.length + cnt ns p : Nat) : Int) - ns.length = (cnt ns p : Int) := by omega
  rw [e, Int.toNat_natCast, List.getD_eq_getElem?_getD, lows_at ns ns.length p hp ht]
  rfl
theorem cnt_lt (ns : List Node) {p n : Nat} (hp : p < n) (ht : isTr (nd ns p) = true) : cnt ns p < cnt ns n := (List.getElem?_eq_some_iff.1 (lows_at ns n p hp ht)).1
theorem nd_r18 (ns : List Node) {p j : Nat} (hp : p < ns.length) (hj : j < upLen (nd ns p)) :
  nd (r18 ns ns.length) (rpos ns p j) = if j = 0 then (if isTr (nd ns p) = true then withKids (hd0 ns p) [((ns.length + cnt ns p : Nat) : Int)] else hd0 ns p) else lo1 ns p := by
 unfold rpos
 by_cases h0 : j = 0
 ·rw [if_pos h0, if_pos h0, r18_hd ns _ hp]
  by_cases ht : isTr (nd ns p) = true
  ·rw [if_pos ⟨hp, ht⟩, if_pos ht]
  ·rw [if_neg (fun h => ht h.2), if_neg ht]
 ·obtain ⟨ht, rfl⟩ := one_tr hj h0
  rw [if_neg h0, if_neg h0, r18_lo ns _ (lows_at ns ns.length p hp ht)]
theorem r18_kids (ns : List Node) {p j : Nat} (hp : p < ns.length) (hj : j < upLen (nd ns p)) :
  kids (r18 ns ns.length) (rpos ns p j : Int) = if isTr (nd ns p) = true ∧ j = 0 then [((ns.length + cnt ns p : Nat) : Int)] else (nd ns p).kids := by
 unfold kids
 rw [Int.toNat_natCast, nd_r18 ns hp hj]
 by_cases h0 : j = 0
 ·rw [if_pos h0]
  by_cases ht : isTr (nd ns p) = true
  ·rw [if_pos ht, if_pos ⟨ht, h0⟩]; rfl
  ·rw [if_neg ht, if_neg (fun h => ht h.1)]
   unfold hd0
   rw [upN_eq]
   exact (upK_ntr ht 0 0 (nd ns p).kids []).2
 ·obtain ⟨ht, rfl⟩ := one_tr hj h0
  rw [if_neg h0, if_neg (fun h => h0 h.2)]
  unfold lo1
  rw [upN_eq, upK_tr ht]; rfl
theorem r18_places {ns : List Node} (hP : Places ns) : Places (r18 ns ns.length) := by
 intro x hx k hk
 rw [r18_len] at hx ⊢
 obtain ⟨p, j, hp, hj, rfl⟩ := r_find ns hx
 have hk' : k ∈ kids (r18 ns ns.length) (rpos ns p j : Int) := by unfold kids; rw [Int.toNat_natCast]; exact hk
 rw [r18_kids ns hp hj] at hk'
 by_cases hc : isTr (nd ns p) = true ∧ j = 0
 ·rw [if_pos hc] at hk'
  have := cnt_lt ns hp hc.1
  rw [List.mem_singleton.1 hk']
  omega
 ·rw [if_neg hc] at hk'
  have := hP p hp k hk'
  omega
theorem r18_iso {ns : List Node} (hP : Places ns) : Iso (mix ns ns.length ns.length) (r18 ns ns.length) (phi ns) := by
 have hl := r18_len ns ns.length
 have hul := U_len ns
 have hpc := pos_cnt ns ns.length
 have find : ∀ x, Pl (r18 ns ns.length) x → ∃ p j, p < ns.length ∧ j < upLen (nd ns p) ∧ x = (rpos ns p j : Int) := fun x hx => by
  obtain ⟨y, rfl⟩ : ∃ y : Nat, x = (y : Int) := ⟨x.toNat, by have := hx.1; omega⟩
  obtain ⟨p, j, h1, h2, h3⟩ := r_find ns (x := y) (by have := hx.2; omega)
  exact ⟨p, j, h1, h2, by rw [h3]⟩
 refine ⟨by omega, fun x hx => ?_, fun x y hx hy he => ?_, fun x hx => ?_⟩
 ·obtain ⟨p, j, hp, hj, rfl⟩ := find x hx
  rw [phi_rpos ns hp hj]
  have := up_pos_lt ns hp hj
  exact ⟨by omega, by omega⟩
 ·obtain ⟨p, j, hp, hj, rfl⟩ := find x hx
  obtain ⟨q, k, hq, hk, rfl⟩ := find y hy
  rw [phi_rpos ns hp hj, phi_rpos ns hq hk] at he
  obtain ⟨rfl, rfl⟩ := pos_inj ns hj hk (by omega)
  rfl
 ·obtain ⟨p, j, hp, hj, rfl⟩ := find x hx
  rw [phi_rpos ns hp hj, Int.toNat_natCast, Int.toNat_natCast, nd_mix ns ns.length ns.length p j hp (Nat.le_refl _) hj, nd_r18 ns hp hj, r18_kids ns hp hj]
  have hmk : mapK ns (nd ns p).kids = (nd ns p).kids.map (phi ns) := by
   unfold mapK
   refine List.map_congr_left (fun k hk => ?_)
   have := hP p hp k hk
   unfold phi
   rw [if_pos this.2]
  by_cases h0 : j = 0
  ·subst h0
   rw [if_pos rfl]
   by_cases ht : isTr (nd ns p) = true
   ·have h2 := tr_len ht
    rw [if_pos ht, if_pos ⟨ht, rfl⟩, upK_tr ht]
    unfold hd0
    rw [upN_eq, upK_tr ht, List.map_singleton]
    have := phi_rpos ns (j := 1) hp (by omega)
    unfold rpos at this
    rw [if_neg (by decide)] at this
    rw [this]
    rfl
   ·rw [if_neg ht, if_neg (fun h => ht h.1), (upK_ntr ht _ 0 (nd ns p).kids _).1, hmk]
    rfl
  ·obtain ⟨ht, rfl⟩ := one_tr hj h0
   rw [if_neg h0, if_neg (fun h => h0 h.2), upK_tr ht]
   unfold lo1
   rw [upN_eq, upK_tr ht, hmk]
   rfl
theorem r18_canon {s : Scene} (h : Right s) : canonL (upS s) = canonL (r18S s) ∧ Dag (r18S s).nodes ∧ Pl (r18S s).nodes (r18S s).root := by
 have hi := r18_iso h.pl
 have hP := r18_places h.pl
 have hr : Pl (r18S s).nodes (r18S s).root := ⟨h.r0, by
  show s.root < ((r18 s.nodes s.nodes.length).length : Int)
  rw [r18_len]
  have := h.r1
  omega⟩
 refine ⟨hi.canonL (s := upS s) (t := r18S s) hP hr ?_, hi.dag hP (upS_right h).cyc, hr⟩
 show ((pos s.nodes s.root.toNat : Nat) : Int) = phi s.nodes s.root
 unfold phi
 rw [if_pos h.r1]
end Go.Proofs.YtglfebpgdghlfaaDoor.L
end
section
namespace Go.Proofs.YtglfebpgdghlfaaDoor.L
open Go.RowKit Go.ChangeShapes Go.WideShapes Go.Proofs.YtglfebpgdghlfaaDoorW.PrintWords Go.Proofs.YtglfebpgdghlfaaDoorW.PrintLast Go.Proofs.YtglfebpgdghlfaaDoorW.PrintMore
attribute [local go_sem] max2_int min2_int max_two min_two max_three min_three max_four min_four
theorem findS_no (l : List Spec) (k : Int) (h : ∀ i : Nat, 1 ≤ i → i < l.length → k ≠ (i : Int)) : findS l k = none := by
  unfold findS
  rw [if_pos]
  rcases Int.lt_or_le k 1 with h1 | h1
  · exact .inl h1
  · refine .inr ?_
    rcases Int.lt_or_le k l.length with h2 | h2
    · exact absurd (Int.toNat_of_nonneg (show 0 ≤ k by omega)).symm (h k.toNat (by omega) (by omega))
    · exact h2
set_option maxRecDepth 100000 in
set_option maxHeartbeats 4000000 in
theorem rspec_1 (k : Int) (w : World) : Calls Tryd.prog 40 #[.int .i64 1, .int .i64 k] w (SpecPost (Past w.heap.size) (findS oldTab k) w) := by
  have HB := Aside0.mk (Below.refl w.heap.size w)
  have hu := Tryd.underlying66
  by_cases k1 : k = 1
  · subst k1
    have HE : Aside0 (findS oldTab 1 = some ⟨[], 0, 0, -1⟩) := ⟨rfl⟩
    go_enter Tryd.func40, Tryd.ntmps40
    go_wp2
    rw [HE.out]
    exact bodyPost_ret (v := .tuple #[.agg #[.slice none 0 0, .int .i64 0, .int .i64 0, .int .i64 (-1)], .bool true]) (by simp [results, Tryd.results40, go_sem]) rfl ⟨none, 0, rfl, ⟨Nat.le_refl _, C_nil _ _⟩, Past.none _, by repeat (first | with_reducible exact HB.out | with_reducible apply below_alloc | with_reducible apply pw_below_drewN | with_reducible apply below_drew1 | (with_reducible refine below_set ?_ (by first | omega | (simp; omega))))⟩
  by_cases k2 : k = 2
  · subst k2
    have HE : Aside0 (findS oldTab 2 = some ⟨[2, 2, 2, 2], 0, 1, 1⟩) := ⟨rfl⟩
    go_enter Tryd.func40, Tryd.ntmps40
    go_wp2
    rw [HE.out]
    exact bodyPost_ret (v := .tuple #[.agg #[.slice (some ⟨w.heap.size + 2, 0, none⟩) 4 4, .int .i64 0, .int .i64 1, .int .i64 (1)], .bool true]) (by simp [results, Tryd.results40, go_sem]) rfl ⟨(some ⟨w.heap.size + 2, 0, none⟩), 4, rfl, ⟨Nat.le_refl _, C_ints _ 3 _ (by simp) [2, 2, 2, 2] (by decide) rfl⟩, fun ad h => by cases h; simp, by repeat (first | with_reducible exact HB.out | with_reducible apply below_alloc | with_reducible apply pw_below_drewN | with_reducible apply below_drew1 | (with_reducible refine below_set ?_ (by first | omega | (simp; omega))))⟩
  by_cases k3 : k = 3
  · subst k3
    have HE : Aside0 (findS oldTab 3 = some ⟨[3], 1, 0, 0⟩) := ⟨rfl⟩
    go_enter Tryd.func40, Tryd.ntmps40
    go_wp2
    rw [HE.out]
    exact bodyPost_ret (v := .tuple #[.agg #[.slice (some ⟨w.heap.size + 2, 0, none⟩) 1 1, .int .i64 1, .int .i64 0, .int .i64 (0)], .bool true]) (by simp [results, Tryd.results40, go_sem]) rfl ⟨(some ⟨w.heap.size + 2, 0, none⟩), 1, rfl, ⟨Nat.le_refl _, C_ints _ 3 _ (by simp) [3] (by decide) rfl⟩, fun ad h => by cases h; simp, by repeat (first | with_reducible exact HB.out | with_reducible apply below_alloc | with_reducible apply pw_below_drewN | with_reducible apply below_drew1 | (with_reducible refine below_set ?_ (by first | omega | (simp; omega))))⟩
  by_cases k4 : k = 4
  · subst k4
    have HE : Aside0 (findS oldTab 4 = some ⟨[3], 1, 0, 0⟩) := ⟨rfl⟩
    go_enter Tryd.func40, Tryd.ntmps40
    go_wp2
    rw [HE.out]
    exact bodyPost_ret (v := .tuple #[.agg #[.slice (some ⟨w.heap.size + 2, 0, none⟩) 1 1, .int .i64 1, .int .i64 0, .int .i64 (0)], .bool true]) (by simp [results, Tryd.results40, go_sem]) rfl ⟨(some ⟨w.heap.size + 2, 0, none⟩), 1, rfl, ⟨Nat.le_refl _, C_ints _ 3 _ (by simp) [3] (by decide) rfl⟩, fun ad h => by cases h; simp, by repeat (first | with_reducible exact HB.out | with_reducible apply below_alloc | with_reducible apply pw_below_drewN | with_reducible apply below_drew1 | (with_reducible refine below_set ?_ (by first | omega | (simp; omega))))⟩
  by_cases k5 : k = 5
  · subst k5
    have HE : Aside0 (findS oldTab 5 = some ⟨[], 1, 0, 0⟩) := ⟨rfl⟩
    go_enter Tryd.func40, Tryd.ntmps40
    go_wp2
    rw [HE.out]
    exact bodyPost_ret (v := .tuple #[.agg #[.slice none 0 0, .int .i64 1, .int .i64 0, .int .i64 (0)], .bool true]) (by simp [results, Tryd.results40, go_sem]) rfl ⟨none, 0, rfl, ⟨Nat.le_refl _, C_nil _ _⟩, Past.none _, by repeat (first | with_reducible exact HB.out | with_reducible apply below_alloc | with_reducible apply pw_below_drewN | with_reducible apply below_drew1 | (with_reducible refine below_set ?_ (by first | omega | (simp; omega))))⟩
  by_cases k6 : k = 6
  · subst k6
    have HE : Aside0 (findS oldTab 6 = some ⟨[4], 0, 0, 0⟩) := ⟨rfl⟩
    go_enter Tryd.func40, Tryd.ntmps40
    go_wp2
    rw [HE.out]
    exact bodyPost_ret (v := .tuple #[.agg #[.slice (some ⟨w.heap.size + 2, 0, none⟩) 1 1, .int .i64 0, .int .i64 0, .int .i64 (0)], .bool true]) (by simp [results, Tryd.results40, go_sem]) rfl ⟨(some ⟨w.heap.size + 2, 0, none⟩), 1, rfl, ⟨Nat.le_refl _, C_ints _ 3 _ (by simp) [4] (by decide) rfl⟩, fun ad h => by cases h; simp, by repeat (first | with_reducible exact HB.out | with_reducible apply below_alloc | with_reducible apply pw_below_drewN | with_reducible apply below_drew1 | (with_reducible refine below_set ?_ (by first | omega | (simp; omega))))⟩
  have HE : Aside0 (findS oldTab k = none) := ⟨findS_no _ _ (fun i h1 h2 => by simp [oldTab] at h2; omega)⟩
  go_enter Tryd.func40, Tryd.ntmps40
  go_wp2
  rw [HE.out]
  exact bodyPost_ret (v := .tuple #[.agg #[.slice none 0 0, .int .i64 0, .int .i64 0, .int .i64 0], .bool false]) (by simp [results, Tryd.results40, go_sem]) rfl ⟨none, 0, rfl, ⟨Nat.le_refl _, C_nil _ _⟩, Past.none _, by repeat (first | with_reducible exact HB.out | with_reducible apply below_alloc | with_reducible apply pw_below_drewN | with_reducible apply below_drew1 | (with_reducible refine below_set ?_ (by first | omega | (simp; omega))))⟩
end Go.Proofs.YtglfebpgdghlfaaDoor.L
end
section
namespace Go.Proofs.YtglfebpgdghlfaaDoor.L
open Go.RowKit Go.ChangeShapes Go.WideShapes Go.Proofs.YtglfebpgdghlfaaDoorW.PrintWords Go.Proofs.YtglfebpgdghlfaaDoorW.PrintLast Go.Proofs.YtglfebpgdghlfaaDoorW.PrintMore
attribute [local go_sem] max2_int min2_int max_two min_two max_three min_three max_four min_four
theorem RowsPost.two2 {w W : World} {k0 k1 : Int} {l0 q0 l1 q1 : List Int} {v6 v7 v13 v15 : Value} {g : Nat} (h6 : (Kd.int .i64).R 2 W w.heap.size (fun _ => True) v6 l0) (h7 : (Kd.int .i64).R 3 W w.heap.size (fun _ => True) v7 q0) (h13 : (Kd.int .i64).R 2 W w.heap.size (fun _ => True) v13 l1)
    (h15 : (Kd.int .i64).R 3 W w.heap.size (fun _ => True) v15 q1)
    (hne : ∀ k, v6.ownBlock = some k → v13.ownBlock = some k → False) (hne2 : ∀ k, v7.ownBlock = some k → v15.ownBlock = some k → False) (hB : Below w.heap.size w W) (hg : W.heap.size = g) :
    RowsPost [⟨k0, l0, [], q0⟩, ⟨k1, l1, [], q1⟩] w (.returned (.slice (some ⟨g, 0, none⟩) 2 2)) (W.alloc (.cells #[.int .i64 k0, v6, .slice none 0 0, v7, .int .i64 k1, v13, .slice none 0 0, v15] 26)) := by
  subst hg
  have typ : ∀ {v v' : Value} {l l' : List Int} {T T' : TypeId}, (Kd.int .i64).R T W w.heap.size (fun _ => True) v l → (Kd.int .i64).R T' W w.heap.size (fun _ => True) v' l' → T ≠ T' → ∀ k, some k = v.ownBlock → some k = v'.ownBlock → False := fun h h' hT k e e' => by
    obtain ⟨c1, e1⟩ := Kd.R_typed h k e.symm
    obtain ⟨c2, e2⟩ := Kd.R_typed h' k e'.symm
    rw [e1] at e2
    injection e2 with e2
    injection e2 with _ e2
    exact hT e2
  refine ⟨_, _, rfl, S_of_lits kNode W w.heap.size 26 [⟨k0, l0, [], q0⟩, ⟨k1, l1, [], q1⟩] [.int .i64 k0, v6, .slice none 0 0, v7, .int .i64 k1, v13, .slice none 0 0, v15]
    (fun j k => (j = 0 ∧ (some k = v6.ownBlock ∨ some k = v7.ownBlock)) ∨ (j = 1 ∧ (some k = v13.ownBlock ∨ some k = v15.ownBlock))) (fun i j k h1 h2 => ?_) rfl (fun j x hj => ?_) hB.size (by simp), below_step hB (below_alloc (Below.refl _ _) _)⟩
  · have key : ∀ k, (some k = v6.ownBlock ∨ some k = v7.ownBlock) → (some k = v13.ownBlock ∨ some k = v15.ownBlock) → False := fun k h1 h2 => by
      rcases h1 with h1 | h1
      · rcases h2 with h2 | h2
        · exact hne k h1.symm h2.symm
        · exact typ h6 h15 (by decide) k h1 h2
      · rcases h2 with h2 | h2
        · exact typ h7 h13 (by decide) k h1 h2
        · exact hne2 k h1.symm h2.symm
    rcases h1 with ⟨rfl, h1⟩ | ⟨rfl, h1⟩
    · rcases h2 with ⟨rfl, h2⟩ | ⟨rfl, h2⟩
      · rfl
      · exact (key k h1 h2).elim
    · rcases h2 with ⟨rfl, h2⟩ | ⟨rfl, h2⟩
      · exact (key k h2 h1).elim
      · rfl
  · match j, hj with
    | 0, hj =>
      injection hj with hj
      subst hj
      exact kNode_mkM (Kd.R_mono (Kd.R_tight rfl h6) (fun k hk => .inl ⟨rfl, .inl hk⟩)) (Kd.R_nil _ _ _ _ _) (Kd.R_mono (Kd.R_tight rfl h7) (fun k hk => .inl ⟨rfl, .inr hk⟩))
    | 1, hj =>
      injection hj with hj
      subst hj
      exact kNode_mkM (Kd.R_mono (Kd.R_tight rfl h13) (fun k hk => .inr ⟨rfl, .inl hk⟩)) (Kd.R_nil _ _ _ _ _) (Kd.R_mono (Kd.R_tight rfl h15) (fun k hk => .inr ⟨rfl, .inr hk⟩))
    | j + 2, hj => simp at hj
theorem RowsPost.drew {l : List Node} {w W : World} {e : Ending} (h : RowsPost l w e W) : RowsPost l w e W.drew := by
  obtain ⟨g, c, he, hS, hB⟩ := h
  exact ⟨g, c, he, Kd.S_drew hS, below_drew hB⟩
theorem UpPost.of {n : Node} {l : List Node} {w W : World} {A : Option Addr} {m c : Nat} (hE : upR n = (l, 0)) (h : RowsPost l w (.returned (.slice A m c)) W) : UpPost (upR n) w (.returned (.tuple #[.slice A m c, .int .i64 0])) W := by
  rw [hE]
  obtain ⟨g, c', he, hS, hB⟩ := h
  injection he with he
  injection he with e1 e2 e3
  subst e1 e2 e3
  exact ⟨_, _, rfl, hS, hB⟩
set_option maxRecDepth 100000 in
set_option maxHeartbeats 16000000 in
theorem rnode_any (n : Node) (A1 : Option Addr) (c1 : Nat) (A2 : Option Addr) (c2 : Nat) (A3 : Option Addr) (c3 : Nat) (w : World) (h : NodeC w n A1 c1 A2 c2 A3 c3) (hs : Small n) (hts : TextsSmall n) :
    Calls Tryd.prog 15 #[.agg #[.int .i64 n.kind, .slice A1 n.ints.length c1, .slice A2 n.texts.length c2, .slice A3 n.kids.length c3]] w (UpPost (upR n) w) := by
  have HN := Aside0.mk h
  have HS := Aside0.mk hs
  have HTS := Aside0.mk hts
  have HB := Aside0.mk (below_alloc (Below.refl w.heap.size w) (.cells #[.int .i64 n.kind, .slice A1 n.ints.length c1, .slice A2 n.texts.length c2, .slice A3 n.kids.length c3] 26))
  have k0 := box_cell w _ rfl #[.int .i64 n.kind, .slice A1 n.ints.length c1, .slice A2 n.texts.length c2, .slice A3 n.kids.length c3] 26 0 (.int .i64 n.kind) rfl
  have k1 := box_cell w _ rfl #[.int .i64 n.kind, .slice A1 n.ints.length c1, .slice A2 n.texts.length c2, .slice A3 n.kids.length c3] 26 1 (.slice A1 n.ints.length c1) rfl
  have k2 := box_cell w _ rfl #[.int .i64 n.kind, .slice A1 n.ints.length c1, .slice A2 n.texts.length c2, .slice A3 n.kids.length c3] 26 2 (.slice A2 n.texts.length c2) rfl
  have k3 := box_cell w _ rfl #[.int .i64 n.kind, .slice A1 n.ints.length c1, .slice A2 n.texts.length c2, .slice A3 n.kids.length c3] 26 3 (.slice A3 n.kids.length c3) rfl
  have hun := Tryd.underlying26
  have hus := Tryd.underlying66
  clear h hs hts
  go_enter Tryd.func15, Tryd.ntmps15
  go_wp2_with fail
  refine (rspec_1 n.kind _).mono ?_
  rintro e w6 ⟨A4, c4, rfl, hS6, -, hB6⟩
  replace k0 := pw_cell_below hB6 k0
  replace k1 := pw_cell_below hB6 k1
  replace k2 := pw_cell_below hB6 k2
  replace k3 := pw_cell_below hB6 k3
  have HB6 := Aside0.mk (below_step HB.out hB6)
  cases hf : findS oldTab n.kind with
  | none =>
    have HE := Aside0.mk (show upR n = ([], 9) from by
      have : nodeT oldTab n = 9 := by unfold nodeT; rw [hf]
      unfold upR; rw [this, if_neg (by decide)])
    clear hf hS6 hB6
    go_wp2
    go_ret2
    exact ⟨none, 0, by rw [HE.out]; rfl, by rw [HE.out]; exact Kd.S_nil _ _ _ _ _, below_step HB6.out (below_alloc (Below.refl _ _) _)⟩
  | some sp =>
    have HF := Aside0.mk hf
    have HE2 := Aside0.mk (show nodeT oldTab n = nodeErr n sp from by unfold nodeT; rw [hf])
    rw [hf] at hS6
    have hbs := below_alloc (Below.refl w6.heap.size w6) (.cells #[.slice A4 sp.ints.length c4, .int .i64 sp.texts, .int .i64 sp.least, .int .i64 sp.most] 66)
    have hbx : (w6.alloc (.cells #[.slice A4 sp.ints.length c4, .int .i64 sp.texts, .int .i64 sp.least, .int .i64 sp.most] 66)).heap[w6.heap.size]? = some (.cells #[.slice A4 sp.ints.length c4, .int .i64 sp.texts, .int .i64 sp.least, .int .i64 sp.most] 66 (0, 0)) := by simpa using heap_alloc_new w6 _
    replace k0 := pw_cell_below hbs k0
    replace k1 := pw_cell_below hbs k1
    replace k2 := pw_cell_below hbs k2
    replace k3 := pw_cell_below hbs k3
    have q0 := (blk_cell hbx 0).trans rfl
    have q1 := (blk_cell hbx 1).trans rfl
    have q2 := (blk_cell hbx 2).trans rfl
    have q3 := (blk_cell hbx 3).trans rfl
    have HS6 := Aside0.mk (SpecC.below hS6 hbs)
    have HB7 := Aside0.mk (below_step HB6.out hbs)
    clear hf hS6 hB6 hbs hbx
    go_wp2_with fail
    refine (rcheck_any n A1 c1 A2 c2 A3 c3 sp A4 c4 _ (HN.out.below HB7.out) HS6.out HTS.out HS.out).mono ?_
    rintro e w8 ⟨rfl, hB8⟩
    have HB8 := Aside0.mk (below_step HB7.out hB8)
    replace k0 := pw_cell_below hB8 k0
    replace k1 := pw_cell_below hB8 k1
    replace k2 := pw_cell_below hB8 k2
    replace k3 := pw_cell_below hB8 k3
    clear hB8 q0 q1 q2 q3
    by_cases hz : ¬ nodeErr n sp = 0
    · have HZ := Aside0.mk (show upR n = ([], nodeErr n sp) from by unfold upR; rw [HE2.out, if_neg hz])
      have hz1 : (nodeErr n sp != 0) = true := by simp [hz]
      clear hz
      go_wp2
      go_ret2
      exact ⟨none, 0, by rw [HZ.out]; rfl, by rw [HZ.out]; exact Kd.S_nil _ _ _ _ _, HB8.out⟩
    replace hz := Classical.byContradiction hz
    have HE := Aside0.mk (show upR n = (upN n, 0) from by unfold upR; rw [if_pos (HE2.out.trans hz)])
    have HLen := Aside0.mk (fun {k : Int} {y : Spec} (hk : n.kind = k) (hy : findS oldTab k = some y) => node_len HF.out hz hk hy)
    have HK := Aside0.mk (old_kind HF.out)
    rw [hz]
    clear hz
    go_wp2_with fail
    refine (rcopy_any n A1 c1 A2 c2 A3 c3 _ (HN.out.below HB8.out) HS.out).mono ?_
    rintro e w9 ⟨_, rfl, ⟨v1, v2, v3, rfl, hM⟩, hB9⟩
    obtain ⟨v1', v2', v3', ev, hR1, hR2, hR3⟩ := kNode_openM hM
    injection ev with _ ev
    injection ev with e1 ev
    injection ev with e2 ev
    injection ev with e3 _
    subst e1 e2 e3
    obtain ⟨B1, d1, rfl⟩ := Kd.R_slice hR1
    obtain ⟨B2, d2, rfl⟩ := Kd.R_slice hR2
    obtain ⟨B3, d3, rfl⟩ := Kd.R_slice hR3
    have HB9 := Aside0.mk (below_step (below_step HB8.out hB9) (below_alloc (Below.refl _ _) (.cells #[.int .i64 n.kind, .slice B1 n.ints.length d1, .slice B2 n.texts.length d2, .slice B3 n.kids.length d3] 26)))
    have HR1 := Aside0.mk (Kd.R_lower (Kd.R_alloc hR1 (.cells #[.int .i64 n.kind, .slice B1 n.ints.length d1, .slice B2 n.texts.length d2, .slice B3 n.kids.length d3] 26)) HB8.out.size)
    have HR2 := Aside0.mk (Kd.R_lower (Kd.R_alloc hR2 (.cells #[.int .i64 n.kind, .slice B1 n.ints.length d1, .slice B2 n.texts.length d2, .slice B3 n.kids.length d3] 26)) HB8.out.size)
    have HR3 := Aside0.mk (Kd.R_lower (Kd.R_alloc hR3 (.cells #[.int .i64 n.kind, .slice B1 n.ints.length d1, .slice B2 n.texts.length d2, .slice B3 n.kids.length d3] 26)) HB8.out.size)
    replace k0 := pw_cell_below (below_alloc (Below.refl _ _) (.cells #[.int .i64 n.kind, .slice B1 n.ints.length d1, .slice B2 n.texts.length d2, .slice B3 n.kids.length d3] 26)) (pw_cell_below hB9 k0)
    replace k1 := pw_cell_below (below_alloc (Below.refl _ _) (.cells #[.int .i64 n.kind, .slice B1 n.ints.length d1, .slice B2 n.texts.length d2, .slice B3 n.kids.length d3] 26)) (pw_cell_below hB9 k1)
    replace k2 := pw_cell_below (below_alloc (Below.refl _ _) (.cells #[.int .i64 n.kind, .slice B1 n.ints.length d1, .slice B2 n.texts.length d2, .slice B3 n.kids.length d3] 26)) (pw_cell_below hB9 k2)
    have q1 := box_cell w9 _ rfl #[.int .i64 n.kind, .slice B1 n.ints.length d1, .slice B2 n.texts.length d2, .slice B3 n.kids.length d3] 26 1 (.slice B1 n.ints.length d1) rfl
    have q2 := box_cell w9 _ rfl #[.int .i64 n.kind, .slice B1 n.ints.length d1, .slice B2 n.texts.length d2, .slice B3 n.kids.length d3] 26 2 (.slice B2 n.texts.length d2) rfl
    have q3 := box_cell w9 _ rfl #[.int .i64 n.kind, .slice B1 n.ints.length d1, .slice B2 n.texts.length d2, .slice B3 n.kids.length d3] 26 3 (.slice B3 n.kids.length d3) rfl
    have HLt1 := Aside0.mk (Kd.R_lt hR1)
    have HLt3 := Aside0.mk (Kd.R_lt hR3)
    clear hM hR1 hR2 hR3 hB9 k3
    have hk6 : n.kind = 1 ∨ n.kind = 2 ∨ n.kind = 3 ∨ n.kind = 4 ∨ n.kind = 5 ∨ n.kind = 6 := by have := HK.out; omega
    rcases hk6 with hk | hk | hk | hk | hk | hk
    · have HUN : Aside0 (upR n = ([⟨1, [], [ByteArray.empty], n.kids⟩], 0)) := ⟨by rw [HE.out]; unfold upN; rw [hk]; rfl⟩
      replace k0 := k0.trans (by rw [hk])
      clear hk
      go_wp2
      go_ret2
      exact UpPost.of HUN.out (RowsPost.one (n := ⟨1, [], [ByteArray.empty], n.kids⟩) (kNode_mkM (Kd.R_nil _ _ _ _ _) (R_strs _ _ _ (by simp) [ByteArray.empty] (by have := HB9.out.size; simpa using this) (by simp) rfl) (Kd.R_alloc HR3.out _)) (below_step HB9.out (below_alloc (Below.refl _ _) _)) (by simp))
    · have HUN : Aside0 (upR n = ([⟨2, n.ints.take 3, [], [0]⟩, ⟨8, [rd n.ints 3, rd n.ints 3, rd n.ints 3], [], n.kids⟩], 0)) := ⟨by rw [HE.out]; unfold upN; rw [hk]; rfl⟩
      have hl : n.ints.length = 4 := (HLen.out hk rfl).1
      replace k0 := k0.trans (by rw [hk])
      obtain ⟨ad, rfl, x3⟩ := at_nat (HN.out.below HB9.out).i 3 (by omega)
      have hr : rd n.ints ((3 : Nat) : Int) = rd n.ints 3 := rfl
      rw [hr] at x3
      obtain ⟨bd, rfl, _⟩ := at_nat (Kd.R_reads' HR1.out).2.2 0 (by omega)
      have hcap : 4 ≤ d1 := by have := (Kd.R_reads' HR1.out).2.1; omega
      have hcapI : (3 : Int) ≤ (d1 : Int) := by omega
      have HT1 := Aside0.mk (Kd.R_take HR1.out (show 3 ≤ n.ints.length by omega))
      have hne : ∀ (m k : Nat) (o : Nat) (c : Nat), (Value.slice (some bd) 3 d1).ownBlock = some k → (Value.slice (some ⟨w9.heap.size + m, 0, none⟩) o c).ownBlock = some k → False := fun m k o c h1 h2 => by
        have e1 := HLt1.out k h1
        have e2 : w9.heap.size + m = k := by simpa [Value.ownBlock] using h2
        omega
      have hne3 : ∀ (m k : Nat) (o : Nat) (c : Nat), (Value.slice (some ⟨w9.heap.size + m, 0, none⟩) o c).ownBlock = some k → (Value.slice B3 n.kids.length d3).ownBlock = some k → False := fun m k o c h2 h1 => by
        have e1 := HLt3.out k h1
        have e2 : w9.heap.size + m = k := by simpa [Value.ownBlock] using h2
        omega
      have HNe := Aside0.mk hne
      have HNe3 := Aside0.mk hne3
      replace x3 : (w9.alloc (.cells #[.int .i64 n.kind, .slice (some bd) n.ints.length d1, .slice B2 n.texts.length d2, .slice B3 n.kids.length d3] 26)).cell? ⟨ad.block, ad.off + 3, none⟩ = some (.int .i64 (rd n.ints 3)) := x3
      clear hk hr hne hne3
      rw [hl] at k1 q1 x3 k2 q2 q3 k0 HT1 HR1 HR3 HB9 ⊢
      go_wp2
      go_region_held3 (fun W => W.cell? ⟨w9.heap.size, 1, none⟩ = some (.slice (some bd) 4 d1) ∧ W.cell? ⟨w9.heap.size, 3, none⟩ = some (.slice B3 n.kids.length d3))
          (first
            | (go_split_ands
               (repeat' apply And.intro)
               all_goals first
                 | with_reducible assumption
                 | with_reducible exact pw_cell_below (below_drew (Below.refl _ _)) (by assumption)
                 | with_reducible exact pw_cell_below (below_alloc (Below.refl _ _) _) (by assumption)
                 | with_reducible exact pw_cell_below (below_drew (below_alloc (Below.refl _ _) _)) (by assumption)
                 | with_reducible exact pw_cell_below (below_drew (below_alloc (below_alloc (Below.refl _ _) _) _)) (by assumption)
                 | with_reducible exact pw_cell_below (below_drew (below_alloc (below_alloc (below_alloc (Below.refl _ _) _) _) _)) (by assumption)
                 | (simp [*]; done)))
          (fail)
      all_goals
        go_wp2
        go_ret2
        first
          | exact UpPost.of HUN.out (RowsPost.drew (RowsPost.two2 (Kd.R_alloc (Kd.R_alloc HT1.out _) _) (Kd.R_alloc (R_nums 3 _ _ _ (by simp) [0] HB9.out.size (by simp) rfl) _) (R_nums 2 _ _ _ (by simp) [rd n.ints 3, rd n.ints 3, rd n.ints 3] (below_alloc HB9.out _).size (by simp) rfl) (Kd.R_alloc (Kd.R_alloc HR3.out _) _)
             (fun k h1 h2 => HNe.out 2 k _ _ h1 h2) (fun k h1 h2 => HNe3.out 1 k _ _ h1 h2) (below_alloc (below_alloc HB9.out _) _) (by simp)))
          | exact UpPost.of HUN.out (RowsPost.drew (RowsPost.two2 (Kd.R_alloc (Kd.R_alloc HT1.out _) _) (R_nums 3 _ _ _ (by simp) [0] (below_alloc HB9.out _).size (by simp) rfl) (Kd.R_alloc (R_nums 2 _ _ _ (by simp) [rd n.ints 3, rd n.ints 3, rd n.ints 3] HB9.out.size (by simp) rfl) _) (Kd.R_alloc (Kd.R_alloc HR3.out _) _)
             (fun k h1 h2 => HNe.out 1 k _ _ h1 h2) (fun k h1 h2 => HNe3.out 2 k _ _ h1 h2) (below_alloc (below_alloc HB9.out _) _) (by simp)))
    · have HUN : Aside0 (upR n = ([⟨3, [rd n.ints 0, rd n.ints 0, rd n.ints 0], n.texts, n.kids⟩], 0)) := ⟨by rw [HE.out]; unfold upN; rw [hk]; rfl⟩
      have hl : 0 < n.ints.length := pos1 (HLen.out hk rfl).1 (by decide)
      replace k0 := k0.trans (by rw [hk])
      obtain ⟨ad, rfl, x0⟩ := at_nat (HN.out.below HB9.out).i 0 hl
      rw [show ad.add 0 = ad from rfl] at x0
      have hr : rd n.ints ((0 : Nat) : Int) = rd n.ints 0 := rfl
      rw [hr] at x0
      clear hk hr
      go_wp2
      go_region_held3 (fun W => W.cell? ⟨w.heap.size, 1, none⟩ = some (.slice (some ad) n.ints.length c1) ∧ W.cell? ad = some (.int .i64 (rd n.ints 0)) ∧ W.cell? ⟨w9.heap.size, 2, none⟩ = some (.slice B2 n.texts.length d2) ∧ W.cell? ⟨w9.heap.size, 3, none⟩ = some (.slice B3 n.kids.length d3))
          (first
            | (go_split_ands
               (repeat' apply And.intro)
               all_goals first
                 | with_reducible assumption
                 | with_reducible exact pw_cell_below (below_drew (Below.refl _ _)) (by assumption)
                 | with_reducible exact pw_cell_below (below_alloc (Below.refl _ _) _) (by assumption)
                 | with_reducible exact pw_cell_below (below_drew (below_alloc (Below.refl _ _) _)) (by assumption)
                 | with_reducible exact pw_cell_below (below_drew (below_alloc (below_alloc (Below.refl _ _) _) _)) (by assumption)
                 | with_reducible exact pw_cell_below (below_drew (below_alloc (below_alloc (below_alloc (Below.refl _ _) _) _) _)) (by assumption)
                 | (simp [*]; done)))
          (fail)
      go_wp2
      go_ret2
      exact UpPost.of HUN.out (RowsPost.drew (RowsPost.one (n := ⟨3, [rd n.ints 0, rd n.ints 0, rd n.ints 0], n.texts, n.kids⟩) (kNode_mkM (R_nums 2 _ _ _ (by simp) [rd n.ints 0, rd n.ints 0, rd n.ints 0] HB9.out.size (by simp) rfl) (Kd.R_alloc HR2.out _) (Kd.R_alloc HR3.out _)) (below_step HB9.out (below_alloc (Below.refl _ _) _)) (by simp)))
    · have HUN : Aside0 (upR n = ([⟨4, n.ints, n.texts, n.kids⟩], 0)) := ⟨by rw [HE.out]; unfold upN; rw [hk]; rfl⟩
      replace k0 := k0.trans (by rw [hk])
      clear hk
      go_wp2
      go_ret2
      exact UpPost.of HUN.out (RowsPost.one (n := ⟨4, n.ints, n.texts, n.kids⟩) (kNode_mkM HR1.out HR2.out HR3.out) HB9.out (by simp))
    · have HUN : Aside0 (upR n = ([⟨5, [65536], [str n.texts 0, ⟨#[115, 97, 110, 115]⟩], n.kids⟩], 0)) := ⟨by rw [HE.out]; unfold upN; rw [hk]; rfl⟩
      have hl : 0 < n.texts.length := pos5 (HLen.out hk rfl).2
      replace k0 := k0.trans (by rw [hk])
      obtain ⟨ad, rfl, x0⟩ := at_str (HN.out.below HB9.out).t 0 hl
      rw [show ad.add 0 = ad from rfl] at x0
      clear hk
      go_wp2
      go_region_held3 (fun W => W.cell? ⟨w.heap.size, 2, none⟩ = some (.slice (some ad) n.texts.length c2) ∧ W.cell? ad = some (.string (str n.texts 0)) ∧ W.cell? ⟨w9.heap.size, 3, none⟩ = some (.slice B3 n.kids.length d3))
          (first
            | (go_split_ands
               (repeat' apply And.intro)
               all_goals first
                 | with_reducible assumption
                 | with_reducible exact pw_cell_below (below_drew (Below.refl _ _)) (by assumption)
                 | with_reducible exact pw_cell_below (below_alloc (Below.refl _ _) _) (by assumption)
                 | with_reducible exact pw_cell_below (below_drew (below_alloc (Below.refl _ _) _)) (by assumption)
                 | with_reducible exact pw_cell_below (below_drew (below_alloc (below_alloc (Below.refl _ _) _) _)) (by assumption)
                 | with_reducible exact pw_cell_below (below_drew (below_alloc (below_alloc (below_alloc (Below.refl _ _) _) _) _)) (by assumption)
                 | (simp [*]; done)))
          (fail)
      · go_wp2
        go_ret2
        exact UpPost.of HUN.out (RowsPost.drew (RowsPost.one (n := ⟨5, [65536], [str n.texts 0, ⟨#[115, 97, 110, 115]⟩], n.kids⟩) (kNode_mkM (Kd.R_alloc (R_nums 2 _ _ _ (by simp) [65536] HB9.out.size (by simp) rfl) _) (R_strs _ _ _ (by simp) [str n.texts 0, ⟨#[115, 97, 110, 115]⟩] (below_alloc HB9.out _).size (by simp) rfl) (Kd.R_alloc (Kd.R_alloc HR3.out _) _)) (below_alloc (below_alloc HB9.out _) _) (by simp)))
      · go_wp2
        go_ret2
        exact UpPost.of HUN.out (RowsPost.drew (RowsPost.one (n := ⟨5, [65536], [str n.texts 0, ⟨#[115, 97, 110, 115]⟩], n.kids⟩) (kNode_mkM (R_nums 2 _ _ _ (by simp) [65536] (below_alloc HB9.out _).size (by simp) rfl) (Kd.R_alloc (R_strs _ _ _ (by simp) [str n.texts 0, ⟨#[115, 97, 110, 115]⟩] HB9.out.size (by simp) rfl) _) (Kd.R_alloc (Kd.R_alloc HR3.out _) _)) (below_alloc (below_alloc HB9.out _) _) (by simp)))
    · have HUN : Aside0 (upR n = ([⟨7, [rd n.ints 0, rd n.ints 0, rd n.ints 0, 1], [], n.kids⟩], 0)) := ⟨by rw [HE.out]; unfold upN; rw [hk]; rfl⟩
      have hl : 0 < n.ints.length := pos1 (HLen.out hk rfl).1 (by decide)
      replace k0 := k0.trans (by rw [hk])
      obtain ⟨ad, rfl, x0⟩ := at_nat (HN.out.below HB9.out).i 0 hl
      rw [show ad.add 0 = ad from rfl] at x0
      have hr : rd n.ints ((0 : Nat) : Int) = rd n.ints 0 := rfl
      rw [hr] at x0
      clear hk hr
      go_wp2
      go_region_held3 (fun W => W.cell? ⟨w.heap.size, 1, none⟩ = some (.slice (some ad) n.ints.length c1) ∧ W.cell? ad = some (.int .i64 (rd n.ints 0)) ∧ W.cell? ⟨w9.heap.size, 2, none⟩ = some (.slice B2 n.texts.length d2) ∧ W.cell? ⟨w9.heap.size, 3, none⟩ = some (.slice B3 n.kids.length d3))
          (first
            | (go_split_ands
               (repeat' apply And.intro)
               all_goals first
                 | with_reducible assumption
                 | with_reducible exact pw_cell_below (below_drew (Below.refl _ _)) (by assumption)
                 | with_reducible exact pw_cell_below (below_alloc (Below.refl _ _) _) (by assumption)
                 | with_reducible exact pw_cell_below (below_drew (below_alloc (Below.refl _ _) _)) (by assumption)
                 | with_reducible exact pw_cell_below (below_drew (below_alloc (below_alloc (Below.refl _ _) _) _)) (by assumption)
                 | with_reducible exact pw_cell_below (below_drew (below_alloc (below_alloc (below_alloc (Below.refl _ _) _) _) _)) (by assumption)
                 | (simp [*]; done)))
          (fail)
      go_wp2
      go_ret2
      exact UpPost.of HUN.out (RowsPost.drew (RowsPost.one (n := ⟨7, [rd n.ints 0, rd n.ints 0, rd n.ints 0, 1], [], n.kids⟩) (kNode_mkM (R_nums 2 _ _ _ (by simp) [rd n.ints 0, rd n.ints 0, rd n.ints 0, 1] HB9.out.size (by simp) rfl) (Kd.R_nil _ _ _ _ _) (Kd.R_alloc HR3.out _)) (below_step HB9.out (below_alloc (Below.refl _ _) _)) (by simp)))
end Go.Proofs.YtglfebpgdghlfaaDoor.L
end
section
namespace Go.Proofs.YtglfebpgdghlfaaDoor.L
open Go.RowKit Go.ChangeShapes Go.WideShapes Go.Proofs.YtglfebpgdghlfaaDoorW.PrintWords Go.Proofs.YtglfebpgdghlfaaDoorW.PrintLast Go.Proofs.YtglfebpgdghlfaaDoorW.PrintMore
attribute [local go_sem] max2_int min2_int max_two min_two max_three min_three max_four min_four
open Go.Proofs.YtglfebpgdghlfaaDoor.PUpgradeUps
theorem CnRel.kid {w1 : World} {root : Int} {xs : List Node} {g m c : Nat} {W : World} (h : CnRel w1 root xs (.slice (some ⟨g, 0, none⟩) m c) W) (i : Nat) (hi : i < m) {v : Value} {q : List Int} (hv : (Kd.int .i64).R 3 W w1.heap.size (fun _ => True) v q) :
    (∃ x, W.cell? ⟨g, i * 4 + 3, none⟩ = some x) ∧ W.frozen? ⟨g, i * 4 + 3, none⟩ = false ∧ CnRel w1 root (xs.set i (withKids (nd xs i) q)) (.slice (some ⟨g, 0, none⟩) m c) (W.setCell ⟨g, i * 4 + 3, none⟩ v) := by
  obtain ⟨cs, hcl, hM, hcc, hfr⟩ := R_elemN h.row nodez i hi
  obtain ⟨v1, v2, v3, rfl, h1, h2, h3⟩ := kNode_openM hM
  have hM' : kNode.M W w1.heap.size (fun k => True ∧ k ≠ g) (withKids (nd xs i) q) [.int .i64 (nd xs i).kind, v1, v2, v] :=
    kNode_mkM h1 h2 (Kd.R_mono (Kd.R_tight rfl hv) (fun k hk => ⟨trivial, fun e => R_apart hv h.row (by decide) k hk (by rw [e]; rfl)⟩))
  obtain ⟨hs, hg⟩ := R_segN h.row i hi (seg := [v]) (j := 3) hcl hcc (Nat.le_refl 4) (x' := withKids (nd xs i) q) (okp := fun k => True ∧ k ≠ g) hM' (fun k hk => hk)
  have e : W.setCells g (i * kNode.sz + 3) [v] = W.setCell ⟨g, i * 4 + 3, none⟩ v := rfl
  rw [e] at hs hg
  have hgw := Kd.R_base h.row g rfl
  refine ⟨⟨_, hcc 3 _ rfl⟩, hfr 3, below_set h.below hgw, blk_grown h.out hg (fun e => ?_), hs⟩
  exact (Kd.R_ne h.row h.out (by decide)) e
theorem S_elem {w : World} {base m c : Nat} {A : Option Addr} {xs : List Node} (h : Kd.S kNode 26 w base (fun _ => True) (.slice A m c) xs) (j : Nat) (hj : j < xs.length) :
    ∃ g A1 c1 A2 c2 A3 c3, A = some ⟨g, 0, none⟩ ∧ m = xs.length ∧ w.cell? ⟨g, j * 4, none⟩ = some (.int .i64 (nd xs j).kind) ∧ w.cell? ⟨g, j * 4 + 1, none⟩ = some (.slice A1 (nd xs j).ints.length c1) ∧ w.cell? ⟨g, j * 4 + 2, none⟩ = some (.slice A2 (nd xs j).texts.length c2) ∧ w.cell? ⟨g, j * 4 + 3, none⟩ = some (.slice A3 (nd xs j).kids.length c3) ∧
      (Kd.int .i64).R 2 w base (fun _ => True) (.slice A1 (nd xs j).ints.length c1) (nd xs j).ints ∧ Kd.string.R 9 w base (fun _ => True) (.slice A2 (nd xs j).texts.length c2) (nd xs j).texts ∧ (Kd.int .i64).R 3 w base (fun _ => True) (.slice A3 (nd xs j).kids.length c3) (nd xs j).kids := by
  have hR := Kd.S_R h
  have hm := (Kd.R_reads' hR).1
  obtain ⟨g, c', hv, -⟩ := Kd.R_form hR (by omega)
  injection hv with hA _ hc
  subst hA hc
  obtain ⟨cs, hcl, hM, hcc, hfr⟩ := R_elemN hR nodez j (by omega)
  obtain ⟨v1, v2, v3, rfl, h1, h2, h3⟩ := kNode_openM hM
  obtain ⟨A1, c1, rfl⟩ := Kd.R_slice h1
  obtain ⟨A2, c2, rfl⟩ := Kd.R_slice h2
  obtain ⟨A3, c3, rfl⟩ := Kd.R_slice h3
  exact ⟨g, A1, c1, A2, c2, A3, c3, rfl, hm, hcc 0 _ rfl, hcc 1 _ rfl, hcc 2 _ rfl, hcc 3 _ rfl, Kd.R_mono h1 (fun _ _ => trivial), Kd.R_mono h2 (fun _ _ => trivial), Kd.R_mono h3 (fun _ _ => trivial)⟩
theorem upN_len (n : Node) : (upN n).length = upLen n := by rw [upN_eq]; exact upK_len n 0 n.kids
theorem drew_alloc (W : World) (o : Obj) : (W.alloc o).drew = W.drew.alloc o := rfl
end Go.Proofs.YtglfebpgdghlfaaDoor.L
end
section
namespace Go.Proofs.YtglfebpgdghlfaaDoor.L
open Go.RowKit Go.ChangeShapes Go.WideShapes Go.Proofs.YtglfebpgdghlfaaDoorW.PrintWords Go.Proofs.YtglfebpgdghlfaaDoorW.PrintLast Go.Proofs.YtglfebpgdghlfaaDoorW.PrintMore
attribute [local go_sem] max2_int min2_int max_two min_two max_three min_three max_four min_four
open Go.Proofs.YtglfebpgdghlfaaDoor.PUpgradeUps
def refRes (s : Scene) : Scene := ⟨canonL (r18S s), ((ord (r18S s)).length : Int) - 1⟩
set_option maxRecDepth 100000 in
set_option maxHeartbeats 16000000 in
theorem rup_any (A : Option Addr) (c : Nat) (s : Scene) (w : World) (h : kNode.C w A s.nodes.length s.nodes) (hS : ∀ i : Nat, i < s.nodes.length → Small (nd s.nodes i)) (hTS : ∀ i : Nat, i < s.nodes.length → TextsSmall (nd s.nodes i))
    (hty : ∀ i : Nat, i < s.nodes.length → nodeT oldTab (nd s.nodes i) = 0) (hr : Right s) (hn : s.nodes.length ≤ 100000) (hM : rows (r18S s).nodes ≤ 1000000) (hSr : ∀ i : Nat, i < (r18S s).nodes.length → Small (nd (r18S s).nodes i)) :
    Calls Tryd.prog 24 #[.agg #[.slice A s.nodes.length c, .int .i64 s.root]] w (SceneRPost (refRes s) w) := by
  have HR := Aside0.mk h
  have HSm := Aside0.mk hS
  have HTS := Aside0.mk hTS
  have HTy := Aside0.mk hty
  have HRt := Aside0.mk hr
  have HM := Aside0.mk hM
  have HSr := Aside0.mk hSr
  have b0 := h.2.1
  have HB0 := Aside0.mk (below_alloc (below_alloc (Below.refl w.heap.size w) (.cells #[.slice A s.nodes.length c, .int .i64 s.root] 39)) (.cells #[.slice none 0 0, .int .i64 0] 39))
  have k0 := box_cell2 w _ rfl #[.slice A s.nodes.length c, .int .i64 s.root] 39 (.cells #[.slice none 0 0, .int .i64 0] 39) 0 (.slice A s.nodes.length c) rfl
  have k1 := box_cell2 w _ rfl #[.slice A s.nodes.length c, .int .i64 s.root] 39 (.cells #[.slice none 0 0, .int .i64 0] 39) 1 (.int .i64 s.root) rfl
  have HL := Aside0.mk (show ((w.alloc (.cells #[.slice A s.nodes.length c, .int .i64 s.root] 39)).alloc (.cells #[.slice none 0 0, .int .i64 0] 39)).heap[w.heap.size + 1]? = some (.cells #[.slice none 0 0, .int .i64 0] 39 (0, 0)) from by
    have := heap_alloc_new (w.alloc (.cells #[.slice A s.nodes.length c, .int .i64 s.root] 39)) (.cells #[.slice none 0 0, .int .i64 0] 39)
    simpa using this)
  have HI := Aside0.mk (CnRel.start ((w.alloc (.cells #[.slice A s.nodes.length c, .int .i64 s.root] 39)).alloc (.cells #[.slice none 0 0, .int .i64 0] 39)) 0)
  have HK0 := Aside0.mk k0
  have HK1 := Aside0.mk k1
  have k0' := pw_cell_below (below_alloc (Below.refl _ _) (.cells #[.slice none 0 0, .int .i64 0] 39)) k0
  have hsz : w.heap.size + 1 + 1 = ((w.alloc (.cells #[.slice A s.nodes.length c, .int .i64 s.root] 39)).alloc (.cells #[.slice none 0 0, .int .i64 0] 39)).heap.size := by simp
  have HSz := Aside0.mk hsz
  have hu := Tryd.underlying39
  have hun := Tryd.underlying26
  clear h hS hTS hty hr hM hSr hsz
  go_enter Tryd.func24, Tryd.ntmps24
  go_wp2
  rw [HSz.out]
  clear k0 k1 k0'
  generalize (w.alloc (.cells #[.slice A s.nodes.length c, .int .i64 s.root] 39)).alloc (.cells #[.slice none 0 0, .int .i64 0] 39) = w1 at HB0 HL HI HK0 HK1 HSz ⊢
  generalize w1.alloc (.cells #[.slice none 0 0, .int .i64 0] 39) = W5 at HI ⊢
  go_loopw [5] (fun v5 W => ∃ i : Nat, i ≤ s.nodes.length ∧ v5 = .int .i64 i ∧ ∃ A4 c4, Aside0 (CnRel w1 0 ((List.range i).map (hd0 s.nodes)) (.slice A4 i c4) W)) (fun v5 _ => s.nodes.length - (intOf v5).toNat)
  case atStart => exact ⟨0, by omega, rfl, none, 0, HI⟩
  case round =>
    clear HI
    obtain ⟨i, hi, rfl, A4, c4, HI⟩ := hrel
    have HW := Aside0.mk (below_step HB0.out HI.out.below)
    have k0 := pw_cell_below HI.out.below HK0.out
    by_cases hlt : i < s.nodes.length
    · have HRN : Aside0 ((List.range (i + 1)).map (hd0 s.nodes) = (List.range i).map (hd0 s.nodes) ++ [nd (upN (nd s.nodes i)) 0]) := ⟨by rw [List.range_succ, List.map_append]; rfl⟩
      have HUp : Aside0 (upR (nd s.nodes i) = (upN (nd s.nodes i), 0)) := ⟨by unfold upR; rw [if_pos (HTy.out i hlt)]⟩
      obtain ⟨adn, A1, c1, A2, c2, A3, c3, rfl, x0, x1, x2, x3, hN⟩ := at_node HR.out i hlt
      replace x0 := pw_cell_below HW.out x0
      replace x1 := pw_cell_below HW.out x1
      replace x2 := pw_cell_below HW.out x2
      replace x3 := pw_cell_below HW.out x3
      have HN := Aside0.mk hN
      clear hN
      go_wp2_with fail
      refine (rnode_any (nd s.nodes i) A1 c1 A2 c2 A3 c3 _ (HN.out.below HW.out) (HSm.out i hlt) (HTS.out i hlt)).mono ?_
      rw [HUp.out]
      rintro e w6 ⟨A5, c5, rfl, hS6, hB6⟩
      have hpos := upLen_pos (nd s.nodes i)
      have hul := upN_len (nd s.nodes i)
      obtain ⟨g5, B1, d1, B2, d2, B3, d3, rfl, -, y0, y1, y2, y3, r1, r2, r3⟩ := S_elem (xs := upN (nd s.nodes i)) hS6 0 (by omega)
      have HI6 := Aside0.mk (HI.out.later hB6)
      have hs1 := HI.out.below.size
      have HMk := Aside0.mk (node_off (n := nd (upN (nd s.nodes i)) 0) (Kd.R_drew (Kd.R_lower r1 hs1)) (Kd.R_drew (Kd.R_lower r2 hs1)) (Kd.R_drew (Kd.R_lower r3 hs1)) (Kd.R_drew HI6.out.row))
      have o0 := (blk_cell HI6.out.out 0).trans rfl
      replace o0 : w6.cell? ⟨w1.heap.size, 0, none⟩ = some (.slice A4 i c4) := o0
      obtain ⟨nn, hnn⟩ : ∃ nn, nn = nd (upN (nd s.nodes i)) 0 := ⟨_, rfl⟩
      have o0a := pw_cell_below (below_alloc (Below.refl _ _) (.cells #[.int .i64 nn.kind, .slice B1 nn.ints.length d1, .slice B2 nn.texts.length d2, .slice B3 nn.kids.length d3] 26)) o0
      have hB6d := HI6.out.below
      rw [← hnn] at y0 y1 y2 y3 HMk HRN
      have hmm : ∃ m : Nat, (upN (nd s.nodes i)).length = m + 1 := ⟨upLen (nd s.nodes i) - 1, by omega⟩
      obtain ⟨m, hm⟩ := hmm
      replace y0 : w6.cell? ⟨g5, 0, none⟩ = some (.int .i64 nn.kind) := by simpa using y0
      replace y1 : w6.cell? ⟨g5, 1, none⟩ = some (.slice B1 nn.ints.length d1) := by simpa using y1
      replace y2 : w6.cell? ⟨g5, 2, none⟩ = some (.slice B2 nn.texts.length d2) := by simpa using y2
      replace y3 : w6.cell? ⟨g5, 3, none⟩ = some (.slice B3 nn.kids.length d3) := by simpa using y3
      dsimp only
      rw [hm]
      clear hS6 hB6 x0 x1 x2 x3 k0 hnn r1 r2 r3 hul hpos hm hs1
      go_wp2
      go_region_law (first
          | (rw [drew_alloc]; refine Kd.R_append_step kNode (W := w6.drew) (w0 := w1) w1.heap.size (by rfl) (.tmp 30) (.tmp 34) 30 26 (.agg #[.int .i64 0, .slice none 0 0, .slice none 0 0, .slice none 0 0]) 80 rfl Tryd.underlying30 info_nodez rfl (by decide) (by omega) (.slice A4 i c4) ((List.range i).map (hd0 s.nodes)) nn [.int .i64 nn.kind, .slice B1 nn.ints.length d1, .slice B2 nn.texts.length d2, .slice B3 nn.kids.length d3] (fun _ => True) (fun k => some k ≠ (Value.slice A4 i c4).ownBlock) rfl rfl HMk.out (fun k hk => ⟨trivial, hk⟩) (fun _ _ => trivial) (Kd.R_drew HI6.out.row) (below_drew hB6d) (below_drew hB6d).size (by rw [List.length_map, List.length_range]; omega) ?_; intro v5 w8 hR8 hB8 hg8 hat8; rw [← HRN.out] at hR8; obtain ⟨A5', c5', rfl⟩ := Kd.R_slice hR8; rw [List.length_map, List.length_range] at hR8 ⊢; obtain ⟨hb8, hN8⟩ := (HI6.out.drewN 1).put hR8 hB8 hg8; have HN8 := Aside0.mk hN8; have f0 := (blk_cell hb8 0).trans rfl; have f0f := blk_frozen hb8 0; clear hR8 hB8 hg8 hat8 hN8))
      all_goals
        clear o0 o0a y0 y1 y2 y3 f0 f0f
        go_wp2
        go_roundw
        case rel => exact ⟨i + 1, by omega, by go_num, A5', c5', HN8⟩
        case measure => simp [intOf]; omega
    · obtain rfl : i = s.nodes.length := by omega
      have HI0 := Aside0.mk (show CnRel w1 0 (r18 s.nodes 0) (.slice A4 s.nodes.length c4) wr from by rw [r18_zero]; exact HI.out)
      clear HI HW k0 hi hlt
      go_wp2
      go_loopw [8] (fun v8 W => ∃ i : Nat, i ≤ s.nodes.length ∧ v8 = .int .i64 i ∧ ∃ (m : Nat) (A4 : Option Addr) (c4 : Nat), m = s.nodes.length + cnt s.nodes i ∧ Aside0 (CnRel w1 0 (r18 s.nodes i) (.slice A4 m c4) W)) (fun v8 _ => s.nodes.length - (intOf v8).toNat)
      case atStart => exact ⟨0, by omega, rfl, s.nodes.length, A4, c4, rfl, HI0⟩
      case round =>
        clear HI0
        obtain ⟨i, hi, rfl, m, A4, c4, hm, HI⟩ := hrel
        have HW := Aside0.mk (below_step HB0.out HI.out.below)
        have k0 := pw_cell_below HI.out.below HK0.out
        have hcl : cnt s.nodes i ≤ i := by
          have h1 : (lows s.nodes i).length ≤ (List.range i).length := List.length_filter_le _ _
          rw [List.length_range] at h1; exact h1
        by_cases hlt : i < s.nodes.length
        · have HUp : Aside0 (upR (nd s.nodes i) = (upN (nd s.nodes i), 0)) := ⟨by unfold upR; rw [if_pos (HTy.out i hlt)]⟩
          obtain ⟨adn, A1, c1, A2, c2, A3, c3, rfl, x0, x1, x2, x3, hN⟩ := at_node HR.out i hlt
          replace x0 := pw_cell_below HW.out x0
          replace x1 := pw_cell_below HW.out x1
          replace x2 := pw_cell_below HW.out x2
          replace x3 := pw_cell_below HW.out x3
          have HN := Aside0.mk hN
          clear hN
          go_wp2_with fail
          refine (rnode_any (nd s.nodes i) A1 c1 A2 c2 A3 c3 _ (HN.out.below HW.out) (HSm.out i hlt) (HTS.out i hlt)).mono ?_
          rw [HUp.out]
          rintro e w6 ⟨A5, c5, rfl, hS6, hB6⟩
          have hul := upN_len (nd s.nodes i)
          have HI6 := Aside0.mk (HI.out.later hB6)
          dsimp only
          by_cases ht : isTr (nd s.nodes i) = true
          · have hl2 : (upN (nd s.nodes i)).length = 2 := by rw [hul, tr_len ht]
            have hR6 := Kd.S_R hS6
            obtain ⟨g5, B1, d1, B2, d2, B3, d3, rfl, -, y0, y1, y2, y3, r1, r2, r3⟩ := S_elem (xs := upN (nd s.nodes i)) hS6 1 (by omega)
            obtain ⟨g4, c4', hv, -⟩ := Kd.R_form HI6.out.row (by rw [r18_len]; omega)
            injection hv with hA hmm hcc
            subst hA hcc
            clear hmm
            have hg45 : g4 ≠ g5 := by
              have h1 := Kd.R_lt HI.out.row g4 rfl
              have h2 := Kd.R_base hR6 g5 rfl
              omega
            have HRN : Aside0 (r18 s.nodes (i + 1) = (r18 s.nodes i).set i (withKids (nd (r18 s.nodes i) i) [(m : Int)]) ++ [nd (upN (nd s.nodes i)) 1]) := ⟨by
              rw [r18_next s.nodes i hlt ht, r18_hd_now s.nodes i hlt, r18_len, hm]; rfl⟩
            have hcs : cnt s.nodes (i + 1) = cnt s.nodes i + 1 := by rw [cnt_succ, if_pos ht]
            have hal := below_alloc (Below.refl w6.heap.size w6) (.cells #[.int .i64 (m : Int)] 3)
            obtain ⟨⟨xx, z3⟩, z3f, hK⟩ := (HI6.out.later hal).kid i (by omega) (v := .slice (some ⟨w6.heap.size, 0, none⟩) 1 1) (q := [(m : Int)]) (R_nums 3 w6 w1.heap.size _ rfl [(m : Int)] HI6.out.below.size (by simp) rfl)
            have HK := Aside0.mk hK
            have o0 : w6.cell? ⟨w1.heap.size, 0, none⟩ = some (.slice (some ⟨g4, 0, none⟩) m c4) := (blk_cell HI6.out.out 0).trans rfl
            obtain ⟨nn, hnn⟩ : ∃ nn, nn = nd (upN (nd s.nodes i)) 1 := ⟨_, rfl⟩
            rw [← hnn] at y0 y1 y2 y3 r1 r2 r3 HRN
            have carry : ∀ {p : Addr} {v : Value}, w6.cell? p = some v → p.block = g5 → ((w6.alloc (.cells #[.int .i64 (m : Int)] 3)).setCell ⟨g4, i * 4 + 3, none⟩ (.slice (some ⟨w6.heap.size, 0, none⟩) 1 1)).cell? p = some v := fun {p v} hp hb => far_set (pw_cell_below hal hp) g4 (i * 4 + 3) (by rw [hb]; exact hg45) _
            have Y0 : ((w6.alloc (.cells #[.int .i64 (m : Int)] 3)).setCell ⟨g4, i * 4 + 3, none⟩ (.slice (some ⟨w6.heap.size, 0, none⟩) 1 1)).cell? ⟨g5, 4, none⟩ = some (.int .i64 nn.kind) := carry (by simpa using y0) rfl
            have Y1 : ((w6.alloc (.cells #[.int .i64 (m : Int)] 3)).setCell ⟨g4, i * 4 + 3, none⟩ (.slice (some ⟨w6.heap.size, 0, none⟩) 1 1)).cell? ⟨g5, 5, none⟩ = some (.slice B1 nn.ints.length d1) := carry (by simpa using y1) rfl
            have Y2 : ((w6.alloc (.cells #[.int .i64 (m : Int)] 3)).setCell ⟨g4, i * 4 + 3, none⟩ (.slice (some ⟨w6.heap.size, 0, none⟩) 1 1)).cell? ⟨g5, 6, none⟩ = some (.slice B2 nn.texts.length d2) := carry (by simpa using y2) rfl
            have Y3 : ((w6.alloc (.cells #[.int .i64 (m : Int)] 3)).setCell ⟨g4, i * 4 + 3, none⟩ (.slice (some ⟨w6.heap.size, 0, none⟩) 1 1)).cell? ⟨g5, 7, none⟩ = some (.slice B3 nn.kids.length d3) := carry (by simpa using y3) rfl
            have hlt4 := Kd.R_lt HI.out.row g4 rfl
            have hs1 := HI.out.below.size
            have R1 := Kd.R_mono (ok' := fun _ => True) (Kd.R_far (p := ⟨g4, i * 4 + 3, none⟩) (Kd.R_alloc (Kd.R_mono (ok' := fun k => k ≠ g4) (Kd.R_bound r1) (fun k hk => by have := hk.2.1; omega)) (.cells #[.int .i64 (m : Int)] 3)) (fun k hk => hk) (.slice (some ⟨w6.heap.size, 0, none⟩) 1 1)) (fun _ _ => trivial)
            have R2 := Kd.R_mono (ok' := fun _ => True) (Kd.R_far (p := ⟨g4, i * 4 + 3, none⟩) (Kd.R_alloc (Kd.R_mono (ok' := fun k => k ≠ g4) (Kd.R_bound r2) (fun k hk => by have := hk.2.1; omega)) (.cells #[.int .i64 (m : Int)] 3)) (fun k hk => hk) (.slice (some ⟨w6.heap.size, 0, none⟩) 1 1)) (fun _ _ => trivial)
            have R3 := Kd.R_mono (ok' := fun _ => True) (Kd.R_far (p := ⟨g4, i * 4 + 3, none⟩) (Kd.R_alloc (Kd.R_mono (ok' := fun k => k ≠ g4) (Kd.R_bound r3) (fun k hk => by have := hk.2.1; omega)) (.cells #[.int .i64 (m : Int)] 3)) (fun k hk => hk) (.slice (some ⟨w6.heap.size, 0, none⟩) 1 1)) (fun _ _ => trivial)
            have HMk := Aside0.mk (node_off (n := nn) (Kd.R_drew (Kd.R_lower R1 hs1)) (Kd.R_drew (Kd.R_lower R2 hs1)) (Kd.R_drew (Kd.R_lower R3 hs1)) (Kd.R_drew HK.out.row))
            have hil : ((i : Nat) : Int) < (m : Int) := by omega
            have HMm := Aside0.mk hm
            have HCs := Aside0.mk hcs
            clear hm hcs
            rw [hl2]
            clear hS6 hB6 hR6 x0 x1 x2 x3 k0 y0 y1 y2 y3 r1 r2 r3 R1 R2 R3 hK hal hul hl2 ht carry hs1 hlt4 hnn
            go_wp2
            clear z3 z3f o0
            generalize ((w6.alloc (.cells #[.int .i64 (m : Int)] 3)).setCell ⟨g4, i * 4 + 3, none⟩ (.slice (some ⟨w6.heap.size, 0, none⟩) 1 1)) = W8 at HK HMk Y0 Y1 Y2 Y3 ⊢
            have o0 : W8.cell? ⟨w1.heap.size, 0, none⟩ = some (.slice (some ⟨g4, 0, none⟩) m c4) := (blk_cell HK.out.out 0).trans rfl
            have o0a := pw_cell_below (below_alloc (Below.refl _ _) (.cells #[.int .i64 nn.kind, .slice B1 nn.ints.length d1, .slice B2 nn.texts.length d2, .slice B3 nn.kids.length d3] 26)) o0
            have hB8d := HK.out.below
            have hxl : ((r18 s.nodes i).set i (withKids (nd (r18 s.nodes i) i) [(m : Int)])).length = m := by rw [List.length_set, r18_len]; have := HMm.out; omega
            have hxl2 : (r18 s.nodes (i + 1)).length = m + 1 := by rw [r18_len, HCs.out]; have := HMm.out; omega
            go_region_law (first
                | (rw [drew_alloc]; refine Kd.R_append_step kNode (W := W8.drew) (w0 := w1) w1.heap.size (by rfl) (.tmp 64) (.tmp 68) 30 26 (.agg #[.int .i64 0, .slice none 0 0, .slice none 0 0, .slice none 0 0]) 80 rfl Tryd.underlying30 info_nodez rfl (by decide) (by omega) (.slice (some ⟨g4, 0, none⟩) m c4) ((r18 s.nodes i).set i (withKids (nd (r18 s.nodes i) i) [(m : Int)])) nn [.int .i64 nn.kind, .slice B1 nn.ints.length d1, .slice B2 nn.texts.length d2, .slice B3 nn.kids.length d3] (fun _ => True) (fun k => some k ≠ (Value.slice (some ⟨g4, 0, none⟩) m c4).ownBlock) rfl rfl HMk.out (fun k hk => ⟨trivial, hk⟩) (fun _ _ => trivial) (Kd.R_drew HK.out.row) (below_drew hB8d) (below_drew hB8d).size (by rw [hxl]; have := HMm.out; omega) ?_; intro v5 w8 hR8 hB8 hg8 hat8; rw [← HRN.out] at hR8; obtain ⟨A5', c5', rfl⟩ := Kd.R_slice hR8; rw [hxl2] at hR8 ⊢; obtain ⟨hb8, hN8⟩ := (HK.out.drewN 1).put hR8 hB8 hg8; have HN8 := Aside0.mk hN8; have f0 := (blk_cell hb8 0).trans rfl; have f0f := blk_frozen hb8 0; clear hR8 hB8 hg8 hat8 hN8))
            all_goals
              clear o0 o0a Y0 Y1 Y2 Y3 f0 f0f
              go_wp2
              go_roundw
              case rel => exact ⟨i + 1, by omega, by go_num, m + 1, A5', c5', by have := HMm.out; have := HCs.out; omega, HN8⟩
              case measure => simp [intOf]; omega
          · have hl1 : (upN (nd s.nodes i)).length = 1 := by rw [hul, tr_not ht]
            have hcs : cnt s.nodes (i + 1) = cnt s.nodes i := by rw [cnt_succ, if_neg ht]; rfl
            have HI7 := Aside0.mk (show CnRel w1 0 (r18 s.nodes (i + 1)) (.slice A4 m c4) w6 from by rw [r18_same s.nodes i ht]; exact HI6.out)
            rw [hl1]
            have HMm := Aside0.mk hm
            have HCs := Aside0.mk hcs
            clear hS6 hB6 x0 x1 x2 x3 k0 hul hl1 ht hm hcs
            go_wp2
            go_roundw
            case rel => exact ⟨i + 1, by omega, by go_num, m, A4, c4, by have := HMm.out; have := HCs.out; omega, HI7⟩
            case measure => simp [intOf]; omega
        · obtain rfl : i = s.nodes.length := by omega
          have hm2 : m = (r18S s).nodes.length := by rw [hm]; exact (r18_len _ _).symm
          clear hm
          subst hm2
          obtain ⟨hcan, hdag, hpr⟩ := r18_canon HRt.out
          have HCan := Aside0.mk hdag
          have HPr := Aside0.mk hpr
          have k1 := pw_cell_below HI.out.below HK1.out
          have o1 := (blk_cell HI.out.out 1).trans rfl
          have o1f := blk_frozen HI.out.out 1
          have hbo := blk_set HI.out.out 1 (.int .i64 s.root)
          have hbo' : (wr.setCell ⟨w1.heap.size, 1, none⟩ (.int .i64 s.root)).heap[w1.heap.size]? = some (.cells #[.slice A4 (r18S s).nodes.length c4, .int .i64 s.root] 39 (0, 0)) := by simpa using hbo
          have p0 := (blk_cell hbo' 0).trans rfl
          have p1 := (blk_cell hbo' 1).trans rfl
          have HRR := Aside0.mk (Kd.R_reads' (R_type HI.out.row HI.out.out (by decide) (.int .i64 s.root) 1))
          have hb9 : Below w1.heap.size w1 (wr.setCell ⟨w1.heap.size, 1, none⟩ (.int .i64 s.root)) := below_set HI.out.below (Nat.le_refl _)
          have HB9 := Aside0.mk (below_step HB0.out hb9)
          have HL9 := Aside0.mk ((hb9.block _ (blk_lt HL.out)).trans HL.out)
          have hol : (ord (r18S s)).length ≤ 1000000 := by
            have h1 := (ord_met' hdag hpr).shut.len
            have h2 : (r18S s).nodes.length = s.nodes.length + cnt s.nodes s.nodes.length := r18_len _ _
            omega
          clear hbo hbo' hb9 hcan hdag hpr k0
          go_wp2_with fail
          refine (rcanon_any A4 c4 (r18S s) (ord (r18S s)) _ _ HRR.out.2.2 HRR.out.2.1 HSr.out (order_f HCan.out HPr.out HM.out) hol (ord_met' HCan.out HPr.out).shut.pl).mono ?_
          rintro e w10 ⟨B, d, rfl, hC, hB10⟩
          have hres := (hB10.block _ (blk_lt HL9.out)).trans HL9.out
          have HB10 := Aside0.mk (below_step HB9.out hB10)
          dsimp only
          rw [refCan_eq HCan.out HPr.out] at hC ⊢
          have l0 := (blk_cell hres 0).trans rfl
          have l0f := blk_frozen hres 0
          have l1 := (blk_cell (blk_set hres 0 (.slice B (canonL (r18S s)).length d)) 1).trans rfl
          have l1f := blk_frozen (blk_set hres 0 (.slice B (canonL (r18S s)).length d)) 1
          clear hB10 k1 o1 o1f p0 p1
          go_wp2
          have h2 := And.intro ((blk_cell (box2 hres (.slice B (canonL (r18S s)).length d) (.int .i64 (((ord (r18S s)).length : Int) - 1))) 0).trans rfl) ((blk_cell (box2 hres (.slice B (canonL (r18S s)).length d) (.int .i64 (((ord (r18S s)).length : Int) - 1))) 1).trans rfl)
          exact bodyPost_ret (v := .agg #[.slice B (canonL (r18S s)).length d, .int .i64 (((ord (r18S s)).length : Int) - 1)]) (by simp [results, Tryd.results24, go_sem, h2]) rfl
            ⟨B, d, rfl, Kd.R_lower (R_type (R_type hC hres (by decide) (.slice B (canonL (r18S s)).length d) 0) (blk_set hres 0 _) (by decide) (.int .i64 (((ord (r18S s)).length : Int) - 1)) 1) HB9.out.size, below_set2 HB10.out (by omega)⟩
end Go.Proofs.YtglfebpgdghlfaaDoor.L
end
section
namespace Go.Proofs.YtglfebpgdghlfaaDoor.L
open Go.RowKit Go.ChangeShapes Go.WideShapes Go.Proofs.YtglfebpgdghlfaaDoorW.PrintWords Go.Proofs.YtglfebpgdghlfaaDoorW.PrintLast Go.Proofs.YtglfebpgdghlfaaDoorW.PrintMore
attribute [local go_sem] max2_int min2_int max_two min_two max_three min_three max_four min_four
def aS : Scene := ⟨[⟨2, [1, 2, 3, 4], [], [1]⟩, ⟨6, [9], [], []⟩], 0⟩
def aT : Scene := ⟨[⟨7, [9, 9, 9, 1], [], []⟩, ⟨8, [4, 4, 4], [], [0]⟩, ⟨2, [1, 2, 3], [], [1]⟩], 2⟩
theorem aS_up : upS aS = ⟨[⟨2, [1, 2, 3], [], [1]⟩, ⟨8, [4, 4, 4], [], [2]⟩, ⟨7, [9, 9, 9, 1], [], []⟩], 0⟩ := by kernel_rfl
theorem aS_can : canonL (upS aS) = aT.nodes := by rw [aS_up]; kernel_rfl
theorem C_nums (T : TypeId) (W : World) (g : Nat) (hg : W.heap.size = g) (ps : List Int) (n : Nat) (hn : ps.length = n) (hm : ps.length ≤ 9223372036854775807) {cs : Array Value} (hcs : cs = (ps.flatMap fun x => [.int .i64 x]).toArray) : (Kd.int .i64).C (W.alloc (.cells cs T)) (some ⟨g, 0, none⟩) n ps := by
  subst hn
  exact (Kd.R_reads' (R_nums T W 0 g hg ps (by omega) hm hcs)).2.2
theorem K_node {W : World} (n : Node) {A1 A2 A3 : Option Addr} {l1 l2 l3 c1 c2 c3 : Nat} (e1 : l1 = n.ints.length) (e2 : l2 = n.texts.length) (e3 : l3 = n.kids.length) (h1 : n.ints.length ≤ c1) (h2 : n.texts.length ≤ c2) (h3 : n.kids.length ≤ c3)
    (hi : (Kd.int .i64).C W A1 n.ints.length n.ints) (ht : Kd.string.C W A2 n.texts.length n.texts) (hk : (Kd.int .i64).C W A3 n.kids.length n.kids) : kNode.K W n [.int .i64 n.kind, .slice A1 l1 c1, .slice A2 l2 c2, .slice A3 l3 c3] := by
  subst e1 e2 e3
  exact kNode_mk ⟨h1, h2, h3, hi, ht, hk⟩
def aW (w : World) : World := (((w.alloc (.cells #[.int .i64 1, .int .i64 2, .int .i64 3, .int .i64 4] 2)).alloc (.cells #[.int .i64 1] 3)).alloc (.cells #[.int .i64 9] 2))
theorem aS_C (w : World) : kNode.C ((aW w).alloc (.cells #[.int .i64 2, .slice (some ⟨w.heap.size, 0, none⟩) 4 4, .slice none 0 0, .slice (some ⟨w.heap.size + 1, 0, none⟩) 1 1, .int .i64 6, .slice (some ⟨w.heap.size + 1 + 1, 0, none⟩) 1 1, .slice none 0 0, .slice none 0 0] 26)) (some ⟨w.heap.size + 1 + 1 + 1, 0, none⟩) 2 aS.nodes := by
  refine C_lits kNode (aW w) 26 _ (by simp [aW]) aS.nodes [.int .i64 2, .slice (some ⟨w.heap.size, 0, none⟩) 4 4, .slice none 0 0, .slice (some ⟨w.heap.size + 1, 0, none⟩) 1 1, .int .i64 6, .slice (some ⟨w.heap.size + 1 + 1, 0, none⟩) 1 1, .slice none 0 0, .slice none 0 0] ?_ (by decide) rfl
  refine ⟨_, _, (show _ = [_, _, _, _] ++ [_, _, _, _] from rfl), K_node ⟨2, [1, 2, 3, 4], [], [1]⟩ rfl rfl rfl (by decide) (by decide) (by decide) ?_ (C_nil _ _) ?_, _, _, (show _ = [_, _, _, _] ++ [] from rfl), K_node ⟨6, [9], [], []⟩ rfl rfl rfl (by decide) (by decide) (by decide) ?_ (C_nil _ _) (C_nil _ _), rfl⟩
  · exact Kd.C_alloc (Kd.C_alloc (C_nums _ w _ rfl [1, 2, 3, 4] _ rfl (by decide) rfl) _) _
  · exact Kd.C_alloc (C_nums _ _ _ (by simp) [1] _ rfl (by decide) rfl) _
  · exact C_nums _ _ _ (by simp) [9] _ rfl (by decide) rfl
def bW (w : World) : World := (((((w.alloc (.cells #[.int .i64 9, .int .i64 9, .int .i64 9, .int .i64 1] 2)).alloc (.cells #[.int .i64 4, .int .i64 4, .int .i64 4] 2)).alloc (.cells #[.int .i64 0] 3)).alloc (.cells #[.int .i64 1, .int .i64 2, .int .i64 3] 2)).alloc (.cells #[.int .i64 1] 3))
theorem aT_C (w : World) (g : Nat) (hg : w.heap.size = g) : kNode.C ((bW w).alloc (.cells #[.int .i64 7, .slice (some ⟨g, 0, none⟩) 4 4, .slice none 0 0, .slice none 0 0, .int .i64 8, .slice (some ⟨g + 1, 0, none⟩) 3 3, .slice none 0 0, .slice (some ⟨g + 1 + 1, 0, none⟩) 1 1, .int .i64 2, .slice (some ⟨g + 1 + 1 + 1, 0, none⟩) 3 3, .slice none 0 0, .slice (some ⟨g + 1 + 1 + 1 + 1, 0, none⟩) 1 1] 26)) (some ⟨g + 1 + 1 + 1 + 1 + 1, 0, none⟩) 3 aT.nodes := by
  subst hg
  refine C_lits kNode (bW w) 26 _ (by simp [bW]) aT.nodes [.int .i64 7, .slice (some ⟨w.heap.size, 0, none⟩) 4 4, .slice none 0 0, .slice none 0 0, .int .i64 8, .slice (some ⟨w.heap.size + 1, 0, none⟩) 3 3, .slice none 0 0, .slice (some ⟨w.heap.size + 1 + 1, 0, none⟩) 1 1, .int .i64 2, .slice (some ⟨w.heap.size + 1 + 1 + 1, 0, none⟩) 3 3, .slice none 0 0, .slice (some ⟨w.heap.size + 1 + 1 + 1 + 1, 0, none⟩) 1 1] ?_ (by decide) rfl
  refine ⟨_, _, (show _ = [_, _, _, _] ++ [_, _, _, _, _, _, _, _] from rfl), K_node ⟨7, [9, 9, 9, 1], [], []⟩ rfl rfl rfl (by decide) (by decide) (by decide) ?_ (C_nil _ _) (C_nil _ _), _, _, (show _ = [_, _, _, _] ++ [_, _, _, _] from rfl), K_node ⟨8, [4, 4, 4], [], [0]⟩ rfl rfl rfl (by decide) (by decide) (by decide) ?_ (C_nil _ _) ?_,
    _, _, (show _ = [_, _, _, _] ++ [] from rfl), K_node ⟨2, [1, 2, 3], [], [1]⟩ rfl rfl rfl (by decide) (by decide) (by decide) ?_ (C_nil _ _) ?_, rfl⟩
  · exact Kd.C_alloc (Kd.C_alloc (Kd.C_alloc (Kd.C_alloc (C_nums _ w _ rfl [9, 9, 9, 1] _ rfl (by decide) rfl) _) _) _) _
  · exact Kd.C_alloc (Kd.C_alloc (Kd.C_alloc (C_nums _ _ _ (by simp) [4, 4, 4] _ rfl (by decide) rfl) _) _) _
  · exact Kd.C_alloc (Kd.C_alloc (C_nums _ _ _ (by simp) [0] _ rfl (by decide) rfl) _) _
  · exact Kd.C_alloc (C_nums _ _ _ (by simp) [1, 2, 3] _ rfl (by decide) rfl) _
  · exact C_nums _ _ _ (by simp) [1] _ rfl (by decide) rfl
theorem rise_rch {ns : List Node} (h : ∀ p : Nat, p < ns.length → ∀ k ∈ kids ns p, (p : Int) < k ∧ k < ns.length) {a : Nat} {l : List Int} (hl : ∀ k ∈ l, (a : Int) < k ∧ k < ns.length) {x : Int} (hr : Rch ns l x) : (a : Int) < x ∧ x < ns.length := by
  induction hr with
  | base hk => exact hl _ hk
  | step _ hk ih =>
    rename_i i k _
    obtain ⟨q, rfl⟩ : ∃ q : Nat, i = (q : Int) := ⟨i.toNat, by omega⟩
    have := h q (by omega) k hk
    omega
theorem rise_cyc {ns : List Node} (h : ∀ p : Nat, p < ns.length → ∀ k ∈ kids ns p, (p : Int) < k ∧ k < ns.length) (p : Nat) (hp : p < ns.length) : ¬ Cyc ns p := fun hc => by
  have := rise_rch h (h p hp) hc
  omega
theorem aS_right : Right aS := by
  have hk : ∀ p : Nat, p < aS.nodes.length → ∀ k ∈ kids aS.nodes p, (p : Int) < k ∧ k < aS.nodes.length := by decide
  refine ⟨by decide, by decide, fun p hp k hk' => ?_, rise_cyc hk, fun p hp => ?_⟩
  · have := hk p hp k hk'; omega
  · have h0 : Rch aS.nodes [aS.root] ((0 : Nat) : Int) := .base (by decide)
    match p, hp with
    | 0, _ => exact h0
    | 1, _ => exact .step h0 (by decide)
    | p + 2, h => exact absurd h (by show ¬ p + 2 < 2; omega)
theorem aU_right : Right (upS aS) := by
  rw [aS_up]
  have hk : ∀ p : Nat, p < 3 → ∀ k ∈ kids [⟨2, [1, 2, 3], [], [1]⟩, ⟨8, [4, 4, 4], [], [2]⟩, ⟨7, [9, 9, 9, 1], [], []⟩] p, (p : Int) < k ∧ k < 3 := by decide
  refine ⟨by decide, by decide, fun p hp k hk' => ?_, rise_cyc hk, fun p hp => ?_⟩
  · have := hk p hp k hk'; show 0 ≤ k ∧ k < 3; omega
  · have h0 : Rch [⟨2, [1, 2, 3], [], [1]⟩, ⟨8, [4, 4, 4], [], [2]⟩, ⟨7, [9, 9, 9, 1], [], []⟩] [0] ((0 : Nat) : Int) := .base (by decide)
    have h1 : Rch [⟨2, [1, 2, 3], [], [1]⟩, ⟨8, [4, 4, 4], [], [2]⟩, ⟨7, [9, 9, 9, 1], [], []⟩] [0] ((1 : Nat) : Int) := .step h0 (by decide)
    match p, hp with
    | 0, _ => exact h0
    | 1, _ => exact h1
    | 2, _ => exact .step h1 (by decide)
    | p + 3, h => exact absurd h (by show ¬ p + 3 < 3; omega)
theorem aS_typed : (typedS oldTab aS.nodes).1 = 0 := by kernel_rfl
theorem aS_err : upErr aS = 0 := by
  unfold upErr
  rw [if_pos aS_typed, if_pos (gcheck_right.2 aS_right)]
  exact gcheck_right.2 aU_right
theorem aS_res : upRes aS = aT := by
  unfold upRes canonR
  rw [if_pos aS_typed, if_pos (gcheck_right.2 aS_right), if_pos (gcheck_right.2 aU_right), aS_can]
  rw [aS_up]
  rfl
theorem a7_up : upR ⟨7, [], [], []⟩ = ([], 9) := by kernel_rfl
theorem aS_small : ∀ i : Nat, i < aS.nodes.length → Small (nd aS.nodes i) := fun i hi => by
  match i, hi with
  | 0, _ => exact ⟨by decide, by decide, by decide⟩
  | 1, _ => exact ⟨by decide, by decide, by decide⟩
  | i + 2, h => exact absurd h (by show ¬ i + 2 < 2; omega)
theorem aT_small : ∀ i : Nat, i < aT.nodes.length → Small (nd aT.nodes i) := fun i hi => by
  match i, hi with
  | 0, _ => exact ⟨by decide, by decide, by decide⟩
  | 1, _ => exact ⟨by decide, by decide, by decide⟩
  | 2, _ => exact ⟨by decide, by decide, by decide⟩
  | i + 3, h => exact absurd h (by show ¬ i + 3 < 3; omega)
theorem aS_texts : ∀ i : Nat, i < aS.nodes.length → TextsSmall (nd aS.nodes i) := fun i hi => by
  match i, hi with
  | 0, _ => exact fun j hj => absurd hj (by show ¬ j < 0; omega)
  | 1, _ => exact fun j hj => absurd hj (by show ¬ j < 0; omega)
  | i + 2, h => exact absurd h (by show ¬ i + 2 < 2; omega)
theorem aS_rows : rows aS.nodes ≤ 130000 := by decide
set_option maxRecDepth 100000 in
set_option maxHeartbeats 4000000 in
theorem awake_any (w : World) (hT : Tabs w) : Calls Tryd.prog 11 #[] w fun e w' => e = .returned (.bool true) ∧ Below w.heap.size w w' := by
  have HT := Aside0.mk hT
  have HS1 := Aside0.mk (aS_C w)
  have HBa : Aside0 (Below w.heap.size w (aW w)) := ⟨below_alloc (below_alloc (below_alloc (Below.refl _ _) _) _) _⟩
  have hua := Tryd.underlying39
  have hun := Tryd.underlying26
  clear hT
  go_enter Tryd.func11, Tryd.ntmps11
  go_wp2_with fail
  refine (up_any (some ⟨w.heap.size + 1 + 1 + 1, 0, none⟩) 2 aS _ (Kd.C_alloc HS1.out _) (HT.out.below (below_alloc (below_alloc HBa.out _) _)) aS_small aS_texts aS_rows).mono ?_
  rintro e w1 ⟨A1, c1, rfl, hR1, hB1⟩
  rw [aS_res] at hR1 ⊢
  rw [aS_err]
  have HB1 := Aside0.mk (below_step (below_alloc (below_alloc HBa.out _) _) hB1)
  have HC1 := Aside0.mk (Kd.R_reads' hR1).2.2
  have HX1 := Aside0.mk (show (w1.alloc (.cells #[.slice A1 3 c1, .int .i64 2] 39)).heap[w1.heap.size]? = some (.cells #[.slice A1 3 c1, .int .i64 2] 39 (0, 0)) from by simpa using heap_alloc_new w1 _)
  clear hR1 hB1
  have HS2 := Aside0.mk (aT_C (w1.alloc (.cells #[.slice A1 3 c1, .int .i64 2] 39)) (w1.heap.size + 1) (by simp))
  have HBb : Aside0 (Below (w1.alloc (.cells #[.slice A1 3 c1, .int .i64 2] 39)).heap.size (w1.alloc (.cells #[.slice A1 3 c1, .int .i64 2] 39)) (bW (w1.alloc (.cells #[.slice A1 3 c1, .int .i64 2] 39)))) := ⟨below_alloc (below_alloc (below_alloc (below_alloc (below_alloc (Below.refl _ _) _) _) _) _) _⟩
  go_wp2_with fail
  refine (upnode_any ⟨7, [], [], []⟩ none 0 none 0 none 0 _ ⟨by decide, by decide, by decide, C_nil _ _, C_nil _ _, C_nil _ _⟩ ⟨by decide, by decide, by decide⟩ (fun j hj => absurd hj (by show ¬ j < 0; omega)) ?_).mono ?_
  · exact HT.out.below (below_alloc (below_alloc (below_step (below_step HB1.out (below_alloc (Below.refl _ _) _)) HBb.out) _) _)
  rintro e w2 ⟨A2, c2, rfl, hR2, hB2⟩
  rw [a7_up]
  have HB2 := Aside0.mk (below_step (below_alloc (below_alloc (below_step (below_step HB1.out (below_alloc (Below.refl _ _) (.cells #[.slice A1 3 c1, .int .i64 2] 39))) HBb.out) (.cells #[.int .i64 7, .slice (some ⟨w1.heap.size + 1, 0, none⟩) 4 4, .slice none 0 0, .slice none 0 0, .int .i64 8, .slice (some ⟨w1.heap.size + 1 + 1, 0, none⟩) 3 3, .slice none 0 0, .slice (some ⟨w1.heap.size + 1 + 1 + 1, 0, none⟩) 1 1, .int .i64 2, .slice (some ⟨w1.heap.size + 1 + 1 + 1 + 1, 0, none⟩) 3 3, .slice none 0 0, .slice (some ⟨w1.heap.size + 1 + 1 + 1 + 1 + 1, 0, none⟩) 1 1] 26)) (.cells #[.slice (some ⟨w1.heap.size + 1 + 1 + 1 + 1 + 1 + 1, 0, none⟩) 3 3, .int .i64 2] 39)) hB2)
  have HBt : Aside0 (Below (w1.alloc (.cells #[.slice A1 3 c1, .int .i64 2] 39)).heap.size (w1.alloc (.cells #[.slice A1 3 c1, .int .i64 2] 39)) w2) := ⟨below_step (below_alloc (below_alloc HBb.out _) _) hB2⟩
  have x0 := pw_cell_below HBt.out (blk_cell HX1.out 0)
  have x1 := pw_cell_below HBt.out (blk_cell HX1.out 1)
  have HY : Aside0 (((((bW (w1.alloc (.cells #[.slice A1 3 c1, .int .i64 2] 39))).alloc (.cells #[.int .i64 7, .slice (some ⟨w1.heap.size + 1, 0, none⟩) 4 4, .slice none 0 0, .slice none 0 0, .int .i64 8, .slice (some ⟨w1.heap.size + 1 + 1, 0, none⟩) 3 3, .slice none 0 0, .slice (some ⟨w1.heap.size + 1 + 1 + 1, 0, none⟩) 1 1, .int .i64 2, .slice (some ⟨w1.heap.size + 1 + 1 + 1 + 1, 0, none⟩) 3 3, .slice none 0 0, .slice (some ⟨w1.heap.size + 1 + 1 + 1 + 1 + 1, 0, none⟩) 1 1] 26)).alloc (.cells #[.slice (some ⟨w1.heap.size + 1 + 1 + 1 + 1 + 1 + 1, 0, none⟩) 3 3, .int .i64 2] 39))).heap[w1.heap.size + 1 + 1 + 1 + 1 + 1 + 1 + 1]? = some (.cells #[.slice (some ⟨w1.heap.size + 1 + 1 + 1 + 1 + 1 + 1, 0, none⟩) 3 3, .int .i64 2] 39 (0, 0))) := ⟨by
    have := heap_alloc_new ((bW (w1.alloc (.cells #[.slice A1 3 c1, .int .i64 2] 39))).alloc (.cells #[.int .i64 7, .slice (some ⟨w1.heap.size + 1, 0, none⟩) 4 4, .slice none 0 0, .slice none 0 0, .int .i64 8, .slice (some ⟨w1.heap.size + 1 + 1, 0, none⟩) 3 3, .slice none 0 0, .slice (some ⟨w1.heap.size + 1 + 1 + 1, 0, none⟩) 1 1, .int .i64 2, .slice (some ⟨w1.heap.size + 1 + 1 + 1 + 1, 0, none⟩) 3 3, .slice none 0 0, .slice (some ⟨w1.heap.size + 1 + 1 + 1 + 1 + 1, 0, none⟩) 1 1] 26)) (.cells #[.slice (some ⟨w1.heap.size + 1 + 1 + 1 + 1 + 1 + 1, 0, none⟩) 3 3, .int .i64 2] 39)
    simpa [bW] using this⟩
  have y0 := pw_cell_below hB2 (blk_cell HY.out 0)
  have y1 := pw_cell_below hB2 (blk_cell HY.out 1)
  have HCt := Aside0.mk (Kd.C_below (Kd.C_alloc HC1.out (.cells #[.slice A1 3 c1, .int .i64 2] 39)) HBt.out)
  have HCw := Aside0.mk (Kd.C_below (Kd.C_alloc HS2.out (.cells #[.slice (some ⟨w1.heap.size + 1 + 1 + 1 + 1 + 1 + 1, 0, none⟩) 3 3, .int .i64 2] 39)) hB2)
  clear hR2 hB2
  go_wp2_with fail
  refine (sameS_any A1 c1 aT (some ⟨w1.heap.size + 1 + 1 + 1 + 1 + 1 + 1, 0, none⟩) 3 aT w2 HCt.out HCw.out aT_small).mono ?_
  rintro e w3 ⟨rfl, hB3⟩
  rw [sameS_yes rfl]
  have HB3 := Aside0.mk (below_step HB2.out hB3)
  clear hB3 x0 x1 y0 y1
  go_wp2
  go_ret
  exact ⟨rfl, HB3.out⟩
end Go.Proofs.YtglfebpgdghlfaaDoor.L
end
section
namespace Go.Proofs.YtglfebpgdghlfaaDoor.L
open Go.RowKit Go.ChangeShapes Go.WideShapes Go.Proofs.YtglfebpgdghlfaaDoorW.PrintWords Go.Proofs.YtglfebpgdghlfaaDoorW.PrintLast Go.Proofs.YtglfebpgdghlfaaDoorW.PrintMore
attribute [local go_sem] max2_int min2_int max_two min_two max_three min_three max_four min_four
theorem great_small {n : Node} (h : greatN n = false) : Small n ∧ TextsSmall n := by
  have h' := of_decide_eq_false h
  have h1 : ¬ 100 < n.ints.length := fun e => h' (.inl e)
  have h2 : ¬ 100 < n.texts.length := fun e => h' (.inr (.inl e))
  have h3 : ¬ 300 < n.kids.length := fun e => h' (.inr (.inr (.inl e)))
  refine ⟨⟨by omega, by omega, by omega⟩, fun j hj => ?_⟩
  have h4 : ¬ 500 < (str n.texts j).size := fun e => h' (.inr (.inr (.inr ⟨j, hj, e⟩)))
  omega
theorem upN_small {n : Node} (h : Small n) : ∀ x ∈ upN n, Small x := by
  obtain ⟨h1, h2, h3⟩ := h
  intro x hx
  unfold upN at hx
  by_cases k1 : n.kind = 1
  · rw [if_pos k1] at hx
    obtain rfl := List.mem_singleton.1 hx
    exact ⟨by simp, by simp, h3⟩
  · rw [if_neg k1] at hx
    by_cases k2 : n.kind = 2
    · rw [if_pos k2] at hx
      rcases List.mem_cons.1 hx with rfl | hx
      · exact ⟨by simp; omega, by simp, by simp⟩
      · obtain rfl := List.mem_singleton.1 hx
        exact ⟨by simp, by simp, h3⟩
    · rw [if_neg k2] at hx
      by_cases k3 : n.kind = 3
      · rw [if_pos k3] at hx
        obtain rfl := List.mem_singleton.1 hx
        exact ⟨by simp, h2, h3⟩
      · rw [if_neg k3] at hx
        by_cases k4 : n.kind = 4
        · rw [if_pos k4] at hx
          obtain rfl := List.mem_singleton.1 hx
          exact ⟨h1, h2, h3⟩
        · rw [if_neg k4] at hx
          by_cases k5 : n.kind = 5
          · rw [if_pos k5] at hx
            obtain rfl := List.mem_singleton.1 hx
            exact ⟨by simp, by simp, h3⟩
          · rw [if_neg k5] at hx
            obtain rfl := List.mem_singleton.1 hx
            exact ⟨by simp, by simp, h3⟩
end Go.Proofs.YtglfebpgdghlfaaDoor.L
end
section
namespace Go.Proofs.YtglfebpgdghlfaaDoor.L
open Go.RowKit Go.ChangeShapes Go.WideShapes Go.Proofs.YtglfebpgdghlfaaDoorW.PrintWords Go.Proofs.YtglfebpgdghlfaaDoorW.PrintLast Go.Proofs.YtglfebpgdghlfaaDoorW.PrintMore
attribute [local go_sem] max2_int min2_int max_two min_two max_three min_three max_four min_four
set_option maxRecDepth 100000 in
set_option maxHeartbeats 4000000 in
theorem rtyped_1 (A : Option Addr) (c : Nat) (s : Scene) (w : World) (h : kNode.C w A s.nodes.length s.nodes) (hS : ∀ i : Nat, i < s.nodes.length → Small (nd s.nodes i)) (hTS : ∀ i : Nat, i < s.nodes.length → TextsSmall (nd s.nodes i)) :
    Calls Tryd.prog 21 #[.agg #[.slice A s.nodes.length c, .int .i64 s.root], .int .i64 1] w fun e w' => e = .returned (.tuple #[.int .i64 (typedS oldTab s.nodes).1, .int .i64 (typedS oldTab s.nodes).2]) ∧ Below w.heap.size w w' := by
  have HR := Aside0.mk h
  have HS := Aside0.mk hS
  have HTS := Aside0.mk hTS
  have b0 := h.2.1
  have HB := Aside0.mk (below_alloc (Below.refl w.heap.size w) (.cells #[.slice A s.nodes.length c, .int .i64 s.root] 39))
  have k0 := box_cell w _ rfl #[.slice A s.nodes.length c, .int .i64 s.root] 39 0 (.slice A s.nodes.length c) rfl
  have HK := Aside0.mk k0
  have hu := Tryd.underlying39
  have hun := Tryd.underlying26
  have hus := Tryd.underlying66
  clear h hS hTS
  go_enter Tryd.func21, Tryd.ntmps21
  go_wp2
  clear k0
  go_loopw [6] (fun v6 W => ∃ i : Nat, i ≤ s.nodes.length ∧ v6 = .int .i64 i ∧ Aside0 (∀ j : Nat, j < i → nodeT oldTab (nd s.nodes j) = 0) ∧ Aside0 (Below w.heap.size w W) ∧ Aside0 (W.cell? ⟨w.heap.size, 0, none⟩ = some (.slice A s.nodes.length c))) (fun v6 _ => s.nodes.length - (intOf v6).toNat)
  case atStart => exact ⟨0, by omega, rfl, ⟨fun j h => by omega⟩, HB, HK⟩
  case round =>
    clear HK HB
    obtain ⟨i, hi, rfl, HA, HW, HK⟩ := hrel
    have k0 := HK.out
    by_cases hlt : i < s.nodes.length
    · obtain ⟨adn, A1, c1, A2, c2, A3, c3, rfl, x0, x1, x2, x3, hN⟩ := at_node HR.out i hlt
      replace x0 := pw_cell_below HW.out x0
      replace x1 := pw_cell_below HW.out x1
      replace x2 := pw_cell_below HW.out x2
      replace x3 := pw_cell_below HW.out x3
      have HN := Aside0.mk hN
      clear hN
      go_wp2_with fail
      refine (rspec_1 (nd s.nodes i).kind _).mono ?_
      rintro e w6 ⟨A4, c4, rfl, hS6, -, hB6⟩
      have HB6 := Aside0.mk (below_step HW.out hB6)
      replace k0 := pw_cell_below hB6 k0
      replace x0 := pw_cell_below hB6 x0
      replace x1 := pw_cell_below hB6 x1
      replace x2 := pw_cell_below hB6 x2
      replace x3 := pw_cell_below hB6 x3
      cases hf : findS oldTab (nd s.nodes i).kind with
      | none =>
        have HE := Aside0.mk (typedS_bad (tab := oldTab) hlt HA.out (by unfold nodeT; rw [hf]; exact (by decide : ¬ (9 : Int) = 0)))
        have HE2 := Aside0.mk (show nodeT oldTab (nd s.nodes i) = 9 from by unfold nodeT; rw [hf])
        clear hf hS6 hB6 x0 x1 x2 x3
        go_wp2
        go_ret2
        exact ⟨ret_pair (by rw [HE.out, HE2.out]), below_step HB6.out (below_alloc (Below.refl _ _) _)⟩
      | some sp =>
        have HE2 := Aside0.mk (show nodeT oldTab (nd s.nodes i) = nodeErr (nd s.nodes i) sp from by unfold nodeT; rw [hf])
        rw [hf] at hS6
        have hbs := below_alloc (Below.refl w6.heap.size w6) (.cells #[.slice A4 sp.ints.length c4, .int .i64 sp.texts, .int .i64 sp.least, .int .i64 sp.most] 66)
        have q0 := box_cell w6 _ rfl #[.slice A4 sp.ints.length c4, .int .i64 sp.texts, .int .i64 sp.least, .int .i64 sp.most] 66 0 (.slice A4 sp.ints.length c4) rfl
        have q1 := box_cell w6 _ rfl #[.slice A4 sp.ints.length c4, .int .i64 sp.texts, .int .i64 sp.least, .int .i64 sp.most] 66 1 (.int .i64 sp.texts) rfl
        have q2 := box_cell w6 _ rfl #[.slice A4 sp.ints.length c4, .int .i64 sp.texts, .int .i64 sp.least, .int .i64 sp.most] 66 2 (.int .i64 sp.least) rfl
        have q3 := box_cell w6 _ rfl #[.slice A4 sp.ints.length c4, .int .i64 sp.texts, .int .i64 sp.least, .int .i64 sp.most] 66 3 (.int .i64 sp.most) rfl
        have HS6 := Aside0.mk (SpecC.below hS6 hbs)
        have HB7 := Aside0.mk (below_step HB6.out hbs)
        replace k0 := pw_cell_below hbs k0
        replace x0 := pw_cell_below hbs x0
        replace x1 := pw_cell_below hbs x1
        replace x2 := pw_cell_below hbs x2
        replace x3 := pw_cell_below hbs x3
        clear hf hS6 hB6 hbs
        go_wp2
        go_region_held3 (fun W => W.cell? ⟨w.heap.size, 0, none⟩ = some (.slice (some adn) s.nodes.length c) ∧ W.cell? (adn.add (i * 4)) = some (.int .i64 (nd s.nodes i).kind) ∧ W.cell? ⟨(adn.add (i * 4)).block, (adn.add (i * 4)).off + 1, none⟩ = some (.slice A1 (nd s.nodes i).ints.length c1) ∧ W.cell? ⟨(adn.add (i * 4)).block, (adn.add (i * 4)).off + 2, none⟩ = some (.slice A2 (nd s.nodes i).texts.length c2) ∧ W.cell? ⟨(adn.add (i * 4)).block, (adn.add (i * 4)).off + 3, none⟩ = some (.slice A3 (nd s.nodes i).kids.length c3) ∧
            W.cell? ⟨w6.heap.size, 0, none⟩ = some (.slice A4 sp.ints.length c4) ∧ W.cell? ⟨w6.heap.size, 1, none⟩ = some (.int .i64 sp.texts) ∧ W.cell? ⟨w6.heap.size, 2, none⟩ = some (.int .i64 sp.least) ∧ W.cell? ⟨w6.heap.size, 3, none⟩ = some (.int .i64 sp.most))
          (first
            | (go_split_ands
               (repeat' apply And.intro)
               all_goals first
                 | with_reducible assumption
                 | with_reducible exact pw_cell_below hB (by assumption)
                 | (simp [*]; done)))
          (first
            | (go_at_call 41; refine (rcheck_any (nd s.nodes i) A1 c1 A2 c2 A3 c3 sp A4 c4 _ (HN.out.below (below_drew HB7.out)) (SpecC.below HS6.out (below_drew (Below.refl _ _))) (HTS.out i hlt) (HS.out i hlt)).mono ?_; rintro e w8 ⟨rfl, hB8⟩; have hB := hB8))
        have HB8 := Aside0.mk (below_step (below_drew HB7.out) hB)
        have HK8 := Aside0.mk (pw_cell_below hB (show (w6.alloc _).drew.cell? _ = _ from k0))
        clear hB x0 x1 x2 x3 q0 q1 q2 q3 k0
        by_cases hz : nodeErr (nd s.nodes i) sp = 0
        · have HA2 := Aside0.mk (ext_lt HA.out (HE2.out.trans hz))
          rw [hz]
          clear hz
          go_wp2
          go_roundw
          case rel => exact ⟨i + 1, by omega, by go_num, HA2, HB8, HK8⟩
          case measure => simp [intOf]; omega
        · have HE := Aside0.mk (typedS_bad (tab := oldTab) hlt HA.out (by rw [HE2.out]; exact hz))
          have dz : (nodeErr (nd s.nodes i) sp != 0) = true := by simpa using hz
          clear hz
          go_wp2
          go_ret2
          exact ⟨ret_pair (by rw [HE.out, HE2.out]), HB8.out⟩
    · obtain rfl : i = s.nodes.length := by omega
      have HE := Aside0.mk (typedS_ok (tab := oldTab) HA.out)
      go_wp2
      go_ret2
      exact ⟨ret_pair HE.out, HW.out⟩
end Go.Proofs.YtglfebpgdghlfaaDoor.L
end
section
namespace Go.Proofs.YtglfebpgdghlfaaDoor.L
open Go.RowKit Go.ChangeShapes Go.WideShapes Go.Proofs.YtglfebpgdghlfaaDoorW.PrintWords Go.Proofs.YtglfebpgdghlfaaDoorW.PrintLast Go.Proofs.YtglfebpgdghlfaaDoorW.PrintMore
attribute [local go_sem] max2_int min2_int max_two min_two max_three min_three max_four min_four
open Go.Proofs.YtglfebpgdghlfaaDoor.PUpgradeUps
theorem nd_mem (l : List Node) (k : Nat) (hk : k < l.length) : nd l k ∈ l := by
  unfold nd
  rw [List.getD_eq_getElem?_getD, List.getElem?_eq_getElem hk]
  exact List.getElem_mem hk
theorem greatS_small {s : Scene} (h : greatS s = false) : s.nodes.length ≤ 60 ∧ (∀ i : Nat, i < s.nodes.length → Small (nd s.nodes i)) ∧ (∀ i : Nat, i < s.nodes.length → TextsSmall (nd s.nodes i)) ∧ (∀ i : Nat, i < s.nodes.length → (nd s.nodes i).kids.length ≤ 300) := by
  have h' := of_decide_eq_false h
  have h1 : ¬ 60 < s.nodes.length := fun e => h' (.inl e)
  have hg : ∀ i : Nat, i < s.nodes.length → greatN (nd s.nodes i) = false := fun i hi => Bool.eq_false_iff.2 (fun e => h' (.inr (.inr ⟨i, hi, e⟩)))
  refine ⟨by omega, fun i hi => (great_small (hg i hi)).1, fun i hi => (great_small (hg i hi)).2, fun i hi => ?_⟩
  have h2 := of_decide_eq_false (hg i hi)
  have h3 : ¬ 300 < (nd s.nodes i).kids.length := fun e => h2 (.inr (.inr (.inl e)))
  omega
theorem sum_le_of {f : Nat → Nat} {b : Nat} : ∀ l : List Nat, (∀ x ∈ l, f x ≤ b) → (l.map f).sum ≤ l.length * b
  | [], _ => by simp
  | x :: l, h => by
    have := sum_le_of (f := f) (b := b) l (fun y hy => h y (by simp [hy]))
    have := h x (by simp)
    rw [List.map_cons, List.sum_cons, List.length_cons, Nat.succ_mul]
    omega
theorem rows_le {ns : List Node} {b : Nat} (h : ∀ i : Nat, i < ns.length → (nd ns i).kids.length ≤ b) : rows ns ≤ ns.length * (b + 1) := by
  unfold rows
  have := sum_le_of (f := wt ns) (b := b + 1) (List.range ns.length) (fun x hx => by
    have := h x (List.mem_range.1 hx)
    unfold wt
    omega)
  rwa [List.length_range] at this
theorem r18_small {s : Scene} (hr : Right s) (hS : ∀ i : Nat, i < s.nodes.length → Small (nd s.nodes i)) : ∀ i : Nat, i < (r18S s).nodes.length → Small (nd (r18S s).nodes i) := by
  intro x hx
  have hx' : x < s.nodes.length + cnt s.nodes s.nodes.length := by have : (r18S s).nodes.length = s.nodes.length + cnt s.nodes s.nodes.length := r18_len _ _; omega
  obtain ⟨p, j, hp, hj, rfl⟩ := r_find s.nodes hx'
  show Small (nd (r18 s.nodes s.nodes.length) (rpos s.nodes p j))
  rw [nd_r18 s.nodes hp hj]
  have hu := upN_small (hS p hp)
  have hlen := upN_len (nd s.nodes p)
  have hpos := upLen_pos (nd s.nodes p)
  have hmem : ∀ k, k < (upN (nd s.nodes p)).length → nd (upN (nd s.nodes p)) k ∈ upN (nd s.nodes p) := fun k hk => nd_mem _ k hk
  have h0 : Small (hd0 s.nodes p) := hu _ (hmem 0 (by omega))
  by_cases hj0 : j = 0
  · rw [if_pos hj0]
    split
    · exact ⟨h0.1, h0.2.1, by show ([_] : List Int).length ≤ 1000000; simp⟩
    · exact h0
  · rw [if_neg hj0]
    exact hu _ (hmem 1 (by omega))
theorem r18_rows {s : Scene} (hr : Right s) (hn : s.nodes.length ≤ 60) (hK : ∀ i : Nat, i < s.nodes.length → (nd s.nodes i).kids.length ≤ 300) : rows (r18S s).nodes ≤ 1000000 := by
  have hlen : (r18S s).nodes.length = s.nodes.length + cnt s.nodes s.nodes.length := r18_len _ _
  have hcl : cnt s.nodes s.nodes.length ≤ s.nodes.length := by
    have h1 : (lows s.nodes s.nodes.length).length ≤ (List.range s.nodes.length).length := List.length_filter_le _ _
    rw [List.length_range] at h1; exact h1
  have := rows_le (ns := (r18S s).nodes) (b := 300) (fun x hx => by
    obtain ⟨p, j, hp, hj, rfl⟩ := r_find s.nodes (x := x) (by omega)
    have h1 := r18_kids s.nodes hp hj
    unfold kids at h1
    rw [Int.toNat_natCast] at h1
    show (nd (r18 s.nodes s.nodes.length) (rpos s.nodes p j)).kids.length ≤ 300
    rw [h1]
    split
    · simp
    · exact hK p hp)
  have h2 : (r18S s).nodes.length * (300 + 1) ≤ 120 * 301 := Nat.mul_le_mul (by omega) (by omega)
  omega
theorem up_is_ref {s : Scene} (hty : (typedS oldTab s.nodes).1 = 0) (hr : Right s) : upErr s = 0 ∧ upRes s = refRes s := by
  have hu := upS_right hr
  have hz := gcheck_right.2 hu
  obtain ⟨hc, hd, hp⟩ := r18_canon hr
  refine ⟨by unfold upErr; rw [if_pos hty, if_pos (gcheck_right.2 hr)]; exact hz, ?_⟩
  unfold upRes canonR refRes
  rw [if_pos hty, if_pos (gcheck_right.2 hr), if_pos hz, hc]
  have hl : (ord (r18S s)).length = (upS s).nodes.length := by
    have h1 : (canonL (upS s)).length = (ord (upS s)).length := by simp [canonL]
    have h2 : (canonL (r18S s)).length = (ord (r18S s)).length := by simp [canonL]
    rw [← h2, ← hc, h1, ord_len hu]
  rw [hl]
theorem up_err {s : Scene} (h : ¬ ((typedS oldTab s.nodes).1 = 0 ∧ (gcheck s).1 = 0)) : upErr s = (if (typedS oldTab s.nodes).1 = 0 then (gcheck s).1 else (typedS oldTab s.nodes).1) ∧ (upRes s).nodes = [] := by
  unfold upErr upRes
  by_cases h1 : (typedS oldTab s.nodes).1 = 0
  · have h2 : ¬ (gcheck s).1 = 0 := fun e => h ⟨h1, e⟩
    rw [if_pos h1, if_pos h1, if_pos h1, if_neg h2, if_neg h2]
    exact ⟨rfl, rfl⟩
  · rw [if_neg h1, if_neg h1, if_neg h1]
    exact ⟨rfl, rfl⟩
theorem typedS_all {ns : List Node} (h : (typedS oldTab ns).1 = 0) : ∀ i : Nat, i < ns.length → nodeT oldTab (nd ns i) = 0 := by
  intro i hi
  refine Classical.byContradiction fun hn => ?_
  -- the first that is bad
  have key : ∀ m, m ≤ ns.length → (∀ j : Nat, j < m → nodeT oldTab (nd ns j) = 0) ∨ ∃ k, k < m ∧ (∀ j : Nat, j < k → nodeT oldTab (nd ns j) = 0) ∧ ¬ nodeT oldTab (nd ns k) = 0 := fun m => by
    induction m with
    | zero => exact fun _ => .inl (fun j hj => by omega)
    | succ m ih =>
      intro hm
      rcases ih (by omega) with h1 | ⟨k, h1, h2, h3⟩
      · by_cases hb : nodeT oldTab (nd ns m) = 0
        · exact .inl (ext_lt (P := fun j : Nat => nodeT oldTab (nd ns j) = 0) h1 hb)
        · exact .inr ⟨m, by omega, h1, hb⟩
      · exact .inr ⟨k, by omega, h2, h3⟩
  rcases key ns.length (Nat.le_refl _) with h1 | ⟨k, h1, h2, h3⟩
  · exact hn (h1 i hi)
  · have := typedS_bad (tab := oldTab) h1 h2 h3
    rw [this] at h
    exact h3 h
theorem refRes_small {s : Scene} (hr : Right s) (hS : ∀ i : Nat, i < s.nodes.length → Small (nd s.nodes i)) : ∀ i : Nat, i < (refRes s).nodes.length → Small (nd (refRes s).nodes i) := by
  intro i hi
  obtain ⟨_, hd, hp⟩ := r18_canon hr
  have hm : nd (refRes s).nodes i ∈ canonL (r18S s) := by
    unfold nd
    rw [List.getD_eq_getElem?_getD, List.getElem?_eq_getElem hi]
    exact List.getElem_mem hi
  generalize nd (refRes s).nodes i = x at hm
  obtain ⟨a, ha, rfl⟩ := List.mem_map.1 hm
  have hpl := (ord_met' hd hp).shut.pl a ha
  have h1 := r18_small hr hS a.toNat (by have := hpl.1; have := hpl.2; omega)
  exact ⟨h1.1, h1.2.1, by show ((nd (r18S s).nodes a.toNat).kids.map _).length ≤ 1000000; rw [List.length_map]; exact h1.2.2⟩
set_option maxRecDepth 100000 in
set_option maxHeartbeats 8000000 in
theorem upgradeUps_any (A : Option Addr) (c : Nat) (s : Scene) (w : World) (h : kNode.C w A s.nodes.length s.nodes) (hc : s.nodes.length ≤ c) (hT : Tabs w) :
    Calls Tryd.prog 4 #[.agg #[.slice A s.nodes.length c, .int .i64 s.root]] w fun e w' => e = .returned (.bool true) ∧ Below w.heap.size w w' := by
  have HR := Aside0.mk h
  have HT := Aside0.mk hT
  have HB := Aside0.mk (below_alloc (Below.refl w.heap.size w) (.cells #[.slice A s.nodes.length c, .int .i64 s.root] 39))
  have k0 := box_cell w _ rfl #[.slice A s.nodes.length c, .int .i64 s.root] 39 0 (.slice A s.nodes.length c) rfl
  have k1 := box_cell w _ rfl #[.slice A s.nodes.length c, .int .i64 s.root] 39 1 (.int .i64 s.root) rfl
  have hu := Tryd.underlying39
  clear h hT
  go_enter Tryd.func4, Tryd.ntmps4
  go_wp2_with fail
  refine (awake_any _ (HT.out.below HB.out)).mono ?_
  rintro e w1 ⟨rfl, hB1⟩
  replace k0 := pw_cell_below hB1 k0
  replace k1 := pw_cell_below hB1 k1
  have HB1 := Aside0.mk (below_step HB.out hB1)
  clear hB1
  go_wp2_with fail
  refine (greatS_any A c s _ (Kd.C_below HR.out HB1.out)).mono ?_
  rintro e w2 ⟨rfl, hB2⟩
  replace k0 := pw_cell_below hB2 k0
  replace k1 := pw_cell_below hB2 k1
  have HB2 := Aside0.mk (below_step HB1.out hB2)
  clear hB2
  cases hg : greatS s with
  | true =>
    clear hg
    go_wp2_with fail
    refine (awake_any _ (HT.out.below HB2.out)).mono ?_
    rintro e w3 ⟨rfl, hB3⟩
    have HB3 := Aside0.mk (below_step HB2.out hB3)
    clear hB3 k0 k1
    go_wp2
    go_ret
    exact ⟨rfl, HB3.out⟩
  | false =>
    have HG := Aside0.mk (greatS_small hg)
    have hn60 : s.nodes.length ≤ 60 := HG.out.1
    have HMr := Aside0.mk (show rows s.nodes ≤ 130000 from by
      have h1 := rows_le HG.out.2.2.2
      have h2 : s.nodes.length * (300 + 1) ≤ 60 * 301 := Nat.mul_le_mul HG.out.1 (by omega)
      omega)
    clear hg
    go_wp2_with fail
    refine (scopy_any A c s _ (Kd.C_below HR.out HB2.out) hc (by omega) HG.out.2.1).mono ?_
    rintro e w3 ⟨A2, c2, rfl, -, hC3, hB3⟩
    replace k0 := pw_cell_below hB3 k0
    replace k1 := pw_cell_below hB3 k1
    have HC3 := Aside0.mk hC3
    have HB3 := Aside0.mk (below_step HB2.out hB3)
    clear hB3 hC3
    go_wp2_with fail
    refine (up_any A2 c2 s _ HC3.out (HT.out.below HB3.out) HG.out.2.1 HG.out.2.2.1 HMr.out).mono ?_
    rintro e w4 ⟨A3, c3, rfl, hR4, hB4⟩
    have hA := below_alloc (Below.refl w4.heap.size w4) (.cells #[.slice A3 (upRes s).nodes.length c3, .int .i64 (upRes s).root] 39)
    have HC4 := Aside0.mk (Kd.C_alloc (Kd.R_reads' hR4).2.2 (.cells #[.slice A3 (upRes s).nodes.length c3, .int .i64 (upRes s).root] 39))
    have q0 := box_cell w4 _ rfl #[.slice A3 (upRes s).nodes.length c3, .int .i64 (upRes s).root] 39 0 (.slice A3 (upRes s).nodes.length c3) rfl
    have q1 := box_cell w4 _ rfl #[.slice A3 (upRes s).nodes.length c3, .int .i64 (upRes s).root] 39 1 (.int .i64 (upRes s).root) rfl
    replace k0 := pw_cell_below hA (pw_cell_below hB4 k0)
    replace k1 := pw_cell_below hA (pw_cell_below hB4 k1)
    have HB4 := Aside0.mk (below_step (below_step HB3.out hB4) hA)
    clear hB4 hR4 hA
    go_wp2_with fail
    refine (rtyped_1 A c s _ (Kd.C_below HR.out HB4.out) HG.out.2.1 HG.out.2.2.1).mono ?_
    rintro e w5 ⟨rfl, hB5⟩
    replace k0 := pw_cell_below hB5 k0
    replace k1 := pw_cell_below hB5 k1
    replace q0 := pw_cell_below hB5 q0
    replace q1 := pw_cell_below hB5 q1
    have HC5 := Aside0.mk (Kd.C_below HC4.out hB5)
    have HB5 := Aside0.mk (below_step HB4.out hB5)
    clear hB5
    by_cases hty : ¬ (typedS oldTab s.nodes).1 = 0
    · obtain ⟨e1, e2⟩ := up_err (s := s) (fun hh => hty hh.1)
      rw [if_neg hty] at e1
      have hl0 : (upRes s).nodes.length = 0 := by rw [e2]; rfl
      have d1 : ((typedS oldTab s.nodes).1 == 0) = false := by simpa using hty
      have d2 : ((typedS oldTab s.nodes).1 != 0) = true := by simpa using hty
      rw [hl0] at q0
      rw [e1]
      clear e1 e2 hty
      go_wp2
      go_ret
      exact ⟨by simp, HB5.out⟩
    replace hty := Classical.byContradiction hty
    have HTy := Aside0.mk hty
    rw [hty]
    clear hty
    go_wp2_with fail
    refine (rchk_any A c s _ (Kd.C_below HR.out HB5.out) hc (by have := HMr.out; omega)).mono ?_
    rintro e w6 ⟨rfl, hB6⟩
    replace k0 := pw_cell_below hB6 k0
    replace k1 := pw_cell_below hB6 k1
    replace q0 := pw_cell_below hB6 q0
    replace q1 := pw_cell_below hB6 q1
    have HC6 := Aside0.mk (Kd.C_below HC5.out hB6)
    have HB6 := Aside0.mk (below_step HB5.out hB6)
    clear hB6
    by_cases hz : ¬ (gcheck s).1 = 0
    · obtain ⟨e1, e2⟩ := up_err (s := s) (fun hh => hz hh.2)
      rw [if_pos HTy.out] at e1
      have hl0 : (upRes s).nodes.length = 0 := by rw [e2]; rfl
      have d2 : ((gcheck s).1 != 0) = true := by simpa using hz
      rw [hl0] at q0
      rw [e1]
      clear e1 e2 hz
      go_wp2
      go_ret
      exact ⟨by simp, HB6.out⟩
    replace hz := Classical.byContradiction hz
    have HRt := Aside0.mk (gcheck_right.1 hz)
    obtain ⟨e1, e2⟩ := up_is_ref HTy.out HRt.out
    have HSr := Aside0.mk (refRes_small HRt.out HG.out.2.1)
    rw [e2] at HC6 q0 q1
    rw [hz, e1]
    clear hz e1 e2
    go_wp2
    go_region_held3 (fun W => W.cell? ⟨w.heap.size, 0, none⟩ = some (.slice A s.nodes.length c) ∧ W.cell? ⟨w.heap.size, 1, none⟩ = some (.int .i64 s.root) ∧ W.cell? ⟨w4.heap.size, 0, none⟩ = some (.slice A3 (refRes s).nodes.length c3) ∧ W.cell? ⟨w4.heap.size, 1, none⟩ = some (.int .i64 (refRes s).root))
      (first
        | (go_split_ands
           (repeat' apply And.intro)
           all_goals first
             | with_reducible assumption
             | with_reducible exact pw_cell_below hB (by assumption)
             | (simp [*]; done)))
      (first
        | (go_at_call 24; refine (rup_any A c s _ (Kd.C_drew (Kd.C_below HR.out HB6.out)) HG.out.2.1 HG.out.2.2.1 (typedS_all HTy.out) HRt.out (by omega) (r18_rows HRt.out hn60 HG.out.2.2.2) (r18_small HRt.out HG.out.2.1)).mono ?_; rintro e w7 ⟨B, d, rfl, hR7, hB⟩; have HB7 := Aside0.mk (below_step (below_drew HB6.out) hB); have HC7 := Aside0.mk (Kd.C_below (Kd.C_drew HC6.out) hB); have HD7 := Aside0.mk (Kd.R_reads' hR7).2.2)
        | (go_at_call 23; refine (sameS_any A3 c3 (refRes s) B d (refRes s) _ HC7.out HD7.out HSr.out).mono ?_; rintro e w8 ⟨rfl, hB⟩; rw [sameS_yes rfl]; have HB8 := Aside0.mk (below_step HB7.out hB)))
    all_goals
      clear k0 k1 q0 q1
      go_wp2
      go_ret
      exact ⟨rfl, HB8.out⟩
end Go.Proofs.YtglfebpgdghlfaaDoor.L
end
section
namespace Go.Proofs.YtglfebpgdghlfaaDoor.L
open Go.RowKit Go.ChangeShapes Go.WideShapes Go.Proofs.YtglfebpgdghlfaaDoorW.PrintWords Go.Proofs.YtglfebpgdghlfaaDoorW.PrintLast Go.Proofs.YtglfebpgdghlfaaDoorW.PrintMore
attribute [local go_sem] max2_int min2_int max_two min_two max_three min_three max_four min_four
section
variable {P : Program} {α β : Type}
def Opens (P : Program) (k : Kd α) (t : TypeId) (good : α → Prop) : Prop :=
  ∀ (H : Type) (enc : TypeId × Value → H) (w : World) (base : Nat) (spare : Nat → Bool) (held : Bool) (fuel : Nat) (cs : List Value) (x : DataW H × List MemPlace), DataW.trod enc P w base spare held fuel t cs = some x → ∃ v, k.K w v cs ∧ good v
theorem opens_int {t : TypeId} {k : IntKind} (ht : P.underlying t = some (.int k)) : Opens P (Kd.int k) t (fun n => (Lit.int k n).wf = true) := by
  intro H enc w base spare held fuel cs x h
  obtain ⟨n, rfl, _, hw⟩ := DataW.trod_int ht h
  exact ⟨n, rfl, hw⟩
theorem opens_string {t : TypeId} (ht : P.underlying t = some .string) : Opens P Kd.string t (fun s => s.size ≤ maxLen) := by
  intro H enc w base spare held fuel cs x h
  obtain ⟨s, rfl, _, hs⟩ := DataW.trod_string ht h
  exact ⟨s, rfl, hs⟩
theorem list_of {R : Nat → α → Prop} : ∀ n, (∀ i, i < n → ∃ p, R i p) → ∃ xs : List α, xs.length = n ∧ ∀ j p, xs[j]? = some p → R j p := by
  intro n
  induction n with
  | zero => intro _; exact ⟨[], rfl, fun j p h => by simp at h⟩
  | succ n ih =>
    intro h
    obtain ⟨xs, hl, hx⟩ := ih (fun i hi => h i (by omega))
    obtain ⟨p, hp⟩ := h n (by omega)
    refine ⟨xs ++ [p], by simp [hl], fun j q hq => ?_⟩
    rw [List.getElem?_append] at hq
    split at hq
    · exact hx j q hq
    · have hj : j = n := by
        have := (List.getElem?_eq_some_iff.1 hq).1
        simp at this
        omega
      subst hj
      rw [hl, Nat.sub_self] at hq
      simp at hq
      subst hq
      exact hp
theorem opens_slice {d : Kd α} {t e e' : TypeId} {good : α → Prop} (ht : P.underlying t = some (.slice e)) (hc : P.cellsOf e = d.sz) (hd : Opens P d e good) : Opens P (Kd.slice e' d) t (fun xs => xs.length ≤ maxLen ∧ ∀ x ∈ xs, good x) := by
  intro H enc w base spare held fuel cs x h
  rcases Deep.open_slice ht h with ⟨rfl, _⟩ | ⟨a, len, cap, m, n, D, Pl, rfl, _, hl, hm, hmm, _, hx⟩
  · exact ⟨[], ⟨none, 0, rfl, Nat.le_refl _, rfl, by simp, fun h => by simp at h⟩, by simp, by simp⟩
  · have hlm : len ≤ m := by rw [hmm]; split <;> omega
    rw [hc] at hx
    obtain ⟨xs, hxl, hxs⟩ := list_of (R := fun i p => (∃ c, c.length = d.sz ∧ d.K w p c ∧ ∀ j u, c[j]? = some u → w.cell? (a.add (i * d.sz + j)) = some u) ∧ good p) len (fun i hi => by
      obtain ⟨cs', h1, h2⟩ := hx i (by omega)
      obtain ⟨_, hcl, hat⟩ := World.cells?_some h1
      obtain ⟨p, hK, hg⟩ := hd H enc w base spare held n cs' _ h2
      refine ⟨p, ⟨cs', hcl, hK, fun j u hu => ?_⟩, hg⟩
      have hj : j < d.sz := by rw [← hcl]; exact (List.getElem?_eq_some_iff.1 hu).1
      rw [← Deep.add_add, hat j hj, hu])
    subst hxl
    refine ⟨xs, ⟨some a, cap, rfl, hl, rfl, by unfold maxLen at hm; omega, fun _ => ⟨a, rfl, fun j p hp => (hxs j p hp).1⟩⟩, by omega, fun x hx => ?_⟩
    obtain ⟨j, hj⟩ := List.getElem?_of_mem hx
    exact (hxs j x hj).2
def OpensL (P : Program) (k : Kd α) (fs : List Field) (off : Nat) (good : α → Prop) : Prop :=
  ∀ (H : Type) (enc : TypeId × Value → H) (w : World) (base : Nat) (spare : Nat → Bool) (held : Bool) (n : Nat) (cs : List Value), cs.length = k.sz → (∀ f ∈ fs, ∃ x, DataW.trod enc P w base spare held n f.type ((cs.drop (f.offset - off)).take (P.cellsOf f.type)) = some x) → ∃ v, k.K w v cs ∧ good v
theorem opensL_one {k : Kd α} {f : Field} {off : Nat} {good : α → Prop} (ho : f.offset = off) (hc : P.cellsOf f.type = k.sz) (h : Opens P k f.type good) : OpensL P k [f] off good := by
  intro H enc w base spare held n cs hl hf
  obtain ⟨x, hx⟩ := hf f (by simp)
  rw [ho, Nat.sub_self, List.drop_zero, hc, ← hl, List.take_length] at hx
  exact h H enc w base spare held n cs x hx
theorem opensL_cons {a : Kd α} {b : Kd β} {f : Field} {fs : List Field} {off : Nat} {ga : α → Prop} {gb : β → Prop} (ho : f.offset = off) (hc : P.cellsOf f.type = a.sz) (h : Opens P a f.type ga) (hoff : ∀ g ∈ fs, off + a.sz ≤ g.offset) (hs : OpensL P b fs (off + a.sz) gb) :
    OpensL P (Kd.pair a b) (f :: fs) off (fun x => ga x.1 ∧ gb x.2) := by
  intro H enc w base spare held n cs hl hf
  have hl' : cs.length = a.sz + b.sz := hl
  obtain ⟨x, hx⟩ := hf f (by simp)
  rw [ho, Nat.sub_self, List.drop_zero, hc] at hx
  obtain ⟨v, hv, hg⟩ := h H enc w base spare held n _ x hx
  obtain ⟨u, hu, hg'⟩ := hs H enc w base spare held n (cs.drop a.sz) (by rw [List.length_drop]; omega) (fun g hg => by
    obtain ⟨y, hy⟩ := hf g (by simp [hg])
    have := hoff g hg
    refine ⟨y, ?_⟩
    rw [List.drop_drop, show a.sz + (g.offset - (off + a.sz)) = g.offset - off from by omega]
    exact hy)
  exact ⟨(v, u), ⟨_, _, (List.take_append_drop a.sz cs).symm, hv, hu⟩, hg, hg'⟩
theorem opens_struct {k : Kd α} {t : TypeId} {fs : Array Field} {good : α → Prop} (ht : P.underlying t = some (.struct fs)) (hc : P.cellsOf t = k.sz) (h : OpensL P k fs.toList 0 good) : Opens P k t good := by
  intro H enc w base spare held fuel cs x hx
  obtain ⟨xs, n, _, _, hl, hxl, hf⟩ := DataW.trod_struct ht hx
  refine h H enc w base spare held n cs (hl.trans hc) (fun f hfm => ?_)
  obtain ⟨i, hi⟩ := List.getElem?_of_mem hfm
  have hi' : fs[i]? = some f := by simpa using hi
  have hil : i < xs.length := by rw [hxl]; exact (Array.getElem?_eq_some_iff.1 hi').1
  exact ⟨xs[i]'hil, by rw [Nat.sub_zero, hf i f hi', List.getElem?_eq_getElem hil]⟩
theorem opens_iso {d : Kd α} {f : β → α} {t : TypeId} {good : α → Prop} (hf : ∀ v, ∃ x, f x = v) (h : Opens P d t good) : Opens P (Kd.iso d f) t (fun x => good (f x)) := by
  intro H enc w base spare held fuel cs x hx
  obtain ⟨v, hv, hg⟩ := h H enc w base spare held fuel cs x hx
  obtain ⟨y, rfl⟩ := hf v
  exact ⟨y, hv, hg⟩
theorem Opens.arg_struct {k : Kd α} {H : Type} {enc : TypeId × Value → H} {W : World} {b0 base : Nat} {r : Reach} {spare : Nat → Bool} {held : Bool} {t : TypeId} {fs : Array Field} {good : α → Prop} {v : Value} {q : DataW H} {p : List MemPlace} (hs : P.underlying t = some (.struct fs)) (ho : Opens P k t good)
    (hv : Value.okWide P W r b0 t v) (h : DataW.Trod enc P W base spare held t v q p) : ∃ x cs, v = .agg cs ∧ k.K W x cs.toList ∧ good x := by
  obtain ⟨cs, rfl, _⟩ := okWide_struct hs hv
  obtain ⟨fuel, hf⟩ := h
  obtain ⟨x, hK, hg⟩ := ho H enc W base spare held fuel _ _ hf
  exact ⟨x, cs, rfl, by simpa [Value.cells] using hK, hg⟩
end
end Go.Proofs.YtglfebpgdghlfaaDoor.L
end
section
namespace Go.Proofs.YtglfebpgdghlfaaDoor.L
open Go.RowKit Go.ChangeShapes Go.WideShapes Go.Proofs.YtglfebpgdghlfaaDoorW.PrintWords Go.Proofs.YtglfebpgdghlfaaDoorW.PrintLast Go.Proofs.YtglfebpgdghlfaaDoorW.PrintMore
attribute [local go_sem] max2_int min2_int max_two min_two max_three min_three max_four min_four
open Go.ChangeShapes Go.WideShapes Go.ChangeAt Go.RowKit
theorem own : ownKnob Tryd.prog.godebug = none := by kernel_rfl
theorem laidOut : laidOutB Tryd.prog = true := by kernel_rfl
def rowLaid : List (String × DataW Unit) := [("unicode/utf8.acceptRanges", Rows.laid_unicode_utf8_acceptRanges), ("unicode/utf8.first", Rows.laid_unicode_utf8_first)]
theorem firstD : Go.Pinned.utf8First = Lib.firstData := by kernel_rfl
theorem acceptD : (Rows.laid_unicode_utf8_acceptRanges : DataW Unit) = Lib.acceptData := by kernel_rfl
theorem tabs_of_laid {W : World} (h : laidMetH Tryd.prog rowLaid W) : Tabs W := by
  rw [MakeChecks.laidMetH_plain _ _ _ (by kernel_rfl)] at h
  exact utf8Tabs_of_reads Tryd.lays260 ⟨by kernel_rfl, by kernel_rfl, by kernel_rfl, by kernel_rfl, by kernel_rfl, by kernel_rfl, by kernel_rfl⟩
    (firstD ▸ Lib.laidMet.reads h (show ("unicode/utf8.first", Go.Pinned.utf8First) ∈ rowLaid from .tail _ (.head _)))
    (acceptD ▸ Lib.laidMet.reads h (show ("unicode/utf8.acceptRanges", Rows.laid_unicode_utf8_acceptRanges) ∈ rowLaid from .head _))
theorem laid_met (os : Os) (args : Array Value) : laidMetH Tryd.prog rowLaid ((World.laidAll Tryd.prog os rowLaid).forCall (fun _ _ => 0) ⟨#[], args, []⟩).memory := by
  rw [MakeChecks.laidMetH_plain _ _ _ (by kernel_rfl)]
  exact laidMet_laidAll _ (by kernel_rfl) (by kernel_rfl)
theorem opensL_any {P : Program} {α : Type} {k : Kd α} {fs : List Field} {off : Nat} {good : α → Prop} (h : OpensL P k fs off good) : OpensL P k fs off (fun _ => True) := by
  intro H enc w base spare held n cs hl hf
  obtain ⟨v, hv, _⟩ := h H enc w base spare held n cs hl hf
  exact ⟨v, hv, trivial⟩
theorem opens_node : Opens Tryd.prog kNode 26 (fun _ => True) := by
  unfold kNode
  refine opens_iso (good := fun _ => True) (fun v => ⟨⟨v.1, v.2.1, v.2.2.1, v.2.2.2⟩, rfl⟩) (opens_struct (good := fun _ => True) Tryd.underlying26 (by kernel_rfl) ?_)
  exact opensL_any (opensL_cons rfl (by kernel_rfl) (opens_int Tryd.underlying3) (by decide)
    (opensL_cons rfl (by kernel_rfl) (opens_slice Tryd.underlying22 (by kernel_rfl) (opens_int Tryd.underlying2)) (by decide)
    (opensL_cons rfl (by kernel_rfl) (opens_slice Tryd.underlying23 (by kernel_rfl) (opens_string Tryd.underlying9)) (by decide)
    (opensL_one rfl (by kernel_rfl) (opens_slice Tryd.underlying24 (by kernel_rfl) (opens_int Tryd.underlying3))))))
def kScene : Kd Scene := Kd.iso (Kd.pair (Kd.slice 26 kNode) (Kd.int .i64)) (fun x : Scene => (x.nodes, x.root))
theorem opens_scene : Opens Tryd.prog kScene 39 (fun _ => True) := by
  unfold kScene
  refine opens_iso (good := fun _ => True) (fun v => ⟨⟨v.1, v.2⟩, rfl⟩) (opens_struct (good := fun _ => True) Tryd.underlying39 (by kernel_rfl) ?_)
  exact opensL_any (opensL_cons rfl (by kernel_rfl) (opens_slice Tryd.underlying30 (by kernel_rfl) opens_node) (by decide)
    (opensL_one rfl (by kernel_rfl) (opens_int Tryd.underlying3)))
theorem kScene_open {w : World} {x : Scene} {cs : List Value} (h : kScene.K w x cs) : ∃ A c, cs = [.slice A x.nodes.length c, .int .i64 x.root] ∧ x.nodes.length ≤ c ∧ kNode.C w A x.nodes.length x.nodes := by
  obtain ⟨_, _, rfl, ⟨A, c, rfl, l, h⟩, rfl⟩ := h
  exact ⟨A, c, rfl, l, h⟩
end Go.Proofs.YtglfebpgdghlfaaDoor.L
end
section
namespace Go.Proofs.YtglfebpgdghlfaaDoor.L
open Go.RowKit Go.ChangeShapes Go.WideShapes Go.Proofs.YtglfebpgdghlfaaDoorW.PrintWords Go.Proofs.YtglfebpgdghlfaaDoorW.PrintLast Go.Proofs.YtglfebpgdghlfaaDoorW.PrintMore
attribute [local go_sem] max2_int min2_int max_two min_two max_three min_three max_four min_four
namespace upgradeUps
open Go.ChangeShapes Go.WideShapes Go.ChangeAt Go.RowKit
set_option maxRecDepth 100000 in
theorem lifted (os : Os) (started : os.Started) (H : Type) (enc : TypeId × Value → H) :
    ReturnsInHanded {} Tryd.checked os 4 .any (fun w args => (Rows.upgradeUpsSpec.pre enc Tryd.prog Tryd.f4 [] false w args ∧ laidMetH Tryd.prog rowLaid w) ∧ sizedMet enc Tryd.prog Tryd.f4 (OpenSpec.ofChange Rows.upgradeUpsSpec) false w args)
      (Rows.upgradeUpsSpec.post enc Tryd.prog Tryd.f4 false true false false) := by
  refine returnsInHanded_of_change_and (C := Tryd.checked) (X := fun w _ => laidMetH Tryd.prog rowLaid w) (fun _ _ _ hh h => h.of_heap hh) own started (by kernel_rfl) Tryd.func4
    (ChangeSpec.witness_shaped (enc := enc) (C := Tryd.checked) (os := os) (X := fun w _ => laidMetH Tryd.prog rowLaid w) false (World.laidAll Tryd.prog os rowLaid) #[.agg #[.slice none 0 0, .int .i64 0]] 8 (World.laidAll_os _ _ _)
      (World.shaped_of_ZipB (by kernel_rfl) (by kernel_rfl)) (by kernel_rfl) (by kernel_rfl) (by kernel_rfl) (laid_met os _)) ?_
  intro W base args ds gs before hval0 hW hc _ hL _
  have hval : ∀ (j : Nat) t v, (Tryd.f4).params[j]? = some t → args[j]? = some v → Value.okWide Tryd.prog W .any base t v := hval0
  have hW' := hW
  obtain ⟨p, q, hA0, hV, rfl, hfz, hnd⟩ := hW
  have hA : DataW.TrodAll enc Tryd.prog W 0 (fun _ => true) true (Tryd.f4).params.toList args.toList ds p := hA0
  rw [Tryd.params4] at hA hval
  obtain ⟨v0, vs0, d0, ds0, p0, q0, hargs, rfl, rfl, h0, r0⟩ := trodAll_cons hA
  obtain ⟨rfl, rfl, rfl⟩ := trodAll_nil r0
  obtain rfl : args = #[v0] := by cases args; simp_all
  obtain ⟨rfl, rfl⟩ := trodVars_none hV
  have lt0 : ∀ x ∈ p0, x.block < W.heap.size := by obtain ⟨m, hm⟩ := h0; exact DataW.trod_lt m _ _ _ hm
  obtain ⟨s, cs, rfl, hK, _⟩ := Opens.arg_struct Tryd.underlying39 opens_scene (hval 0 39 v0 rfl rfl) h0
  obtain ⟨A, c, hcs, hlc, hC⟩ := kScene_open hK
  obtain rfl : cs = #[.slice A s.nodes.length c, .int .i64 s.root] := by cases cs; simp_all
  clear hA0 hval0
  refine (upgradeUps_any A c s W hC hlc (tabs_of_laid hL)).mono fun e W' ⟨he, bel⟩ => ?_
  subst he
  exact ⟨_, rfl, _, _, _, [], _, [], hW', trodAll_mk1 (shut_bool Tryd.underlying4 _), (trodAll_cons_mk (Below.trod laidOut (by kernel_rfl) (of_decide_eq_true (by kernel_rfl)) h0 bel lt0) trodAll_mk0), rfl, bel.frame _, fun h => by cases h⟩
theorem over : Rows.UpgradeUpsSaid :=
  OpenClaim.holds_of_wide 4 Tryd.f4 rfl rfl rfl rfl rfl rfl rfl ⟨rfl, rfl, rfl, rfl, rfl⟩ rfl rfl rfl rfl rfl (by kernel_rfl) Tryd.func4 (by kernel_rfl)
    (of_decide_eq_true (by kernel_rfl)) (by unfold Func.isWrapper; first | (rw [if_pos (by decide +kernel)]; kernel_rfl) | (rw [if_neg (by decide +kernel)]; exact ⟨rfl, rfl⟩))
    (fun os started H enc _ => lifted os started H enc)
theorem card_holds : Rows.UpgradeUpsCardSaid :=
  Claim7.holds_tied_plain_at .later [] [.data, .pinned] true (true, "d9096c8d86ec02858f6829e4145980d481af2c3bac41f782ac1e7c2d8c679a29") false over (fun _ h => by cases h) (by kernel_rfl) (fun _ h => by cases h) upgradeUps_row_tie rfl ⟨rfl, rfl⟩ (by kernel_rfl) rfl
    (fun f fn hf hfn => by
      obtain rfl : f = 4 := Option.some.inj ((show Tryd.prog.funcNamed "diorama/dioramalaw18.UpgradeUps" = some 4 by kernel_rfl).symm.trans hf) |>.symm
      obtain rfl : fn = Tryd.f4 := (Option.some.inj ((Tryd.func4).symm.trans hfn)).symm
      exact ⟨by kernel_rfl, fun j t ht => by
        rw [Tryd.params4] at ht
        have hm : t ∈ [39] := by simpa using Array.mem_of_getElem? ht
        have hall : ([39].all fun u => !Tryd.prog.wantsStandIn u) = true := by kernel_rfl
        exact (show Tryd.prog.wantsStandIn t = false by simpa using List.all_eq_true.1 hall t hm)⟩)
    (by kernel_rfl)
#print axioms card_holds
end upgradeUps
end Go.Proofs.YtglfebpgdghlfaaDoor.L
end
