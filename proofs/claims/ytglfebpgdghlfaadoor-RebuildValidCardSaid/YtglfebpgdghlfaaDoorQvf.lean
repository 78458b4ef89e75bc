/- What comes of any operations by rebuild.Apply is valid within its own measure, and canonical, with as many nodes as operations; or has no node; conditions: none (every scene, every list of operations; the two tables of unicode/utf8 read as the program's text lays them, and the card ties that). Conditions: those that each theorem states. -/
import Derived.Test.YtglfebpgdghlfaaDoorQve
import Derived.Test.YtglfebpgdghlfaaDoorCards
import Derived.Test.YtglfebpgdghlfaaDoorTie
import Derived.OpenShut
import Derived.ChangeOld
import Derived.SizedLaws
import Derived.LaidMore
import Derived.Lay
import Derived.SevenTiedAt
import Derived.Stop.Joined
import Derived.Lib.LaidU8
set_option linter.unusedVariables false
set_option linter.unusedSimpArgs false
section
namespace Go.Proofs.YtglfebpgdghlfaaDoor.L
open Go.RowKit Go.ChangeShapes Go.WideShapes Go.Proofs.YtglfebpgdghlfaaDoorW.PrintWords Go.Proofs.YtglfebpgdghlfaaDoorW.PrintLast Go.Proofs.YtglfebpgdghlfaaDoorW.PrintMore
attribute [local go_sem] max2_int min2_int max_two min_two max_three min_three max_four min_four
def TxOk (n : Node) : Prop := n.texts.length ≤ 100 ∧ ∀ x ∈ n.texts, x.size ≤ 500
structure OpTx (o : Opn) : Prop where
  node : TxOk o.node
  sets : ∀ x ∈ o.sets, x.s.size ≤ 500
theorem tx_nodez : TxOk nodez := ⟨by simp [nodez], fun x hx => by simp [nodez] at hx⟩
theorem oneN_tx {a : List Node} {base : List Int} {o : Opn} (ha : ∀ i : Nat, i < a.length → TxOk (nd a i)) (ho : OpTx o) : TxOk (oneN a base o).1 := by
  have img_ok : ∀ p : Int, takes a.length base p = true → TxOk (imgN base (nd a p.toNat)) := fun p hp => by
    obtain ⟨h1, h2, _⟩ := of_decide_eq_true hp
    exact ha p.toNat (by omega)
  unfold oneN
  split
  · unfold keepN
    split
    · rename_i h; exact img_ok _ h.2.2.2
    · exact tx_nodez
  · split
    · unfold changeN
      split
      · rename_i h
        have h1 := img_ok _ h.2
        unfold editN
        split
        · exact tx_nodez
        · rename_i m hm
          obtain ⟨_, _, g3, _⟩ := setAll_kids hm
          have gt := setAll_texts hm
          split
          · refine ⟨by show m.texts.length ≤ _; rw [g3]; exact h1.1, fun x hx => ?_⟩
            rcases gt x hx with h2 | ⟨y, hy, e⟩
            · exact h1.2 x h2
            · rw [e]; exact ho.sets y hy
          · exact tx_nodez
      · exact tx_nodez
    · split
      · unfold freshN
        split
        · exact ho.node
        · exact tx_nodez
      · exact tx_nodez
theorem runO_tx {a : List Node} (ha : ∀ i : Nat, i < a.length → TxOk (nd a i)) : ∀ (l : List Opn) (base : List Int) (out : List Node) (i : Nat), (∀ o ∈ l, OpTx o) → (∀ k : Nat, k < out.length → TxOk (nd out k)) → ∀ out', runO a l base out i = .inl out' → ∀ k : Nat, k < out'.length → TxOk (nd out' k)
  | [], base, out, i, _, ho, out', h => by
    have h' : (Sum.inl out : List Node ⊕ (Int × Nat)) = .inl out' := h
    injection h' with h'
    subst h'
    exact ho
  | o :: l, base, out, i, hl, ho, out', h => by
    have h' : (if doErr a base out.length o = 0 then runO a l (base ++ [baseOf o]) (out ++ [(oneN a base o).1]) (i + 1) else .inr (doErr a base out.length o, i)) = .inl out' := h
    by_cases hz : doErr a base out.length o = 0
    · rw [if_pos hz] at h'
      exact runO_tx ha l (base ++ [baseOf o]) (out ++ [(oneN a base o).1]) (i + 1) (fun x hx => hl x (by simp [hx])) (nd_snoc ho (oneN_tx ha (hl o (by simp)))) out' h'
    · rw [if_neg hz] at h'
      cases h'
theorem applyR_tx {a : Scene} {l : List Opn} (ha : ∀ i : Nat, i < a.nodes.length → TxOk (nd a.nodes i)) (hl : ∀ o ∈ l, OpTx o) : ∀ k : Nat, k < (applyR a l).1.nodes.length → TxOk (nd (applyR a l).1.nodes k) := by
  have none : ∀ k : Nat, k < ([] : List Node).length → TxOk (nd [] k) := fun k hk => by simp at hk
  unfold applyR
  split
  · split
    · cases hr : runO a.nodes l [] [] 0 with
      | inr q => exact none
      | inl out =>
        have k1 := runO_tx ha l [] [] 0 hl none out hr
        show ∀ k : Nat, k < (finR out).1.nodes.length → TxOk (nd (finR out).1.nodes k)
        unfold finR
        split
        · split
          · split
            · exact k1
            · exact none
          · exact none
        · exact none
    · exact none
  · exact none
theorem meas_le {l : List ByteArray} {b : Nat} (h : ∀ x ∈ l, x.size ≤ b) : (meas l).2 ≤ l.length * b := by
  have hi := meas_inv l
  rw [hi.sum]
  have key : ∀ v : List ByteArray, (∀ x ∈ v, x.size ≤ b) → szs v ≤ v.length * b := fun v => by
    induction v with
    | nil => intro _; exact Nat.zero_le _
    | cons x v ih =>
      intro hv
      have h1 := ih (fun y hy => hv y (by simp [hy]))
      have h2 := hv x (by simp)
      unfold szs at h1 ⊢
      rw [List.map_cons, List.sum_cons, List.length_cons, Nat.succ_mul]
      omega
  have h1 := key (meas l).1 (fun x hx => h x ((hi.mem x).1 hx))
  exact Nat.le_trans h1 (Nat.mul_le_mul_right b hi.len)
theorem edgesTo_le {ns : List Node} (h : ∀ i : Nat, i < ns.length → (nd ns i).kids.length ≤ 5000) (hn : ns.length ≤ 1000) : ∀ i : Nat, i ≤ ns.length → 0 ≤ edgesTo ns i ∧ edgesTo ns i ≤ (i : Int) * 5000
  | 0, _ => ⟨Int.le_refl _, Int.le_refl _⟩
  | i + 1, hi => by
    obtain ⟨h1, h2⟩ := edgesTo_le h hn i (by omega)
    have h3 := h i (by omega)
    have e : edgesTo ns (i + 1) = edgesTo ns i + ((nd ns i).kids.length : Int) := wrap_i (by omega) (by omega)
    rw [e]
    omega
theorem msL_wide {s : Scene} (hr : Right s) (hn : s.nodes.length ≤ 1000) (hk : ∀ i : Nat, i < s.nodes.length → (nd s.nodes i).kids.length ≤ 5000) (ht : (textSum s.nodes : Int) ≤ 16777216) : Lim.Le (msL s) wideL ∧ Lim.Le zeroL (msL s) := by
  obtain ⟨d0, d1⟩ := depthS_le hr
  obtain ⟨e0, e1⟩ := edgesTo_le hk hn s.nodes.length (Nat.le_refl _)
  have e2 : edgesW s.nodes = edgesTo s.nodes s.nodes.length := rfl
  refine ⟨⟨by show (0 : Int) ≤ 16777216; decide, by show (s.nodes.length : Int) ≤ 16777216; omega, by show edgesW s.nodes ≤ 16777216; omega, by show depthS s ≤ 16777216; omega, ht⟩, ⟨by show (0 : Int) ≤ 0; decide, by show (0 : Int) ≤ (s.nodes.length : Int); omega, by show (0 : Int) ≤ edgesW s.nodes; omega, d0, by show (0 : Int) ≤ (textSum s.nodes : Int); omega⟩⟩
theorem tx_texs {ns : List Node} (h : ∀ i : Nat, i < ns.length → TxOk (nd ns i)) : (∀ x ∈ texs ns, x.size ≤ 500) ∧ (texs ns).length ≤ ns.length * 100 := by
  refine ⟨fun x hx => ?_, texs_le ns (fun n hn => ?_)⟩
  · obtain ⟨p, hp, hm⟩ := mem_texs.1 hx
    exact (h p hp).2 x hm
  · obtain ⟨i, hi, rfl⟩ := mem_nd hn
    exact (h i hi).1
theorem tx_sum {ns : List Node} (h : ∀ i : Nat, i < ns.length → TxOk (nd ns i)) (hn : ns.length ≤ 60) : textSum ns ≤ 3000000 := by
  obtain ⟨h1, h2⟩ := tx_texs h
  have h3 := meas_le h1
  have h4 : (texs ns).length * 500 ≤ (60 * 100) * 500 := Nat.mul_le_mul_right 500 (Nat.le_trans h2 (Nat.mul_le_mul_right 100 hn))
  unfold textSum
  omega
end Go.Proofs.YtglfebpgdghlfaaDoor.L
end
section
namespace Go.Proofs.YtglfebpgdghlfaaDoor.L
open Go.RowKit Go.ChangeShapes Go.WideShapes Go.Proofs.YtglfebpgdghlfaaDoorW.PrintWords Go.Proofs.YtglfebpgdghlfaaDoorW.PrintLast Go.Proofs.YtglfebpgdghlfaaDoorW.PrintMore
attribute [local go_sem] max2_int min2_int max_two min_two max_three min_three max_four min_four
theorem great_node_tx {n : Node} (h : greatN n = false) : TxOk n := by
  have h3 := of_decide_eq_false h
  have h4 : ¬ 100 < n.texts.length := fun e => h3 (.inr (.inl e))
  have h5 : ¬ ∃ j, j < n.texts.length ∧ 500 < (str n.texts j).size := fun e => h3 (.inr (.inr (.inr e)))
  refine ⟨by omega, fun x hx => ?_⟩
  obtain ⟨j, hj, rfl⟩ := List.getElem_of_mem hx
  refine Classical.byContradiction fun hn => h5 ⟨j, hj, ?_⟩
  unfold str
  rw [List.getD_eq_getElem?_getD, List.getElem?_eq_getElem hj]
  show 500 < (n.texts[j]).size
  omega
theorem great_tx {a : Scene} {l : List Opn} (h1 : greatS a = false) (h2 : greatO l = false) : (∀ i : Nat, i < a.nodes.length → TxOk (nd a.nodes i)) ∧ ∀ o ∈ l, OpTx o := by
  refine ⟨fun i hi => ?_, fun o ho => ?_⟩
  · have h' := of_decide_eq_false h1
    exact great_node_tx (Bool.eq_false_iff.2 (fun e => h' (.inr (.inr ⟨i, hi, e⟩))))
  · obtain ⟨k, hk, rfl⟩ := List.getElem_of_mem ho
    have h' := of_decide_eq_false h2
    have h3 : ¬ greatOp (op l k) := fun e => h' (.inr ⟨k, hk, e⟩)
    rw [op_eq hk] at h3
    have g1 : greatN l[k].node = false := Bool.eq_false_iff.2 (fun e => h3 (.inl e))
    have g4 : ¬ setsBad l[k].sets := fun e => h3 (.inr (.inr (.inr e)))
    refine ⟨great_node_tx g1, fun x hx => ?_⟩
    obtain ⟨j, hj, rfl⟩ := List.getElem_of_mem hx
    refine Classical.byContradiction fun hn => g4 ⟨j, hj, ?_⟩
    rw [st_eq hj]
    omega
set_option maxRecDepth 100000 in
set_option maxHeartbeats 8000000 in
theorem rebuildValid_any (A : Option Addr) (c : Nat) (a : Scene) (Al : Option Addr) (cl : Nat) (l : List Opn) (w : World) (h : kNode.C w A a.nodes.length a.nodes) (hc : a.nodes.length ≤ c) (hl : kOpn.C w Al l.length l) (hlc : l.length ≤ cl) (hb : ∀ k : Nat, k < l.length → OpBd (op l k)) (hT : Tabs w) :
    Calls Tryd.prog 10 #[.agg #[.slice A a.nodes.length c, .int .i64 a.root], .slice Al l.length cl] w fun e w' => e = .returned (.bool true) ∧ Below w.heap.size w w' := by
  have HR := Aside0.mk h
  have HL := Aside0.mk hl
  have HT := Aside0.mk hT
  have HBd := Aside0.mk hb
  have HB := Aside0.mk (below_alloc (Below.refl w.heap.size w) (.cells #[.slice A a.nodes.length c, .int .i64 a.root] 39))
  have k0 := box_cell w _ rfl #[.slice A a.nodes.length c, .int .i64 a.root] 39 0 (.slice A a.nodes.length c) rfl
  have k1 := box_cell w _ rfl #[.slice A a.nodes.length c, .int .i64 a.root] 39 1 (.int .i64 a.root) rfl
  have hu := Tryd.underlying39
  clear h hl hT hb
  go_enter Tryd.func10, Tryd.ntmps10
  go_wp2_with fail
  refine (rawake_any _ (HT.out.below HB.out)).mono ?_
  rintro e w1 ⟨rfl, hB1⟩
  replace k0 := pw_cell_below hB1 k0
  replace k1 := pw_cell_below hB1 k1
  have HB1 := Aside0.mk (below_step HB.out hB1)
  clear hB1
  go_wp2_with fail
  refine (great23_any A c a Al cl l _ (Kd.C_below HR.out HB1.out) (Kd.C_below HL.out HB1.out)).mono ?_
  rintro e w2 ⟨rfl, hB2⟩
  replace k0 := pw_cell_below hB2 k0
  replace k1 := pw_cell_below hB2 k1
  have HB2 := Aside0.mk (below_step HB1.out hB2)
  clear hB2
  cases hg : (greatS a || greatO l) with
  | true =>
    clear hg
    go_wp2_with fail
    refine (rawake_any _ (HT.out.below HB2.out)).mono ?_
    rintro e w3 ⟨rfl, hB3⟩
    have HB3 := Aside0.mk (below_step HB2.out hB3)
    clear hB3 k0 k1
    go_wp2
    go_ret
    exact ⟨rfl, HB3.out⟩
  | false =>
    have hg' := Bool.or_eq_false_iff.1 hg
    have HG := Aside0.mk (greatS_small hg'.1)
    have HOk := Aside0.mk (greatS_okN hg'.1)
    have HOp := Aside0.mk (greatO_ok hg'.2 HBd.out).2
    have hn60 : l.length ≤ 60 := (greatO_ok hg'.2 HBd.out).1
    have ha60 : a.nodes.length ≤ 60 := HG.out.1
    have HMr := Aside0.mk (show rows a.nodes ≤ 130000 from by
      have h1 := rows_le HG.out.2.2.2
      have h2 : a.nodes.length * (300 + 1) ≤ 60 * 301 := Nat.mul_le_mul HG.out.1 (by omega)
      omega)
    have HTx := Aside0.mk (great_tx hg'.1 hg'.2)
    clear hg hg'
    go_wp2_with fail
    refine (rapp_any A c a Al cl l _ (Kd.C_below HR.out HB2.out) (Kd.C_below HL.out HB2.out) (HT.out.below HB2.out) (by omega) (by have := HMr.out; omega) HOk.out HOp.out hn60).mono ?_
    rintro e w3 ⟨A3, c3, rfl, hR3, hB3⟩
    have hA3 := below_alloc (Below.refl w3.heap.size w3) (.cells #[.slice A3 (applyR a l).1.nodes.length c3, .int .i64 (applyR a l).1.root] 39)
    have q0 := box_cell w3 _ rfl #[.slice A3 (applyR a l).1.nodes.length c3, .int .i64 (applyR a l).1.root] 39 0 (.slice A3 (applyR a l).1.nodes.length c3) rfl
    have q1 := box_cell w3 _ rfl #[.slice A3 (applyR a l).1.nodes.length c3, .int .i64 (applyR a l).1.root] 39 1 (.int .i64 (applyR a l).1.root) rfl
    have HB4 := Aside0.mk (below_step (below_step HB2.out hB3) hA3)
    have HC4 := Aside0.mk (Kd.C_below (Kd.R_reads' hR3).2.2 hA3)
    clear hR3 hB3 hA3 k0 k1
    by_cases hz : ¬ (applyR a l).2.1 = 0
    · have hno := applyR_no hz
      have dz : ((applyR a l).2.1 != 0) = true := by simpa using hz
      rw [hno] at q0 HB4 q1
      clear hz HC4
      generalize applyR a l = r at hno dz HB4 q0 q1 ⊢
      obtain ⟨⟨ns, root⟩, er, at_⟩ := r
      have hno' : ns = [] := hno
      subst hno'
      clear hno
      go_wp2
      go_ret
      exact ⟨rfl, HB4.out⟩
    replace hz := Classical.byContradiction hz
    have HY := Aside0.mk (applyR_yes HOk.out (op_all HOp.out) hz)
    have HTy := Aside0.mk (applyR_tx HTx.out.1 HTx.out.2)
    generalize applyR a l = r at hz HY HTy HB4 HC4 q0 q1 ⊢
    obtain ⟨t, er, at_⟩ := r
    have hz' : er = 0 := hz
    subst hz'
    clear hz
    have hlen : t.nodes.length = l.length := HY.out.2.1
    have HRt := Aside0.mk (show Right t from HY.out.2.2.2.1)
    have HOkt := Aside0.mk (show ∀ k : Nat, k < t.nodes.length → OkN 5000 (nd t.nodes k) from HY.out.1)
    have HXt := Aside0.mk (show ∀ k : Nat, k < t.nodes.length → TxOk (nd t.nodes k) from HTy.out)
    have HWd := Aside0.mk (msL_wide HRt.out (by omega) (fun i hi => (HOkt.out i hi).2.2.1) (by have := tx_sum HXt.out (by omega); omega))
    have HRw := Aside0.mk (rows_ok HOkt.out (by omega))
    have HXs := Aside0.mk (show ∀ x ∈ texs t.nodes, x.size ≤ 1000000 from fun x hx => Nat.le_trans ((tx_texs HXt.out).1 x hx) (by omega))
    have HXl := Aside0.mk (show (texs t.nodes).length ≤ 1000000000 from Nat.le_trans (tx_texs HXt.out).2 (by omega))
    have HMs := Aside0.mk (show (.agg #[.int .i64 0, .int .i64 (t.nodes.length : Int), .int .i64 (edgesW t.nodes), .int .i64 (depthS t), .int .i64 (textSum t.nodes : Int)] : Value) = .agg (limV (msL t)) from rfl)
    have HLen := Aside0.mk hlen
    clear hlen
    have HC5 := Aside0.mk (show kNode.C (w3.alloc (.cells #[.slice A3 t.nodes.length c3, .int .i64 t.root] 39)) A3 t.nodes.length t.nodes from HC4.out)
    have HB5 := Aside0.mk (show Below w.heap.size w (w3.alloc (.cells #[.slice A3 t.nodes.length c3, .int .i64 t.root] 39)) from HB4.out)
    clear HC4 HB4
    go_wp2
    go_region_held3 (fun W => W.cell? ⟨w3.heap.size, 0, none⟩ = some (.slice A3 t.nodes.length c3) ∧ W.cell? ⟨w3.heap.size, 1, none⟩ = some (.int .i64 t.root))
      (first
        | (go_split_ands
           (repeat' apply And.intro)
           all_goals first
             | with_reducible assumption
             | with_reducible exact pw_cell_below hB (by assumption)
             | (simp [*]; done)))
      (first
        | (go_at_call 26; refine (measure_any A3 c3 t _ (Kd.C_drew HC5.out) HRw.out HXs.out HXl.out).mono ?_; rintro e w6 ⟨rfl, hB⟩; rw [HMs.out]; have HB6 := Aside0.mk (below_step (below_drew HB5.out) hB); have HC6 := Aside0.mk (Kd.C_below (Kd.C_drew HC5.out) hB))
        | (go_at_call 34; refine (valid_ok A3 c3 t _ HC6.out (HT.out.below HB6.out) (fun i hi => (HOkt.out i hi).texts) HRw.out HXs.out HXl.out HY.out.2.2.1 HRt.out HWd.out.1 HWd.out.2).mono ?_; rintro e w7 ⟨rfl, hB⟩; have HB7 := Aside0.mk (below_step HB6.out hB); have HC7 := Aside0.mk (Kd.C_below HC6.out hB)))
    all_goals
      clear q0 q1
      go_split_ands
      go_wp2_with fail
      refine (is_any A3 c3 t _ HC7.out HRw.out).mono ?_
      rintro e w8 ⟨rfl, hB8⟩
      rw [HY.out.2.2.2.2]
      have p0 : w8.cell? ⟨w3.heap.size, 0, none⟩ = some (.slice A3 t.nodes.length c3) := pw_cell_below hB8 (by assumption)
      have HB8 := Aside0.mk (below_step HB7.out hB8)
      clear hB8
      rw [HLen.out] at p0
      go_wp2
      go_ret
      exact ⟨ret_bool (by simp), HB8.out⟩
end Go.Proofs.YtglfebpgdghlfaaDoor.L
end
section
namespace Go.Proofs.YtglfebpgdghlfaaDoor.L
open Go.RowKit Go.ChangeShapes Go.WideShapes Go.Proofs.YtglfebpgdghlfaaDoorW.PrintWords Go.Proofs.YtglfebpgdghlfaaDoorW.PrintLast Go.Proofs.YtglfebpgdghlfaaDoorW.PrintMore
attribute [local go_sem] max2_int min2_int max_two min_two max_three min_three max_four min_four
section
variable {P : Program} {α β : Type}
def Opens (P : Program) (k : Kd α) (t : TypeId) (good : α → Prop) : Prop :=
  ∀ (H : Type) (enc : TypeId × Value → H) (w : World) (base : Nat) (spare : Nat → Bool) (held : Bool) (fuel : Nat) (cs : List Value) (x : DataW H × List MemPlace), DataW.trod enc P w base spare held fuel t cs = some x → ∃ v, k.K w v cs ∧ good v
theorem opens_int {t : TypeId} {k : IntKind} (ht : P.underlying t = some (.int k)) : Opens P (Kd.int k) t (fun n => (Lit.int k n).wf = true) := by
  intro H enc w base spare held fuel cs x h
  obtain ⟨n, rfl, _, hw⟩ := DataW.trod_int ht h
  exact ⟨n, rfl, hw⟩
theorem opens_bool {t : TypeId} (ht : P.underlying t = some .bool) : Opens P Kd.bool t (fun _ => True) := by
  intro H enc w base spare held fuel cs x h
  obtain ⟨b, rfl, _⟩ := DataW.trod_bool ht h
  exact ⟨b, rfl, trivial⟩
theorem opens_string {t : TypeId} (ht : P.underlying t = some .string) : Opens P Kd.string t (fun s => s.size ≤ maxLen) := by
  intro H enc w base spare held fuel cs x h
  obtain ⟨s, rfl, _, hs⟩ := DataW.trod_string ht h
  exact ⟨s, rfl, hs⟩
theorem list_of {R : Nat → α → Prop} : ∀ n, (∀ i, i < n → ∃ p, R i p) → ∃ xs : List α, xs.length = n ∧ ∀ j p, xs[j]? = some p → R j p := by
  intro n
  induction n with
  | zero => intro _; exact ⟨[], rfl, fun j p h => by simp at h⟩
  | succ n ih =>
    intro h
    obtain ⟨xs, hl, hx⟩ := ih (fun i hi => h i (by omega))
    obtain ⟨p, hp⟩ := h n (by omega)
    refine ⟨xs ++ [p], by simp [hl], fun j q hq => ?_⟩
    rw [List.getElem?_append] at hq
    split at hq
    · exact hx j q hq
    · have hj : j = n := by
        have := (List.getElem?_eq_some_iff.1 hq).1
        simp at this
        omega
      subst hj
      rw [hl, Nat.sub_self] at hq
      simp at hq
      subst hq
      exact hp
theorem opens_slice {d : Kd α} {t e e' : TypeId} {good : α → Prop} (ht : P.underlying t = some (.slice e)) (hc : P.cellsOf e = d.sz) (hd : Opens P d e good) : Opens P (Kd.slice e' d) t (fun xs => xs.length ≤ maxLen ∧ ∀ x ∈ xs, good x) := by
  intro H enc w base spare held fuel cs x h
  rcases Deep.open_slice ht h with ⟨rfl, _⟩ | ⟨a, len, cap, m, n, D, Pl, rfl, _, hl, hm, hmm, _, hx⟩
  · exact ⟨[], ⟨none, 0, rfl, Nat.le_refl _, rfl, by simp, fun h => by simp at h⟩, by simp, by simp⟩
  · have hlm : len ≤ m := by rw [hmm]; split <;> omega
    rw [hc] at hx
    obtain ⟨xs, hxl, hxs⟩ := list_of (R := fun i p => (∃ c, c.length = d.sz ∧ d.K w p c ∧ ∀ j u, c[j]? = some u → w.cell? (a.add (i * d.sz + j)) = some u) ∧ good p) len (fun i hi => by
      obtain ⟨cs', h1, h2⟩ := hx i (by omega)
      obtain ⟨_, hcl, hat⟩ := World.cells?_some h1
      obtain ⟨p, hK, hg⟩ := hd H enc w base spare held n cs' _ h2
      refine ⟨p, ⟨cs', hcl, hK, fun j u hu => ?_⟩, hg⟩
      have hj : j < d.sz := by rw [← hcl]; exact (List.getElem?_eq_some_iff.1 hu).1
      rw [← Deep.add_add, hat j hj, hu])
    subst hxl
    refine ⟨xs, ⟨some a, cap, rfl, hl, rfl, by unfold maxLen at hm; omega, fun _ => ⟨a, rfl, fun j p hp => (hxs j p hp).1⟩⟩, by omega, fun x hx => ?_⟩
    obtain ⟨j, hj⟩ := List.getElem?_of_mem hx
    exact (hxs j x hj).2
def OpensL (P : Program) (k : Kd α) (fs : List Field) (off : Nat) (good : α → Prop) : Prop :=
  ∀ (H : Type) (enc : TypeId × Value → H) (w : World) (base : Nat) (spare : Nat → Bool) (held : Bool) (n : Nat) (cs : List Value), cs.length = k.sz → (∀ f ∈ fs, ∃ x, DataW.trod enc P w base spare held n f.type ((cs.drop (f.offset - off)).take (P.cellsOf f.type)) = some x) → ∃ v, k.K w v cs ∧ good v
theorem opensL_one {k : Kd α} {f : Field} {off : Nat} {good : α → Prop} (ho : f.offset = off) (hc : P.cellsOf f.type = k.sz) (h : Opens P k f.type good) : OpensL P k [f] off good := by
  intro H enc w base spare held n cs hl hf
  obtain ⟨x, hx⟩ := hf f (by simp)
  rw [ho, Nat.sub_self, List.drop_zero, hc, ← hl, List.take_length] at hx
  exact h H enc w base spare held n cs x hx
theorem opensL_cons {a : Kd α} {b : Kd β} {f : Field} {fs : List Field} {off : Nat} {ga : α → Prop} {gb : β → Prop} (ho : f.offset = off) (hc : P.cellsOf f.type = a.sz) (h : Opens P a f.type ga) (hoff : ∀ g ∈ fs, off + a.sz ≤ g.offset) (hs : OpensL P b fs (off + a.sz) gb) :
    OpensL P (Kd.pair a b) (f :: fs) off (fun x => ga x.1 ∧ gb x.2) := by
  intro H enc w base spare held n cs hl hf
  have hl' : cs.length = a.sz + b.sz := hl
  obtain ⟨x, hx⟩ := hf f (by simp)
  rw [ho, Nat.sub_self, List.drop_zero, hc] at hx
  obtain ⟨v, hv, hg⟩ := h H enc w base spare held n _ x hx
  obtain ⟨u, hu, hg'⟩ := hs H enc w base spare held n (cs.drop a.sz) (by rw [List.length_drop]; omega) (fun g hg => by
    obtain ⟨y, hy⟩ := hf g (by simp [hg])
    have := hoff g hg
    refine ⟨y, ?_⟩
    rw [List.drop_drop, show a.sz + (g.offset - (off + a.sz)) = g.offset - off from by omega]
    exact hy)
  exact ⟨(v, u), ⟨_, _, (List.take_append_drop a.sz cs).symm, hv, hu⟩, hg, hg'⟩
theorem opens_struct {k : Kd α} {t : TypeId} {fs : Array Field} {good : α → Prop} (ht : P.underlying t = some (.struct fs)) (hc : P.cellsOf t = k.sz) (h : OpensL P k fs.toList 0 good) : Opens P k t good := by
  intro H enc w base spare held fuel cs x hx
  obtain ⟨xs, n, _, _, hl, hxl, hf⟩ := DataW.trod_struct ht hx
  refine h H enc w base spare held n cs (hl.trans hc) (fun f hfm => ?_)
  obtain ⟨i, hi⟩ := List.getElem?_of_mem hfm
  have hi' : fs[i]? = some f := by simpa using hi
  have hil : i < xs.length := by rw [hxl]; exact (Array.getElem?_eq_some_iff.1 hi').1
  exact ⟨xs[i]'hil, by rw [Nat.sub_zero, hf i f hi', List.getElem?_eq_getElem hil]⟩
theorem opens_iso {d : Kd α} {f : β → α} {t : TypeId} {good : α → Prop} (hf : ∀ v, ∃ x, f x = v) (h : Opens P d t good) : Opens P (Kd.iso d f) t (fun x => good (f x)) := by
  intro H enc w base spare held fuel cs x hx
  obtain ⟨v, hv, hg⟩ := h H enc w base spare held fuel cs x hx
  obtain ⟨y, rfl⟩ := hf v
  exact ⟨y, hv, hg⟩
theorem Opens.arg_slice {d : Kd α} {H : Type} {enc : TypeId × Value → H} {W : World} {b0 base : Nat} {r : Reach} {spare : Nat → Bool} {held : Bool} {t e e' : TypeId} {good : List α → Prop} {v : Value} {q : DataW H} {p : List MemPlace} (hs : P.underlying t = some (.slice e)) (ho : Opens P (Kd.slice e' d) t good)
    (hv : Value.okWide P W r b0 t v) (h : DataW.Trod enc P W base spare held t v q p) : ∃ A l c, v = .slice A (l : List α).length c ∧ l.length ≤ c ∧ d.C W A l.length l ∧ good l := by
  obtain ⟨a0, len0, cap0, rfl⟩ := okWide_slice hs hv
  obtain ⟨fuel, hf⟩ := h
  obtain ⟨l, ⟨A, c, e, hl, hC⟩, hg⟩ := ho H enc W base spare held fuel _ _ hf
  have e : Value.slice a0 len0 cap0 = .slice A l.length c := by simpa [Value.cells] using e
  exact ⟨A, l, c, e, hl, hC, hg⟩
theorem Opens.arg_struct {k : Kd α} {H : Type} {enc : TypeId × Value → H} {W : World} {b0 base : Nat} {r : Reach} {spare : Nat → Bool} {held : Bool} {t : TypeId} {fs : Array Field} {good : α → Prop} {v : Value} {q : DataW H} {p : List MemPlace} (hs : P.underlying t = some (.struct fs)) (ho : Opens P k t good)
    (hv : Value.okWide P W r b0 t v) (h : DataW.Trod enc P W base spare held t v q p) : ∃ x cs, v = .agg cs ∧ k.K W x cs.toList ∧ good x := by
  obtain ⟨cs, rfl, _⟩ := okWide_struct hs hv
  obtain ⟨fuel, hf⟩ := h
  obtain ⟨x, hK, hg⟩ := ho H enc W base spare held fuel _ _ hf
  exact ⟨x, cs, rfl, by simpa [Value.cells] using hK, hg⟩
end
end Go.Proofs.YtglfebpgdghlfaaDoor.L
end
section
namespace Go.Proofs.YtglfebpgdghlfaaDoor.L
open Go.RowKit Go.ChangeShapes Go.WideShapes Go.Proofs.YtglfebpgdghlfaaDoorW.PrintWords Go.Proofs.YtglfebpgdghlfaaDoorW.PrintLast Go.Proofs.YtglfebpgdghlfaaDoorW.PrintMore
attribute [local go_sem] max2_int min2_int max_two min_two max_three min_three max_four min_four
open Go.ChangeShapes Go.WideShapes Go.ChangeAt Go.RowKit
theorem own : ownKnob Tryd.prog.godebug = none := by kernel_rfl
theorem laidOut : laidOutB Tryd.prog = true := by kernel_rfl
def rowLaid : List (String × DataW Unit) := [("unicode/utf8.acceptRanges", Rows.laid_unicode_utf8_acceptRanges), ("unicode/utf8.first", Rows.laid_unicode_utf8_first)]
theorem firstD : Go.Pinned.utf8First = Lib.firstData := by kernel_rfl
theorem acceptD : (Rows.laid_unicode_utf8_acceptRanges : DataW Unit) = Lib.acceptData := by kernel_rfl
theorem tabs_of_laid {W : World} (h : laidMetH Tryd.prog rowLaid W) : Tabs W := by
  rw [MakeChecks.laidMetH_plain _ _ _ (by kernel_rfl)] at h
  exact utf8Tabs_of_reads Tryd.lays260 ⟨by kernel_rfl, by kernel_rfl, by kernel_rfl, by kernel_rfl, by kernel_rfl, by kernel_rfl, by kernel_rfl⟩
    (firstD ▸ Lib.laidMet.reads h (show ("unicode/utf8.first", Go.Pinned.utf8First) ∈ rowLaid from .tail _ (.head _)))
    (acceptD ▸ Lib.laidMet.reads h (show ("unicode/utf8.acceptRanges", Rows.laid_unicode_utf8_acceptRanges) ∈ rowLaid from .head _))
theorem laid_met (os : Os) (args : Array Value) : laidMetH Tryd.prog rowLaid ((World.laidAll Tryd.prog os rowLaid).forCall (fun _ _ => 0) ⟨#[], args, []⟩).memory := by
  rw [MakeChecks.laidMetH_plain _ _ _ (by kernel_rfl)]
  exact laidMet_laidAll _ (by kernel_rfl) (by kernel_rfl)
theorem opensL_any {P : Program} {α : Type} {k : Kd α} {fs : List Field} {off : Nat} {good : α → Prop} (h : OpensL P k fs off good) : OpensL P k fs off (fun _ => True) := by
  intro H enc w base spare held n cs hl hf
  obtain ⟨v, hv, _⟩ := h H enc w base spare held n cs hl hf
  exact ⟨v, hv, trivial⟩
theorem opens_node : Opens Tryd.prog kNode 26 (fun _ => True) := by
  unfold kNode
  refine opens_iso (good := fun _ => True) (fun v => ⟨⟨v.1, v.2.1, v.2.2.1, v.2.2.2⟩, rfl⟩) (opens_struct (good := fun _ => True) Tryd.underlying26 (by kernel_rfl) ?_)
  exact opensL_any (opensL_cons rfl (by kernel_rfl) (opens_int Tryd.underlying3) (by decide)
    (opensL_cons rfl (by kernel_rfl) (opens_slice Tryd.underlying22 (by kernel_rfl) (opens_int Tryd.underlying2)) (by decide)
    (opensL_cons rfl (by kernel_rfl) (opens_slice Tryd.underlying23 (by kernel_rfl) (opens_string Tryd.underlying9)) (by decide)
    (opensL_one rfl (by kernel_rfl) (opens_slice Tryd.underlying24 (by kernel_rfl) (opens_int Tryd.underlying3))))))
def kScene : Kd Scene := Kd.iso (Kd.pair (Kd.slice 26 kNode) (Kd.int .i64)) (fun x : Scene => (x.nodes, x.root))
theorem opens_scene : Opens Tryd.prog kScene 39 (fun _ => True) := by
  unfold kScene
  refine opens_iso (good := fun _ => True) (fun v => ⟨⟨v.1, v.2⟩, rfl⟩) (opens_struct (good := fun _ => True) Tryd.underlying39 (by kernel_rfl) ?_)
  exact opensL_any (opensL_cons rfl (by kernel_rfl) (opens_slice Tryd.underlying30 (by kernel_rfl) opens_node) (by decide)
    (opensL_one rfl (by kernel_rfl) (opens_int Tryd.underlying3)))
theorem kScene_open {w : World} {x : Scene} {cs : List Value} (h : kScene.K w x cs) : ∃ A c, cs = [.slice A x.nodes.length c, .int .i64 x.root] ∧ x.nodes.length ≤ c ∧ kNode.C w A x.nodes.length x.nodes := by
  obtain ⟨_, _, rfl, ⟨A, c, rfl, l, h⟩, rfl⟩ := h
  exact ⟨A, c, rfl, l, h⟩
end Go.Proofs.YtglfebpgdghlfaaDoor.L
end
section
namespace Go.Proofs.YtglfebpgdghlfaaDoor.L
open Go.RowKit Go.ChangeShapes Go.WideShapes Go.Proofs.YtglfebpgdghlfaaDoorW.PrintWords Go.Proofs.YtglfebpgdghlfaaDoorW.PrintLast Go.Proofs.YtglfebpgdghlfaaDoorW.PrintMore
attribute [local go_sem] max2_int min2_int max_two min_two max_three min_three max_four min_four
theorem opensL_imp {P : Program} {α : Type} {k : Kd α} {fs : List Field} {off : Nat} {good good' : α → Prop} (h : OpensL P k fs off good) (hi : ∀ v, good v → good' v) : OpensL P k fs off good' := by
  intro H enc w base spare held n cs hl hf
  obtain ⟨v, hv, hg⟩ := h H enc w base spare held n cs hl hf
  exact ⟨v, hv, hi v hg⟩
theorem opens_set : Opens Tryd.prog kSet 84 (fun _ => True) := by
  unfold kSet
  refine opens_iso (good := fun _ => True) (fun v => ⟨⟨v.1, v.2.1, v.2.2.1, v.2.2.2⟩, rfl⟩) (opens_struct (good := fun _ => True) Tryd.underlying84 (by kernel_rfl) ?_)
  exact opensL_any (opensL_cons rfl (by kernel_rfl) (opens_bool Tryd.underlying4) (by decide)
    (opensL_cons rfl (by kernel_rfl) (opens_int Tryd.underlying3) (by decide)
    (opensL_cons rfl (by kernel_rfl) (opens_int Tryd.underlying2) (by decide)
    (opensL_one rfl (by kernel_rfl) (opens_string Tryd.underlying9)))))
theorem opens_ed : Opens Tryd.prog kEd 128 (fun _ => True) := by
  unfold kEd
  refine opens_iso (good := fun _ => True) (fun v => ⟨⟨v.1, v.2⟩, rfl⟩) (opens_struct (good := fun _ => True) Tryd.underlying128 (by kernel_rfl) ?_)
  exact opensL_any (opensL_cons rfl (by kernel_rfl) (opens_int Tryd.underlying3) (by decide)
    (opensL_one rfl (by kernel_rfl) (opens_int Tryd.underlying3)))
theorem opens_op : Opens Tryd.prog kOpn 61 OpBd := by
  unfold kOpn
  refine opens_iso (good := fun x : Int × Int × List SetV × List Ed × Node => OpBd ⟨x.1, x.2.1, x.2.2.1, x.2.2.2.1, x.2.2.2.2⟩) (fun v => ⟨⟨v.1, v.2.1, v.2.2.1, v.2.2.2.1, v.2.2.2.2⟩, rfl⟩) (opens_struct Tryd.underlying61 (by kernel_rfl) ?_)
  refine opensL_imp (opensL_cons rfl (by kernel_rfl) (opens_int Tryd.underlying3) (by decide)
    (opensL_cons rfl (by kernel_rfl) (opens_int Tryd.underlying3) (by decide)
    (opensL_cons rfl (by kernel_rfl) (opens_slice Tryd.underlying58 (by kernel_rfl) opens_set) (by decide)
    (opensL_cons rfl (by kernel_rfl) (opens_slice Tryd.underlying59 (by kernel_rfl) opens_ed) (by decide)
    (opensL_one rfl (by kernel_rfl) opens_node))))) ?_
  rintro ⟨k, b, s, e, n⟩ ⟨h1, h2, _⟩
  have g1 := wf_i64 h1
  have g2 := wf_i64 h2
  exact ⟨g1.1, g1.2, g2.1, g2.2⟩
end Go.Proofs.YtglfebpgdghlfaaDoor.L
end
section
namespace Go.Proofs.YtglfebpgdghlfaaDoor.L
open Go.RowKit Go.ChangeShapes Go.WideShapes Go.Proofs.YtglfebpgdghlfaaDoorW.PrintWords Go.Proofs.YtglfebpgdghlfaaDoorW.PrintLast Go.Proofs.YtglfebpgdghlfaaDoorW.PrintMore
attribute [local go_sem] max2_int min2_int max_two min_two max_three min_three max_four min_four
namespace rebuildValid
open Go.ChangeShapes Go.WideShapes Go.ChangeAt Go.RowKit
set_option maxRecDepth 100000 in
theorem lifted (os : Os) (started : os.Started) (H : Type) (enc : TypeId × Value → H) :
    ReturnsInHanded {} Tryd.checked os 10 .any (fun w args => (Rows.rebuildValidSpec.pre enc Tryd.prog Tryd.f10 [] false w args ∧ laidMetH Tryd.prog rowLaid w) ∧ sizedMet enc Tryd.prog Tryd.f10 (OpenSpec.ofChange Rows.rebuildValidSpec) false w args)
      (Rows.rebuildValidSpec.post enc Tryd.prog Tryd.f10 false true false false) := by
  refine returnsInHanded_of_change_and (C := Tryd.checked) (X := fun w _ => laidMetH Tryd.prog rowLaid w) (fun _ _ _ hh h => h.of_heap hh) own started (by kernel_rfl) Tryd.func10
    (ChangeSpec.witness_shaped (enc := enc) (C := Tryd.checked) (os := os) (X := fun w _ => laidMetH Tryd.prog rowLaid w) false (World.laidAll Tryd.prog os rowLaid) #[.agg #[.slice none 0 0, .int .i64 0], .slice none 0 0] 8 (World.laidAll_os _ _ _)
      (World.shaped_of_ZipB (by kernel_rfl) (by kernel_rfl)) (by kernel_rfl) (by kernel_rfl) (by kernel_rfl) (laid_met os _)) ?_
  intro W base args ds gs before hval0 hW hc _ hL _
  have hval : ∀ (j : Nat) t v, (Tryd.f10).params[j]? = some t → args[j]? = some v → Value.okWide Tryd.prog W .any base t v := hval0
  have hW' := hW
  obtain ⟨p, q, hA0, hV, rfl, hfz, hnd⟩ := hW
  have hA : DataW.TrodAll enc Tryd.prog W 0 (fun _ => true) true (Tryd.f10).params.toList args.toList ds p := hA0
  rw [Tryd.params10] at hA hval
  obtain ⟨v0, vs0, d0, ds0, p0, q0, hargs, rfl, rfl, h0, r0⟩ := trodAll_cons hA
  obtain ⟨v1, vs1, d1, ds1, p1, q1, rfl, rfl, rfl, h1, r1⟩ := trodAll_cons r0
  obtain ⟨rfl, rfl, rfl⟩ := trodAll_nil r1
  obtain rfl : args = #[v0, v1] := by cases args; simp_all
  obtain ⟨rfl, rfl⟩ := trodVars_none hV
  have lt0 : ∀ x ∈ p0, x.block < W.heap.size := by obtain ⟨m, hm⟩ := h0; exact DataW.trod_lt m _ _ _ hm
  have lt1 : ∀ x ∈ p1, x.block < W.heap.size := by obtain ⟨m, hm⟩ := h1; exact DataW.trod_lt m _ _ _ hm
  obtain ⟨s0, cs0, rfl, hK0, _⟩ := Opens.arg_struct Tryd.underlying39 opens_scene (hval 0 39 v0 rfl rfl) h0
  obtain ⟨A0, c0, hcs0, hlc0, hC0⟩ := kScene_open hK0
  obtain rfl : cs0 = #[.slice A0 s0.nodes.length c0, .int .i64 s0.root] := by cases cs0; simp_all
  obtain ⟨A1, l1, c1, rfl, hlc1, hC1, hg1⟩ := Opens.arg_slice Tryd.underlying52 (opens_slice (e' := 61) Tryd.underlying52 (by kernel_rfl) opens_op) (hval 1 52 v1 rfl rfl) h1
  clear hA0 hval0
  refine (rebuildValid_any A0 c0 s0 A1 c1 l1 W hC0 hlc0 hC1 hlc1 (fun k hk => hg1.2 _ (by rw [op_eq hk]; exact List.getElem_mem hk)) (tabs_of_laid hL)).mono fun e W' ⟨he, bel⟩ => ?_
  subst he
  exact ⟨_, rfl, _, _, _, [], _, [], hW', trodAll_mk1 (shut_bool Tryd.underlying4 _), (trodAll_cons_mk (Below.trod laidOut (by kernel_rfl) (of_decide_eq_true (by kernel_rfl)) h0 bel lt0) (trodAll_cons_mk (Below.trod laidOut (by kernel_rfl) (of_decide_eq_true (by kernel_rfl)) h1 bel lt1) trodAll_mk0)), rfl, bel.frame _, fun h => by cases h⟩
theorem over : Rows.RebuildValidSaid :=
  OpenClaim.holds_of_wide 10 Tryd.f10 rfl rfl rfl rfl rfl rfl rfl ⟨rfl, rfl, rfl, rfl, rfl⟩ rfl rfl rfl rfl rfl (by kernel_rfl) Tryd.func10 (by kernel_rfl)
    (of_decide_eq_true (by kernel_rfl)) (by unfold Func.isWrapper; first | (rw [if_pos (by decide +kernel)]; kernel_rfl) | (rw [if_neg (by decide +kernel)]; exact ⟨rfl, rfl⟩))
    (fun os started H enc _ => lifted os started H enc)
theorem card_holds : Rows.RebuildValidCardSaid :=
  Claim7.holds_tied_plain_at .later [] [.data, .pinned] true (true, "d9096c8d86ec02858f6829e4145980d481af2c3bac41f782ac1e7c2d8c679a29") false over (fun _ h => by cases h) (by kernel_rfl) (fun _ h => by cases h) rebuildValid_row_tie rfl ⟨rfl, rfl⟩ (by kernel_rfl) rfl
    (fun f fn hf hfn => by
      obtain rfl : f = 10 := Option.some.inj ((show Tryd.prog.funcNamed "diorama/dioramalaw23.RebuildValid" = some 10 by kernel_rfl).symm.trans hf) |>.symm
      obtain rfl : fn = Tryd.f10 := (Option.some.inj ((Tryd.func10).symm.trans hfn)).symm
      exact ⟨by kernel_rfl, fun j t ht => by
        rw [Tryd.params10] at ht
        have hm : t ∈ [39, 52] := by simpa using Array.mem_of_getElem? ht
        have hall : ([39, 52].all fun u => !Tryd.prog.wantsStandIn u) = true := by kernel_rfl
        exact (show Tryd.prog.wantsStandIn t = false by simpa using List.all_eq_true.1 hall t hm)⟩)
    (by kernel_rfl)
#print axioms card_holds
end rebuildValid
end Go.Proofs.YtglfebpgdghlfaaDoor.L
end
