/- Part 7 of the texts that YtdfneldenipljaaDoorRowCP rests on, joined by a program: what its functions come to. Conditions: those that each theorem states. -/
import Derived.Test.YtdfneldenipljaaDoorQcf
import Derived.StringKeys
set_option linter.unusedVariables false
set_option linter.unusedSimpArgs false
section
namespace Go.Proofs.YtdfneldenipljaaDoor.L
open Go.RowKit Go.ChangeShapes Go.WideShapes Go.Proofs.YtdfneldenipljaaDoorW.PrintWords Go.Proofs.YtdfneldenipljaaDoorW.PrintLast Go.Proofs.YtdfneldenipljaaDoorW.PrintMore
attribute [local go_sem] max2_int min2_int max_two min_two max_three min_three max_four min_four
theorem numd_uniq {T : Lib.PrintTabs} {vs : List (List UInt8)} {ns : List Node} {p q : List Int} (hA : AheadN ns) (hp : Numd T vs ns p) (hq : Numd T vs ns q) : p = q := by
  refine List.ext_getElem (by rw [hp.len, hq.len]) fun i h1 h2 => ?_
  have hi : i < ns.length := by rw [← hp.len]; exact h1
  have := (alk_num hA hA hp hq i i hi hi).1 ((alk_num hA hA hp hp i i hi hi).2 rfl)
  rwa [rd_eq h1, rd_eq h2] at this
theorem all_snoc (T : Lib.PrintTabs) (l : List Scene) (s : Scene) : allS T (l ++ [s]) = ((ownS T (allS T l).1 s.nodes).1, (allS T l).2 ++ [(ownS T (allS T l).1 s.nodes).2]) := by
  unfold allS
  rw [List.foldl_append]; rfl
end Go.Proofs.YtdfneldenipljaaDoor.L
end
section
namespace Go.Proofs.YtdfneldenipljaaDoor.L
open Go.RowKit Go.ChangeShapes Go.WideShapes Go.Proofs.YtdfneldenipljaaDoorW.PrintWords Go.Proofs.YtdfneldenipljaaDoorW.PrintLast Go.Proofs.YtdfneldenipljaaDoorW.PrintMore
attribute [local go_sem] max2_int min2_int max_two min_two max_three min_three max_four min_four
def mapTake (f : Int → Int) (l : List Int) (j : Nat) : List Int := (l.take j).map f ++ l.drop j
theorem mapTake_len (f : Int → Int) (l : List Int) (j : Nat) : (mapTake f l j).length = l.length := by unfold mapTake; rw [List.length_append, List.length_map, List.length_take, List.length_drop]; omega
theorem mapTake_zero (f : Int → Int) (l : List Int) : mapTake f l 0 = l := by unfold mapTake; simp
theorem mapTake_all (f : Int → Int) (l : List Int) : mapTake f l l.length = l.map f := by unfold mapTake; simp
theorem mapTake_rd (f : Int → Int) (l : List Int) (j : Nat) (h : j < l.length) : rd (mapTake f l j) (j : Int) = rd l (j : Int) := by
  rw [rd_eq (by rw [mapTake_len]; exact h), rd_eq h]
  unfold mapTake
  rw [List.getElem_append_right (by simp; omega)]
  simp [List.length_take, Nat.min_eq_left (Nat.le_of_lt h)]
theorem mapTake_set (f : Int → Int) (l : List Int) (j : Nat) (h : j < l.length) : (mapTake f l j).set j (f (rd l (j : Int))) = mapTake f l (j + 1) := by
  unfold mapTake
  rw [List.set_append_right _ _ (by simp; omega)]
  rw [List.length_map, List.length_take, Nat.min_eq_left (Nat.le_of_lt h), Nat.sub_self, drop_rd h]
  rw [take_succ_rd h, List.map_append]
  simp
structure KidRel (f : Int → Int) (n : Node) (v1 v2 v3 : Value) (j : Nat) (W0 W : World) : Prop where
  below : Below W0.heap.size W0 W
  box : W.heap[W0.heap.size]? = some (.cells #[.int .i64 n.kind, v1, v2, v3] 52 (0, 0))
  r1 : (Kd.int .i64).R 2 W W0.heap.size (fun _ => True) v1 n.ints
  r2 : Kd.string.R 9 W W0.heap.size (fun _ => True) v2 n.texts
  r3 : (Kd.int .i64).R 3 W W0.heap.size (fun _ => True) v3 (mapTake f n.kids j)
theorem KidRel.drew {f : Int → Int} {n : Node} {v1 v2 v3 : Value} {j : Nat} {W0 W : World} (h : KidRel f n v1 v2 v3 j W0 W) : KidRel f n v1 v2 v3 j W0 W.drew :=
  ⟨pw_below_drewN h.below 1, h.box, Kd.R_drew h.r1, Kd.R_drew h.r2, Kd.R_drew h.r3⟩
theorem KidRel.start {f : Int → Int} {n : Node} {W0 W1 : World} {u0 u1 u2 u3 : Value} {v1 v2 v3 : Value} (hb : W1.heap[W0.heap.size]? = some (.cells #[u0, u1, u2, u3] 52 (0, 0))) (hB : Below W0.heap.size W0 W1) {B : Nat} (hBB : W0.heap.size < B)
    (hM : kNode.M W1 B (fun _ => True) n [.int .i64 n.kind, v1, v2, v3]) :
    KidRel f n v1 v2 v3 0 W0 ((((W1.setCell ⟨W0.heap.size, 0, none⟩ (.int .i64 n.kind)).setCell ⟨W0.heap.size, 1, none⟩ v1).setCell ⟨W0.heap.size, 2, none⟩ v2).setCell ⟨W0.heap.size, 3, none⟩ v3) := by
  obtain ⟨x1, x2, x3, e, h1, h2, h3⟩ := kNode_openM hM
  injection e with _ e
  injection e with e1 e
  injection e with e2 e
  injection e with e3 _
  subst e1 e2 e3
  refine ⟨below_set4 hB (Nat.le_refl _), box4 hb _ _ _ _, Kd.R_lower (R_old4 h1 hBB _ _ _ _) (Nat.le_of_lt hBB), Kd.R_lower (R_old4 h2 hBB _ _ _ _) (Nat.le_of_lt hBB), ?_⟩
  rw [mapTake_zero]
  exact Kd.R_lower (R_old4 h3 hBB _ _ _ _) (Nat.le_of_lt hBB)
theorem KidRel.set {f : Int → Int} {n : Node} {v1 v2 : Value} {g c m : Nat} {j : Nat} {W0 W : World} (h : KidRel f n v1 v2 (.slice (some ⟨g, 0, none⟩) m c) j W0 W) (hj : j < n.kids.length) :
    W.cell? ⟨g, j, none⟩ = some (.int .i64 (rd n.kids (j : Int))) ∧ W.frozen? ⟨g, j, none⟩ = false ∧ KidRel f n v1 v2 (.slice (some ⟨g, 0, none⟩) m c) (j + 1) W0 (W.setCell ⟨g, j, none⟩ (.int .i64 (f (rd n.kids (j : Int))))) := by
  have hm := (Kd.R_reads' h.r3).1
  rw [mapTake_len] at hm
  obtain ⟨c1, c2⟩ := ints_cell h.r3 j (by omega)
  obtain ⟨s1, s2, s3⟩ := ints_store h.r3 j (by omega) (f (rd n.kids (j : Int)))
  rw [mapTake_rd f _ _ hj] at c1
  rw [mapTake_set f _ _ hj] at s1
  obtain ⟨cells, hc⟩ := Kd.R_typed h.r3 g rfl
  refine ⟨c1, c2, below_set h.below s3, blk_grown h.box s2 (fun e => ?_), Kd.R_grown1 h.r1 rfl s2 (Kd.R_ne h.r1 hc (by decide)), Kd.R_grown1 h.r2 rfl s2 (Kd.R_ne h.r2 hc (by decide)), s1⟩
  injection e with e
  rw [← e, h.box] at hc
  cases hc
end Go.Proofs.YtdfneldenipljaaDoor.L
end
section
namespace Go.Proofs.YtdfneldenipljaaDoor.L
open Go.RowKit Go.ChangeShapes Go.WideShapes Go.Proofs.YtdfneldenipljaaDoorW.PrintWords Go.Proofs.YtdfneldenipljaaDoorW.PrintLast Go.Proofs.YtdfneldenipljaaDoorW.PrintMore
attribute [local go_sem] max2_int min2_int max_two min_two max_three min_three max_four min_four
structure Iso (ns ms : List Node) (f : Int → Int) : Prop where
  len : ns.length = ms.length
  pl : ∀ x, Pl ms x → Pl ns (f x)
  inj : ∀ x y, Pl ms x → Pl ms y → f x = f y → x = y
  nd : ∀ x, Pl ms x → nd ns (f x).toNat = ⟨(nd ms x.toNat).kind, (nd ms x.toNat).ints, (nd ms x.toNat).texts, (kids ms x).map f⟩
theorem Iso.kids {ns ms : List Node} {f : Int → Int} (h : Iso ns ms f) {x : Int} (hx : Pl ms x) : L.kids ns (f x) = (L.kids ms x).map f := by
  show (L.nd ns (f x).toNat).kids = _
  rw [h.nd x hx]
theorem Iso.mem {ns ms : List Node} {f : Int → Int} (h : Iso ns ms f) {x : Int} (hx : Pl ms x) {l : List Int} (hl : ∀ y ∈ l, Pl ms y) : f x ∈ l.map f ↔ x ∈ l := by
  refine ⟨fun hm => ?_, fun hm => List.mem_map_of_mem hm⟩
  obtain ⟨y, hy, e⟩ := List.mem_map.1 hm
  rw [h.inj x y hx (hl y hy) e.symm]; exact hy
theorem kids_pl {ms : List Node} (hP : Places ms) {x : Int} (hx : Pl ms x) : ∀ k ∈ kids ms x, Pl ms k := fun k hk => hP x.toNat (by have := hx.1; have := hx.2; omega) k hk
theorem Iso.meet {ns ms : List Node} {f : Int → Int} (h : Iso ns ms f) (hP : Places ms) : ∀ (m : Nat) (a : Int) (met : List Int), Pl ms a → (∀ x ∈ met, Pl ms x) →
    L.meet ns m (f a) (met.map f) = (L.meet ms m a met).map f ∧ ∀ x ∈ L.meet ms m a met, Pl ms x
  | 0, a, met, _, hm => ⟨rfl, hm⟩
  | m + 1, a, met, ha, hm => by
    unfold L.meet
    by_cases hin : a ∈ met
    · rw [if_pos hin, if_pos ((h.mem ha hm).2 hin)]
      exact ⟨rfl, hm⟩
    · rw [if_neg hin, if_neg (fun e => hin ((h.mem ha hm).1 e)), h.kids ha, List.foldl_map]
      have key : ∀ (l met : List Int), (∀ k ∈ l, Pl ms k) → (∀ x ∈ met, Pl ms x) →
          l.foldl (fun v k => L.meet ns m (f k) v) (met.map f) = (l.foldl (fun v k => L.meet ms m k v) met).map f ∧ ∀ x ∈ l.foldl (fun v k => L.meet ms m k v) met, Pl ms x := by
        intro l
        induction l with
        | nil => intro met _ hm; exact ⟨rfl, hm⟩
        | cons k l ih =>
          intro met hl hm
          obtain ⟨e1, e2⟩ := Iso.meet h hP m k met (hl k (by simp)) hm
          rw [List.foldl_cons, List.foldl_cons, e1]
          exact ih _ (fun y hy => hl y (by simp [hy])) e2
      obtain ⟨e1, e2⟩ := key (L.kids ms a) met (kids_pl hP ha) hm
      refine ⟨?_, fun x hx => ?_⟩
      · rw [List.map_append, ← e1]; rfl
      · rcases List.mem_append.1 hx with hx | hx
        · exact e2 x hx
        · rw [List.mem_singleton.1 hx]; exact ha
theorem Iso.rch {ns ms : List Node} {f : Int → Int} (h : Iso ns ms f) (hP : Places ms) {l : List Int} (hl : ∀ k ∈ l, Pl ms k) {x : Int} (hr : Rch ms l x) : Rch ns (l.map f) (f x) ∧ Pl ms x := by
  induction hr with
  | base hk => exact ⟨.base (List.mem_map_of_mem hk), hl _ hk⟩
  | step _ hk ih => exact ⟨.step ih.1 (by rw [h.kids ih.2]; exact List.mem_map_of_mem hk), kids_pl hP ih.2 _ hk⟩
theorem Iso.dag {ns ms : List Node} {f : Int → Int} (h : Iso ns ms f) (hP : Places ms) (hc : ∀ p : Nat, p < ns.length → ¬ Cyc ns p) : Dag ms := by
  refine ⟨hP, fun p hp hcy => ?_⟩
  have hx : Pl ms (p : Int) := ⟨by omega, by omega⟩
  have h1 := (h.rch hP (kids_pl hP hx) hcy).1
  rw [← h.kids hx] at h1
  have hpl := h.pl _ hx
  obtain ⟨q, hq⟩ : ∃ q : Nat, f (p : Int) = (q : Int) := ⟨(f p).toNat, by have := hpl.1; omega⟩
  rw [hq] at h1 hpl
  exact hc q (by have := hpl.2; omega) h1
theorem idxOf_map {f : Int → Int} {P : Int → Prop} (hf : ∀ x y, P x → P y → f x = f y → x = y) {k : Int} (hk : P k) : ∀ l : List Int, (∀ y ∈ l, P y) → (l.map f).idxOf (f k) = l.idxOf k
  | [], _ => rfl
  | y :: l, h => by
    rw [List.map_cons, List.idxOf_cons, List.idxOf_cons, idxOf_map hf hk l (fun z hz => h z (by simp [hz]))]
    by_cases e : y = k
    · rw [e]; simp
    · have : ¬ f y = f k := fun e' => e (hf y k (h y (by simp)) hk e')
      rw [beq_eq_false_iff_ne.2 e, beq_eq_false_iff_ne.2 this]
theorem Iso.ord {s t : Scene} {f : Int → Int} (h : Iso s.nodes t.nodes f) (hP : Places t.nodes) (hr : Pl t.nodes t.root) (he : s.root = f t.root) : L.ord s = (L.ord t).map f ∧ ∀ x ∈ L.ord t, Pl t.nodes x := by
  unfold L.ord M
  rw [he, h.len]
  exact h.meet hP _ _ [] hr (fun x hx => by simp at hx)
theorem Iso.canonL {s t : Scene} {f : Int → Int} (h : Iso s.nodes t.nodes f) (hP : Places t.nodes) (hr : Pl t.nodes t.root) (he : s.root = f t.root) : L.canonL s = L.canonL t := by
  obtain ⟨ho, hop⟩ := h.ord hP hr he
  unfold L.canonL
  rw [ho, List.map_map]
  refine List.map_congr_left (fun a ha => ?_)
  have hap := hop a ha
  show relab s (L.nd s.nodes (f a).toNat) = relab t (L.nd t.nodes a.toNat)
  unfold relab
  rw [h.nd a hap]
  show Node.mk _ _ _ _ = Node.mk _ _ _ _
  congr 1
  rw [List.map_map]
  refine List.map_congr_left (fun k hk => ?_)
  show ((idx s (f k) : Nat) : Int) = (idx t k : Int)
  unfold idx
  rw [ho, idxOf_map (P := Pl t.nodes) h.inj (kids_pl hP hap k hk) _ hop]
theorem Shut.len {ns : List Node} {m : List Int} (h : Shut ns m) : m.length ≤ ns.length := nodup_len h.nd h.pl
theorem shut_next {ns : List Node} {met : List Int} (hs : Shut ns met) (a : Int) : ∀ x ∈ met, ¬ Rch ns (kids ns x) a ∨ a ∈ met := fun x hx => by
  by_cases hr : Rch ns (kids ns x) a
  · right
    have : ∀ y, Rch ns (kids ns x) y → y ∈ met := fun y hy => by
      induction hy with
      | base hb => exact hs.kids x hx _ hb
      | step _ hb ih => exact hs.kids _ ih _ hb
    exact this a hr
  · exact .inl hr
theorem ord_met' {s : Scene} (hd : Dag s.nodes) (hr : Pl s.nodes s.root) : Met s.nodes s.root [] (ord s) := M_met hd _ _ _ (Nat.lt_succ_self _) hr (Shut.nil _) (fun x hx => by simp at hx)
end Go.Proofs.YtdfneldenipljaaDoor.L
end
section
namespace Go.Proofs.YtdfneldenipljaaDoor.L
open Go.RowKit Go.ChangeShapes Go.WideShapes Go.Proofs.YtdfneldenipljaaDoorW.PrintWords Go.Proofs.YtdfneldenipljaaDoorW.PrintLast Go.Proofs.YtdfneldenipljaaDoorW.PrintMore
attribute [local go_sem] max2_int min2_int max_two min_two max_three min_three max_four min_four
theorem canon_iso {s : Scene} (h : Right s) : Iso (canonL s) s.nodes (fun x => (idx s x : Int)) := by
  have hlen : (canonL s).length = s.nodes.length := by
    have := ord_len h
    simp [canonL, this]
  refine ⟨hlen, fun x hx => ?_, fun x y hx hy he => ?_, fun x hx => ?_⟩
  · obtain ⟨q, rfl⟩ : ∃ q : Nat, x = (q : Int) := ⟨x.toNat, by have := hx.1; omega⟩
    have := (at_idx h (p := q) (by have := hx.2; omega)).1
    exact ⟨by omega, by omega⟩
  · obtain ⟨q, rfl⟩ : ∃ q : Nat, x = (q : Int) := ⟨x.toNat, by have := hx.1; omega⟩
    obtain ⟨r, rfl⟩ : ∃ r : Nat, y = (r : Int) := ⟨y.toNat, by have := hy.1; omega⟩
    have := idx_inj h (p := q) (q := r) (by have := hx.2; omega) (by have := hy.2; omega) (by
      have he' : (idx s (q : Int) : Int) = (idx s (r : Int) : Int) := he
      omega)
    rw [this]
  · obtain ⟨q, rfl⟩ : ∃ q : Nat, x = (q : Int) := ⟨x.toNat, by have := hx.1; omega⟩
    obtain ⟨h1, h2⟩ := at_idx h (p := q) (by have := hx.2; omega)
    show nd (canonL s) ((idx s (q : Int) : Int)).toNat = _
    rw [Int.toNat_natCast]
    have hl : idx s (q : Int) < (ord s).length := by rw [ord_len h]; exact h1
    unfold canonL
    unfold nd
    rw [List.getD_eq_getElem?_getD, List.getElem?_map, List.getElem?_eq_getElem hl]
    have h3 : (ord s)[idx s (q : Int)] = (q : Int) := (rd_eq hl).symm.trans h2
    rw [h3]
    rfl
theorem canon_root {s : Scene} (h : Right s) : (s.nodes.length : Int) - 1 = (idx s s.root : Int) := by
  have hpl : Pl s.nodes s.root := ⟨h.r0, h.r1⟩
  have ho : ord s = ML s.nodes (kids s.nodes s.root) [] ++ [s.root] := by
    show M s.nodes s.root [] = _
    exact M_out h.dag hpl (by simp)
  have hl := ord_len h
  have hnd := ord_nodup h
  rw [ho] at hl hnd
  rw [List.length_append, List.length_singleton] at hl
  have hni : ¬ s.root ∈ ML s.nodes (kids s.nodes s.root) [] := fun hm => by
    exact (List.nodup_append.1 hnd).2.2 s.root hm s.root (by simp) rfl
  unfold idx
  rw [ho, List.idxOf_append, if_neg hni]
  simp
  omega
theorem canon_right {s : Scene} (h : Right s) : Right ⟨canonL s, (s.nodes.length : Int) - 1⟩ := by
  have hi := canon_iso h
  have hlen : (canonL s).length = s.nodes.length := hi.len
  have hn : 0 < s.nodes.length := by have := h.r0; have := h.r1; omega
  have hsur : ∀ m : Nat, m < (canonL s).length → ∃ q : Nat, q < s.nodes.length ∧ (m : Int) = (idx s (q : Int) : Int) := fun m hm => by
    obtain ⟨q, hq, hqn⟩ := ord_at h (m := m) (by omega)
    refine ⟨q, hqn, ?_⟩
    have := idx_at h (m := m) (by omega)
    rw [hq] at this
    rw [this]
  refine ⟨by show 0 ≤ (s.nodes.length : Int) - 1; omega, by show (s.nodes.length : Int) - 1 < ((canonL s).length : Int); omega, fun m hm k hk => ?_, fun m hm hc => ?_, fun m hm => ?_⟩
  · obtain ⟨q, hq, e⟩ := hsur m hm
    have hkk : k ∈ kids (canonL s) (idx s (q : Int) : Int) := by rw [← e]; unfold kids; rw [Int.toNat_natCast]; exact hk
    rw [hi.kids ⟨by omega, by omega⟩] at hkk
    obtain ⟨x, hx, rfl⟩ := List.mem_map.1 hkk
    exact hi.pl x (kids_pl h.pl ⟨by omega, by omega⟩ x hx)
  · obtain ⟨q, hq, e⟩ := hsur m hm
    have hqp : Pl s.nodes (q : Int) := ⟨by omega, by omega⟩
    have back : ∀ (l : List Int), (∀ k ∈ l, Pl s.nodes k) → ∀ y, Rch (canonL s) (l.map (fun x => (idx s x : Int))) y → ∃ x, Pl s.nodes x ∧ y = (idx s x : Int) ∧ Rch s.nodes l x := fun l hl y hy => by
      induction hy with
      | base hk =>
        obtain ⟨x, hx, rfl⟩ := List.mem_map.1 hk
        exact ⟨x, hl x hx, rfl, .base hx⟩
      | step _ hk ih =>
        obtain ⟨x, hx, rfl, hrx⟩ := ih
        rw [hi.kids hx] at hk
        obtain ⟨z, hz, rfl⟩ := List.mem_map.1 hk
        exact ⟨z, kids_pl h.pl hx z hz, rfl, .step hrx hz⟩
    have hc' : Rch (canonL s) (kids (canonL s) (m : Int)) (m : Int) := hc
    rw [e, hi.kids hqp] at hc'
    obtain ⟨x, hx, ex, hrx⟩ := back _ (kids_pl h.pl hqp) _ hc'
    have := hi.inj _ _ hqp hx ex
    rw [← this] at hrx
    exact h.cyc q hq hrx
  · obtain ⟨q, hq, e⟩ := hsur m hm
    rw [e]
    have h1 := (hi.rch h.pl (l := [s.root]) (fun k hk => by rw [List.mem_singleton.1 hk]; exact ⟨h.r0, h.r1⟩) (h.all q hq)).1
    show Rch (canonL s) [(s.nodes.length : Int) - 1] _
    rw [canon_root h]
    exact h1
end Go.Proofs.YtdfneldenipljaaDoor.L
end
section
namespace Go.Proofs.YtdfneldenipljaaDoor.L
open Go.RowKit Go.ChangeShapes Go.WideShapes Go.Proofs.YtdfneldenipljaaDoorW.PrintWords Go.Proofs.YtdfneldenipljaaDoorW.PrintLast Go.Proofs.YtdfneldenipljaaDoorW.PrintMore
attribute [local go_sem] max2_int min2_int max_two min_two max_three min_three max_four min_four
theorem isC_right {s : Scene} (h : isC s = true) : Right s := by
  have h1 := (of_decide_eq_true h).2
  refine gcheck_right.1 (Classical.byContradiction fun hn => ?_)
  unfold nums at h1
  rw [if_neg hn] at h1
  simp at h1
theorem ord_iota {s : Scene} (h : Right s) : (ord s).map (fun x => (idx s x : Int)) = iota s.nodes.length := by
  have hl := ord_len h
  refine List.ext_getElem (by rw [List.length_map, hl, iota_len]) (fun m h1 h2 => ?_)
  rw [List.length_map] at h1
  rw [List.getElem_map]
  have h3 := idx_at h (m := m) (by omega)
  rw [rd_eq h1] at h3
  rw [h3]
  have h4 := iota_rd s.nodes.length m (by omega)
  rw [rd_eq h2] at h4
  exact h4.symm
theorem canon_ord {s : Scene} (h : Right s) : ord ⟨canonL s, (s.nodes.length : Int) - 1⟩ = iota s.nodes.length := by
  have hi := canon_iso h
  have := (hi.ord (s := ⟨canonL s, (s.nodes.length : Int) - 1⟩) h.pl ⟨h.r0, h.r1⟩ (canon_root h)).1
  rw [this]
  exact ord_iota h
theorem idxOf_iota (n p : Nat) (h : p < n) : (iota n).idxOf (p : Int) = p := by
  have hp : p < (iota n).length := by rw [iota_len]; exact h
  have hnd : (iota n).Nodup := by
    unfold iota
    refine List.pairwise_map.2 (List.Pairwise.imp ?_ List.nodup_range)
    intro a b hab e
    exact hab (by omega)
  have e : (iota n)[p] = (p : Int) := by have := iota_rd n p h; rwa [rd_eq hp] at this
  have := hnd.idxOf_getElem p hp
  rwa [e] at this
theorem canon_isC {s : Scene} (h : Right s) : isC ⟨canonL s, (s.nodes.length : Int) - 1⟩ = true := by
  have hr := canon_right h
  have hlen : (canonL s).length = s.nodes.length := (canon_iso h).len
  have hn : 0 < s.nodes.length := by have := h.r0; have := h.r1; omega
  have hnum : nums ⟨canonL s, (s.nodes.length : Int) - 1⟩ = iota s.nodes.length := by
    unfold nums
    rw [if_pos (gcheck_right.2 hr)]
    unfold numsL
    show (List.range (canonL s).length).map _ = _
    rw [hlen]
    unfold iota
    refine List.map_congr_left (fun p hp => ?_)
    unfold idx
    rw [canon_ord h, idxOf_iota _ _ (List.mem_range.1 hp)]
  refine decide_eq_true ?_
  rw [hnum, iota_len]
  exact ⟨rfl, hn⟩
theorem isC_idx {s : Scene} (h : Right s) (hc : isC s = true) {p : Nat} (hp : p < s.nodes.length) : idx s (p : Int) = p := by
  have h1 := (of_decide_eq_true hc).1
  have h2 : nums s = numsL s := by unfold nums; rw [if_pos (gcheck_right.2 h)]
  rw [h2, numsL_len] at h1
  have h3 := numsL_rd s p hp
  rw [h1, iota_rd _ _ hp] at h3
  omega
theorem isC_eq {s : Scene} (h : Right s) (hc : isC s = true) : s = ⟨canonL s, (s.nodes.length : Int) - 1⟩ := by
  have hlen : (canonL s).length = s.nodes.length := (canon_iso h).len
  have hroot : s.root = (s.nodes.length : Int) - 1 := by
    have h1 := canon_root h
    obtain ⟨r, hr⟩ : ∃ r : Nat, s.root = (r : Int) := ⟨s.root.toNat, by have := h.r0; omega⟩
    rw [hr] at h1
    rw [isC_idx h hc (p := r) (by have := h.r1; omega)] at h1
    omega
  have hnodes : s.nodes = canonL s := by
    refine List.ext_getElem hlen.symm (fun p h1 h2 => ?_)
    have h3 := (canon_iso h).nd (p : Int) ⟨by omega, by omega⟩
    rw [isC_idx h hc h1, Int.toNat_natCast] at h3
    unfold nd kids nd at h3
    rw [Int.toNat_natCast, getD_eq _ h2, getD_eq _ h1] at h3
    rw [h3]
    generalize hx : s.nodes[p] = x
    have hk : ∀ k ∈ x.kids, Pl s.nodes k := fun k hk => h.pl p h1 k (by unfold nd; rw [getD_eq _ h1, hx]; exact hk)
    have e : x.kids.map (fun x => (idx s x : Int)) = x.kids := by
      conv => rhs; rw [← List.map_id x.kids]
      refine List.map_congr_left (fun k hkk => ?_)
      have hkp := hk k hkk
      obtain ⟨q, rfl⟩ : ∃ q : Nat, k = (q : Int) := ⟨k.toNat, by have := hkp.1; omega⟩
      show ((idx s (q : Int) : Nat) : Int) = _
      rw [isC_idx h hc (by have := hkp.2; omega)]
      rfl
    cases x
    simp only at e ⊢
    rw [e]
  cases s
  simp only at hnodes hroot ⊢
  congr 1
theorem isC_iff {s : Scene} (h : Right s) : isC s = true ↔ (⟨canonL s, (s.nodes.length : Int) - 1⟩ : Scene) = s :=
  ⟨fun hc => (isC_eq h hc).symm, fun e => by have := canon_isC h; rwa [e] at this⟩
end Go.Proofs.YtdfneldenipljaaDoor.L
end
section
namespace Go.Proofs.YtdfneldenipljaaDoor.L
open Go.RowKit Go.ChangeShapes Go.WideShapes Go.Proofs.YtdfneldenipljaaDoorW.PrintWords Go.Proofs.YtdfneldenipljaaDoorW.PrintLast Go.Proofs.YtdfneldenipljaaDoorW.PrintMore
attribute [local go_sem] max2_int min2_int max_two min_two max_three min_three max_four min_four
def PO (ns : List Node) (m : List Int) : Prop := ∀ (a : List Int) (x : Int) (b : List Int), m = a ++ x :: b → ∀ k ∈ kids ns x, k ∈ a
theorem PO.nil (ns : List Node) : PO ns [] := fun a x b e => by
  have := congrArg List.length e
  simp at this
theorem PO.snoc {ns : List Node} {m : List Int} {x : Int} (h : PO ns m) (hk : ∀ k ∈ kids ns x, k ∈ m) : PO ns (m ++ [x]) := fun a y b e => by
  rcases snoc_cases b with rfl | ⟨b', z, rfl⟩
  · have e1 : m ++ [x] = a ++ [y] := e
    obtain ⟨rfl, e2⟩ := List.append_inj' e1 rfl
    injection e2 with e2
    subst e2
    exact hk
  · have e1 : m ++ [x] = (a ++ y :: b') ++ [z] := by rw [e]; simp
    obtain ⟨e2, _⟩ := List.append_inj' e1 rfl
    exact h a y b' e2
theorem M_po {ns : List Node} (h : Dag ns) : ∀ (N : Nat) (a : Int) (met : List Int), reachN ns a < N → Pl ns a → Shut ns met → PO ns met → PO ns (M ns a met)
  | 0, _, _, hN, _, _, _ => by omega
  | N + 1, a, met, hN, ha, hs, hp => by
    by_cases hm : a ∈ met
    · rw [M_in h ha hm]; exact hp
    · rw [M_out h ha hm]
      have key : ∀ (l met : List Int), (∀ k ∈ l, k ∈ kids ns a) → Shut ns met → PO ns met → (PO ns (ML ns l met) ∧ (∀ x ∈ met, x ∈ ML ns l met) ∧ ∀ k ∈ l, k ∈ ML ns l met) := by
        intro l
        induction l with
        | nil => intro met _ hs hp; exact ⟨hp, fun x hx => hx, fun k hk => by simp at hk⟩
        | cons k l ih =>
          intro met hl hs hp
          have hk := hl k (by simp)
          have hN' : reachN ns k < N := by have := h.lower ha hk; omega
          have m1 := M_met h N k met hN' (h.kid ha hk) hs (shut_next hs k)
          have p1 := M_po h N k met hN' (h.kid ha hk) hs hp
          obtain ⟨r1, e1, _⟩ := m1.ext
          obtain ⟨p2, i2, k2⟩ := ih (M ns k met) (fun y hy => hl y (by simp [hy])) m1.shut p1
          rw [ML_cons]
          refine ⟨p2, fun x hx => i2 x (by rw [e1]; exact List.mem_append_left _ hx), fun y hy => ?_⟩
          rcases List.mem_cons.1 hy with rfl | hy
          · exact i2 _ m1.here
          · exact k2 y hy
      obtain ⟨p2, _, k2⟩ := key (kids ns a) met (fun _ hk => hk) hs hp
      exact p2.snoc k2
theorem ord_po {s : Scene} (h : Right s) : PO s.nodes (ord s) := M_po h.dag _ _ _ (Nat.lt_succ_self _) ⟨h.r0, h.r1⟩ (Shut.nil _) (PO.nil _)
theorem idx_kid {s : Scene} (h : Right s) {p : Nat} (hp : p < s.nodes.length) {k : Int} (hk : k ∈ (nd s.nodes p).kids) : idx s k < idx s (p : Int) := by
  obtain ⟨a, b, e⟩ := List.append_of_mem (ord_all h p hp)
  have hka : k ∈ a := ord_po h a (p : Int) b e k (by rw [kids_nat]; exact hk)
  have hnd := ord_nodup h
  have hpa : ¬ (p : Int) ∈ a := fun hm => by
    rw [e] at hnd
    exact (List.nodup_append.1 hnd).2.2 _ hm _ (by simp) rfl
  unfold idx
  rw [e, List.idxOf_append, if_pos hka, List.idxOf_append, if_neg hpa]
  have := List.idxOf_lt_length_of_mem hka
  omega
theorem isC_ahead {s : Scene} (h : Right s) (hc : isC s = true) {p : Nat} (hp : p < s.nodes.length) {k : Int} (hk : k ∈ (nd s.nodes p).kids) : 0 ≤ k ∧ k < (p : Int) := by
  have hpl := h.pl p hp k hk
  obtain ⟨q, rfl⟩ : ∃ q : Nat, k = (q : Int) := ⟨k.toNat, by omega⟩
  have h1 := idx_kid h hp hk
  rw [isC_idx h hc (by omega), isC_idx h hc hp] at h1
  omega
end Go.Proofs.YtdfneldenipljaaDoor.L
end
section
namespace Go.Proofs.YtdfneldenipljaaDoor.L
open Go.RowKit Go.ChangeShapes Go.WideShapes Go.Proofs.YtdfneldenipljaaDoorW.PrintWords Go.Proofs.YtdfneldenipljaaDoorW.PrintLast Go.Proofs.YtdfneldenipljaaDoorW.PrintMore
attribute [local go_sem] max2_int min2_int max_two min_two max_three min_three max_four min_four
section
open Go.Maps
variable {P : Program} {k : TypeId} {w w1 : World} {b n : Nat} {f : Lit → Option Value}
def MapN (P : Program) (k : TypeId) (w : World) (b n : Nat) (f : Lit → Option Value) : Prop :=
  ∃ D : DataW Value, w.ownsMap P k heldE b n D ∧ Maps.size D = n ∧ ∀ q, Maps.has D q = (f q).isSome ∧ ∀ v z, f q = some v → D.atKey q z = .held v
theorem MapN.toF (h : MapN P k w b n f) : MapF P k w b n f := by
  obtain ⟨D, h1, _, h2⟩ := h
  exact ⟨D, h1, h2⟩
theorem MapN.made (P : Program) (k : TypeId) (w : World) : MapN P k (w.alloc (.map #[] 0)) w.heap.size 0 (fun _ => none) :=
  ⟨.map [], World.ownsMap_made w P k heldE, rfl, fun q => ⟨rfl, fun v z h => by cases h⟩⟩
theorem MapN.kept {row : Option Nat} (h : MapN P k w b n f) (hg : w.grownBy w1 row) (hne : some b ≠ row) : MapN P k w1 b n f := by
  obtain ⟨D, h, hs, hf⟩ := h
  exact ⟨D, h.kept hg hne, hs, hf⟩
theorem MapN.below (h : MapN P k w b n f) (hb : Below w.heap.size w w1) : MapN P k w1 b n f := h.kept (row := none) ⟨hb.os, hb.tape, hb.output, hb.size, fun i hi _ => hb.block i hi⟩ (by simp)
theorem MapN.lt (h : MapN P k w b n f) : b < w.heap.size := h.toF.lt
end
section
open Go.Maps
variable {P : Program} (w : World) {ops : Array Oper} {rest : List Oper} {o : Oper} {a : Act} {Q : Exit → Act → World → Prop}
theorem wpList_update_N (hg : o.guard = none) (m x v : Operand) (t : TypeId) (hop : o.op = Op.mapUpdate t m x v)
    (k e : TypeId) (K : Keyed P k) (ht : P.underlying t = some (.map k e)) (b n : Nat) (f : Lit → Option Value)
    (hm : a.eval m = .map (some b)) (hown : MapN P k w b n f) (hn : n < maxLen) (key val : Value) (kl : Lit) (hx : a.eval x = key) (hv : a.eval v = val) (hkey : keyOf P k key = some kl) (hnew : f kl = none)
    (hK : ∀ w', MapN P k w' b (n + 1) (putF f kl val) → w.grownBy w' (some b) → wpList P ops Q rest (a.put o.dst undef) w') :
    wpList P ops Q (o :: rest) a w := by
  obtain ⟨D, hown, hs, hf⟩ := hown
  have hm' := hown.isMap
  have htd := hown.tidy K
  have hkl : WideAt.IsKeyLit kl := K.key hkey
  refine wpList_mapUpdate_own w hg m x v t hop k e K ht heldE b n D hm hown hn key val kl hx hv hkey (.held val) [] rfl ?_
  intro w' h1 h2
  refine hK w' ⟨_, h1, ?_, fun q => ?_⟩ h2
  · rw [Maps.size_put htd]
    have h3 := (hf kl).1
    rw [hnew] at h3
    rw [h3, hs]; rfl
  by_cases hq : q = kl
  · subst hq
    rw [Maps.has_put_same hm' hkl, putF_same]
    refine ⟨rfl, fun u z hu => ?_⟩
    cases hu
    exact Maps.atKey_put_same hm' hkl _ _
  · rw [Maps.has_put_other hq, putF_other f val hq]
    refine ⟨(hf q).1, fun u z hu => ?_⟩
    rw [Maps.atKey_put_other hq]
    exact (hf q).2 u z hu
theorem wpList_len_N (hg : o.guard = none) (m : Operand) (t : TypeId) (hop : o.op = Op.call { callee := Callee.builtin Builtin.len, args := #[m], argTypes := #[t] })
    (k e : TypeId) (ht : P.underlying t = some (.map k e)) (b n : Nat) (f : Lit → Option Value) (hm : a.eval m = .map (some b)) (hown : MapN P k w b n f)
    (hK : wpList P ops Q rest (a.put o.dst (.int .i64 (n : Int))) w) :
    wpList P ops Q (o :: rest) a w := by
  obtain ⟨D, hown, hs, hf⟩ := hown
  refine wpList_len_own w hg m t hop k e ht heldE b n D hm hown ?_
  rw [hs]; exact hK
end
theorem keyW : Maps.Keyed Tryd.prog 9 := Maps.string_keyed Tryd.underlying9
theorem keyW_of {s : List UInt8} (h : s.length ≤ maxLen) : keyOf Tryd.prog 9 (.string ⟨s.toArray⟩) = some (.string s) := by
  have h1 := Go.WideMaps.keyOf_string_mk (P := Tryd.prog) (k := 9) (s := ⟨s.toArray⟩) Tryd.underlying9 (by show s.toArray.size ≤ _; simpa using h)
  simpa using h1
theorem zeroIW (w : World) : (zeroValue 3).run Tryd.prog w = .ok (.int .i64 0) w := by kernel_rfl
def numF (vs : List (List UInt8)) : Lit → Option Value
  | .string x => if x ∈ vs then some (.int .i64 (vs.idxOf x : Int)) else none
  | _ => none
theorem numF_nil : numF [] = fun _ => none := by
  funext q
  cases q <;> rfl
theorem numF_in {vs : List (List UInt8)} {x : List UInt8} (h : x ∈ vs) (z : Value) : (numF vs (.string x)).getD z = .int .i64 (vs.idxOf x : Int) ∧ (numF vs (.string x)).isSome = true := by
  unfold numF
  dsimp only
  rw [if_pos h]; exact ⟨rfl, rfl⟩
theorem numF_out {vs : List (List UInt8)} {x : List UInt8} (h : ¬ x ∈ vs) (z : Value) : (numF vs (.string x)).getD z = z ∧ (numF vs (.string x)).isSome = false ∧ numF vs (.string x) = none := by
  unfold numF
  dsimp only
  rw [if_neg h]; exact ⟨rfl, rfl, rfl⟩
theorem numF_put {vs : List (List UInt8)} {x : List UInt8} (h : ¬ x ∈ vs) : putF (numF vs) (.string x) (.int .i64 (vs.length : Int)) = numF (vs ++ [x]) := by
  funext q
  by_cases hq : q = .string x
  · subst hq
    rw [putF_same]
    unfold numF
    dsimp only
    rw [if_pos (by simp), List.idxOf_append, if_neg h]
    simp
  · rw [putF_other _ _ hq]
    cases q with
    | string y =>
      have hy : y ≠ x := fun e => hq (by rw [e])
      unfold numF
      dsimp only
      by_cases hm : y ∈ vs
      · rw [if_pos hm, if_pos (by simp [hm]), List.idxOf_append, if_pos hm]
      · rw [if_neg hm, if_neg (by simp [hm, hy])]
    | _ => rfl
def kInts : Kd (List Int) := Kd.slice 3 (Kd.int .i64)
structure ClsIn (w Wg : World) (mb : Nat) (vs : List (List UInt8)) (own : List Int) (v : Value) (W : World) : Prop where
  map : MapN Tryd.prog 9 W mb vs.length (numF vs)
  own : (Kd.int .i64).R 3 W w.heap.size (fun q => Wg.heap.size ≤ q) v own
  grown : Wg.grownBy W (some mb)
  below : Below w.heap.size w W
theorem grown_below {Wg W W1 : World} {row : Option Nat} (h : Wg.grownBy W row) (hb : Below W.heap.size W W1) : Wg.grownBy W1 row :=
  ⟨hb.os.trans h.os, hb.tape.trans h.tape, hb.output.trans h.output, Nat.le_trans h.size hb.size, fun i hi hr => (hb.block i (Nat.lt_of_lt_of_le hi h.size)).trans (h.block i hi hr)⟩
theorem ClsIn.later {w Wg : World} {mb : Nat} {vs : List (List UInt8)} {own : List Int} {v : Value} {W W1 : World} (h : ClsIn w Wg mb vs own v W) (hb : Below W.heap.size W W1) : ClsIn w Wg mb vs own v W1 :=
  ⟨h.map.below hb, Kd.R_grown (row := none) h.own ⟨hb.os, hb.tape, hb.output, hb.size, fun i hi _ => hb.block i hi⟩ (fun _ _ => by simp), grown_below h.grown hb, below_step h.below hb⟩
structure ClsOut (w : World) (mb : Nat) (vs : List (List UInt8)) (outs : List (List Int)) (v : Value) (W : World) : Prop where
  map : MapN Tryd.prog 9 W mb vs.length (numF vs)
  out : kInts.R 31 W w.heap.size (fun _ => True) v outs
  below : Below w.heap.size w W
  ge : w.heap.size ≤ mb
theorem ClsOut.later {w : World} {mb : Nat} {vs : List (List UInt8)} {outs : List (List Int)} {v : Value} {W W1 : World} (h : ClsOut w mb vs outs v W) (hb : Below W.heap.size W W1) : ClsOut w mb vs outs v W1 :=
  ⟨h.map.below hb, Kd.R_grown (row := none) h.out ⟨hb.os, hb.tape, hb.output, hb.size, fun i hi _ => hb.block i hi⟩ (fun _ _ => by simp), below_step h.below hb, h.ge⟩
theorem own_vs_len (T : Lib.PrintTabs) (vs : List (List UInt8)) : ∀ (n : Nat) (ns : List Node), ns.length = n → (ownS T vs ns).1.length ≤ vs.length + n
  | n, ns, hn => by
    rcases snoc_cases ns with rfl | ⟨l, x, rfl⟩
    · show vs.length ≤ _; omega
    · rw [own_snoc]
      match n, hn with
      | 0, hn => simp at hn
      | n + 1, hn =>
        have := own_vs_len T vs n l (by simpa using hn)
        show (addW (ownS T vs l).1 _).length ≤ _
        unfold addW
        split
        · omega
        · simp; omega
theorem all_vs_len (T : Lib.PrintTabs) : ∀ (n : Nat) (l : List Scene), l.length = n → (∀ s ∈ l, s.nodes.length ≤ 400000) → (allS T l).1.length ≤ n * 400000
  | n, l, hn, hs => by
    rcases snoc_cases l with rfl | ⟨l, x, rfl⟩
    · show 0 ≤ _; omega
    · rw [all_snoc]
      match n, hn with
      | 0, hn => simp at hn
      | n + 1, hn =>
        have h1 := all_vs_len T n l (by simpa using hn) (fun s h => hs s (by simp [h]))
        have h2 := own_vs_len T (allS T l).1 x.nodes.length x.nodes rfl
        have h3 := hs x (by simp)
        show (ownS T (allS T l).1 x.nodes).1.length ≤ _
        rw [Nat.succ_mul]
        omega
theorem own_vals (T : Lib.PrintTabs) (vs : List (List UInt8)) (ns : List Node) : ∀ x ∈ (ownS T vs ns).2, 0 ≤ x ∧ x ≤ ((ownS T vs ns).1.length : Int) := by
  intro x hx
  obtain ⟨i, hi, rfl⟩ := List.getElem_of_mem hx
  obtain ⟨h1, h2⟩ := own_riseN T vs ns.length (ns := ns) rfl
  rw [own_len T vs ns.length ns rfl] at hi
  have h3 := h1 i hi
  have h4 := cnt_mono (ownS T vs ns).2 vs.length (i := i) (j := ns.length) (by omega)
  rw [rd_eq (by rw [own_len T vs ns.length ns rfl]; exact hi)] at h3
  omega
theorem nodeW_len (T : Lib.PrintTabs) {n : Node} {own : List Int} (hs : Small n) (hts : ∀ x ∈ n.texts, x.size ≤ 1000000) (hn : NBd n) (hk : ∀ k ∈ n.kids, 0 ≤ k ∧ k < (own.length : Int)) (hoB : ∀ x ∈ own, I64 x) : (nodeW T n own).length ≤ maxLen := by
  have h1 := itoa_len hn.kind
  have h2 := wNums_len hn.ints
  have h3 := wTexts_len T hts
  have h4 := wNums_len (l := n.kids.map (rd own)) (fun x hx => by
    obtain ⟨q, hq, rfl⟩ := List.mem_map.1 hx
    have h1 := hk q hq
    obtain ⟨p, rfl⟩ : ∃ p : Nat, q = (p : Int) := ⟨q.toNat, by omega⟩
    exact hoB _ (rd_mem (by omega)))
  rw [List.length_map] at h4
  have e : (nodeW T n own).length = (Lib.itoa n.kind).length + ((wNums n.ints).length + ((wTexts T n.texts).length + (2 + (wNums (n.kids.map (rd own))).length))) := by
    unfold nodeW wordL
    simp only [List.length_append, List.length_cons]
    omega
  have h5 := hs.1
  have h6 := hs.2.1
  have h7 := hs.2.2
  unfold maxLen
  omega
end Go.Proofs.YtdfneldenipljaaDoor.L
end
section
namespace Go.Proofs.YtdfneldenipljaaDoor.L
open Go.RowKit Go.ChangeShapes Go.WideShapes Go.Proofs.YtdfneldenipljaaDoorW.PrintWords Go.Proofs.YtdfneldenipljaaDoorW.PrintLast Go.Proofs.YtdfneldenipljaaDoorW.PrintMore
attribute [local go_sem] max2_int min2_int max_two min_two max_three min_three max_four min_four
def ScBd (s : Scene) : Prop := (∀ i : Nat, i < s.nodes.length → Small (nd s.nodes i) ∧ (∀ x ∈ (nd s.nodes i).texts, x.size ≤ 1000000) ∧ NBd (nd s.nodes i)) ∧ rows s.nodes ≤ 400000
def NumsPost (T : Lib.PrintTabs) (l : List Scene) (w : World) (e : Ending) (w' : World) : Prop :=
  Below w.heap.size w w' ∧ (((∀ i : Nat, i < l.length → isC (sc l i) = true) ∧ ∃ v, e = .returned (.tuple #[v, .int .i64 0]) ∧ kInts.R 31 w' w.heap.size (fun _ => True) v (allS T l).2) ∨
    ((∃ i : Nat, i < l.length ∧ isC (sc l i) = false) ∧ e = .returned (.tuple #[.slice none 0 0, .int .i64 16])))
theorem take_sc {l : List Scene} {i : Nat} (h : i < l.length) : l.take (i + 1) = l.take i ++ [sc l i] := by rw [take_succ_getD ⟨[], 0⟩ h]; rfl
theorem take_nd' {l : List Node} {i : Nat} (h : i < l.length) : l.take (i + 1) = l.take i ++ [nd l i] := by rw [take_succ_getD nodez h]; rfl
theorem grown_trans {Wg W W1 : World} {mb : Nat} {row : Option Nat} (h : Wg.grownBy W (some mb)) (hg : W.grownBy W1 row) (hr : ∀ k, row = some k → k = mb ∨ Wg.heap.size ≤ k) : Wg.grownBy W1 (some mb) :=
  ⟨hg.os.trans h.os, hg.tape.trans h.tape, hg.output.trans h.output, Nat.le_trans h.size hg.size, fun i hi hn => (hg.block i (Nat.lt_of_lt_of_le hi h.size) (fun e => by
    rcases hr i e.symm with h1 | h1
    · exact hn (by rw [h1])
    · omega)).trans (h.block i hi hn)⟩
theorem ClsIn.pushed {w Wg W W2 : World} {mb : Nat} {us : List (List UInt8)} {own : List Int} {x : Int} {v v2 : Value} (h : ClsIn w Wg mb us own v W) (hR : (Kd.int .i64).R 3 W2 w.heap.size (fun q => Wg.heap.size ≤ q) v2 (own ++ [x])) (hB : Below w.heap.size w W2) (hg : W.grownBy W2 v.ownBlock) : ClsIn w Wg mb us (own ++ [x]) v2 W2 :=
  ⟨h.map.kept hg (h.map.toF.ne_row h.own), hR, grown_trans h.grown hg (fun k hk => .inr (h.own.1 k hk)), hB⟩
theorem ClsIn.put {w Wg W W2 : World} {mb : Nat} {us : List (List UInt8)} {own : List Int} {x : List UInt8} {v : Value} (h : ClsIn w Wg mb us own v W) (hx : ¬ x ∈ us) (hM : MapN Tryd.prog 9 W2 mb (us.length + 1) (putF (numF us) (.string x) (.int .i64 (us.length : Int)))) (hg : W.grownBy W2 (some mb)) (hmb : w.heap.size ≤ mb) : ClsIn w Wg mb (us ++ [x]) own v W2 := by
  rw [numF_put hx] at hM
  exact ⟨by rw [List.length_append]; exact hM, R_past_map h.own h.map.toF hg, grown_trans h.grown hg (fun k hk => .inl (by injection hk with hk; exact hk.symm)), below_map h.below h.below.size hg hmb⟩
theorem ClsIn.whole {w Wg W : World} {mb : Nat} {vs us : List (List UInt8)} {outs : List (List Int)} {own : List Int} {vo v : Value} (ho : ClsOut w mb vs outs vo Wg) (h : ClsIn w Wg mb us own v W) : kInts.R 31 W w.heap.size (fun q => q < Wg.heap.size) vo outs :=
  Kd.R_mono (Kd.R_grown (Kd.R_bound ho.out) h.grown (fun q hq he => by
    obtain ⟨_, _, _, e', _, cells, hc⟩ := hq
    injection he with he
    subst he
    exact ho.map.toF.not_cells hc)) (fun q hq => hq.2.2.1)
theorem infoInts : (Tryd.prog.info? 31).map (fun i => (i.zero, i.size, i.bytes)) = some (some (.slice none 0 0), 1, 24) := by kernel_rfl
theorem ClsOut.pushed {w Wg W W2 : World} {mb : Nat} {us : List (List UInt8)} {outs : List (List Int)} {own : List Int} {vo v v2 : Value} (h : ClsIn w Wg mb us own v W) (ho : kInts.R 31 W w.heap.size (fun q => q < Wg.heap.size) vo outs) (hR : kInts.R 31 W2 w.heap.size (fun _ => True) v2 (outs ++ [own])) (hB : Below w.heap.size w W2) (hg : W.grownBy W2 vo.ownBlock) (hm : w.heap.size ≤ mb) : ClsOut w mb us (outs ++ [own]) v2 W2 :=
  ⟨h.map.kept hg (h.map.toF.ne_row ho), hR, hB, hm⟩
set_option maxRecDepth 100000 in
set_option maxHeartbeats 8000000 in
theorem numbers_any (T : Lib.PrintTabs) (A : Option Addr) (c : Nat) (l : List Scene) (w : World) (h : kScene.C w A l.length l) (hB : ∀ i : Nat, i < l.length → ScBd (sc l i)) (hn : l.length ≤ 1000000) (hT : QTabs T w) :
    Calls Tryd.prog 15 #[.slice A l.length c] w (NumsPost T l w) := by
  have HR := Aside0.mk h
  have HBd := Aside0.mk hB
  have HT := Aside0.mk hT
  have hus := Tryd.underlying34
  have hun := Tryd.underlying52
  have hmm := @run_makeMap Tryd.prog
  have HO0 : Aside0 (ClsOut w w.heap.size [] [] (.slice none 0 0) (w.alloc (.map #[] 0))) :=
    ⟨by rw [numF_nil]; exact MapN.made Tryd.prog 9 w, Kd.R_nil _ _ _ _ _, below_alloc (Below.refl _ _) _, Nat.le_refl _⟩
  clear h hB hT
  go_enter Tryd.func15, Tryd.ntmps15
  go_wp2
  clear hmm
  generalize w.alloc (.map #[] 0) = w0 at HO0 ⊢
  generalize hmb : w.heap.size = mb at HO0
  go_loopw [17, 5] (fun v17 v5 W => ∃ (i : Nat) (vo : Value), i ≤ l.length ∧ v17 = .int .i64 i ∧ vo = v5 ∧ Aside0 (∀ k : Nat, k < i → isC (sc l k) = true) ∧ Aside0 (ClsOut w mb (allS T (l.take i)).1 (allS T (l.take i)).2 vo W)) (fun v17 _ _ => l.length - (intOf v17).toNat)
  case atStart => exact ⟨0, _, by omega, rfl, rfl, ⟨fun k h => by omega⟩, ⟨by rw [List.take_zero]; exact HO0.out⟩⟩
  case round =>
    clear HO0
    obtain ⟨i, vo, hi, rfl, rfl, HC, HO⟩ := hrel
    by_cases hlt : i < l.length
    · obtain ⟨ad, B, d, rfl, x0, x1, hd, hS⟩ := at_scene HR.out i hlt
      replace x0 := pw_cell_below HO.out.below x0
      replace x1 := pw_cell_below HO.out.below x1
      have HSb := Aside0.mk (HBd.out i hlt)
      have HS := Aside0.mk hS
      have HTk := Aside0.mk (take_sc hlt)
      have HId := Aside0.mk (show l.length ≤ 1000000 ∧ i < l.length ∧ isC (sc l i) = isC (sc l i) from ⟨hn, hlt, rfl⟩)
      have HVs := Aside0.mk (all_vs_len T i (l.take i) (by rw [List.length_take]; omega) (fun s hs => by
        obtain ⟨k, hk, rfl⟩ := List.getElem_of_mem hs
        have hk' : k < l.length := by rw [List.length_take] at hk; omega
        have h1 := (HBd.out k hk').2
        have e : sc l k = (l.take i)[k] := by rw [List.getElem_take]; unfold sc; rw [getD_eq _ hk']
        rw [← e]
        exact Nat.le_trans (len_rows _) h1))
      have HAll := Aside0.mk (show allS T (l.take (i + 1)) = ((ownS T (allS T (l.take i)).1 (sc l i).nodes).1, (allS T (l.take i)).2 ++ [(ownS T (allS T (l.take i)).1 (sc l i).nodes).2]) from by rw [take_sc hlt, all_snoc])
      have HOl := Aside0.mk (show (allS T (l.take i)).2.length ≤ 1000000 from by
        have : ∀ m : List Scene, (allS T m).2.length = m.length := fun m => by
          have key : ∀ (n : Nat) (m : List Scene), m.length = n → (allS T m).2.length = n := fun n => by
            induction n with
            | zero => intro m hm; obtain rfl := List.eq_nil_of_length_eq_zero hm; rfl
            | succ n ih =>
              intro m hm
              rcases snoc_cases m with rfl | ⟨m, x, rfl⟩
              · simp at hm
              · rw [all_snoc]
                show ((allS T m).2 ++ [_]).length = n + 1
                rw [List.length_append, ih m (by simpa using hm)]; rfl
          exact key m.length m rfl
        rw [this, List.length_take]; omega)
      clear hS hd
      obtain ⟨s, hs⟩ : ∃ s, s = sc l i := ⟨_, rfl⟩
      rw [← hs] at x0 x1 HSb HS HAll
      have HEq := Aside0.mk hs
      clear hs
      generalize allS T (l.take i) = st at HO HVs HAll HOl
      obtain ⟨vs, outs⟩ := st
      have HO : Aside0 (ClsOut w mb vs outs vo wr) := HO
      have HVs : Aside0 (vs.length ≤ i * 400000) := HVs
      have HOl : Aside0 (outs.length ≤ 1000000) := HOl
      have HAll : Aside0 (allS T (l.take (i + 1)) = ((ownS T vs s.nodes).1, outs ++ [(ownS T vs s.nodes).2])) := HAll
      have hA := below_alloc (Below.refl wr.heap.size wr) (.cells #[.slice B s.nodes.length d, .int .i64 s.root] 34)
      have q0 := box_cell wr _ rfl #[.slice B s.nodes.length d, .int .i64 s.root] 34 0 (.slice B s.nodes.length d) rfl
      have q1 := box_cell wr _ rfl #[.slice B s.nodes.length d, .int .i64 s.root] 34 1 (.int .i64 s.root) rfl
      have HO1 := Aside0.mk (HO.out.later hA)
      clear hA HO
      go_wp2_with fail
      refine (is_any B d s _ (Kd.C_below HS.out HO1.out.below) HSb.out.2).mono ?_
      rintro e wg ⟨rfl, hB1⟩
      replace q0 := pw_cell_below hB1 q0
      have HO2 := Aside0.mk (HO1.out.later hB1)
      clear hB1 HO1 x0 x1 q1
      cases hic : isC s with
      | false =>
        have HBad := Aside0.mk (show ∃ i : Nat, i < l.length ∧ isC (sc l i) = false from ⟨i, hlt, by rw [← HEq.out]; exact hic⟩)
        clear hic q0
        go_wp2
        go_ret2
        exact ⟨HO2.out.below, .inr ⟨HBad.out, rfl⟩⟩
      | true =>
        have HAh := Aside0.mk (show AheadN s.nodes from fun p hp k hk => isC_ahead (isC_right hic) hic hp hk)
        have HCi := Aside0.mk (ext_lt HC.out (show isC (sc l i) = true by rw [← HEq.out]; exact hic))
        have hnl : s.nodes.length ≤ 400000 := Nat.le_trans (len_rows _) HSb.out.2
        have HI0 : Aside0 (ClsIn w wg mb vs [] (.slice none 0 0) wg) := ⟨HO2.out.map, Kd.R_nil _ _ _ _ _, ⟨rfl, rfl, rfl, Nat.le_refl _, fun _ _ _ => rfl⟩, HO2.out.below⟩
        clear hic HC
        go_wp2
        clear q0
        go_loopw [27, 8] (fun v27 v8 W => ∃ (j : Nat) (vw : Value), j ≤ s.nodes.length ∧ v27 = .int .i64 j ∧ vw = v8 ∧ Aside0 (ClsIn w wg mb (ownS T vs (s.nodes.take j)).1 (ownS T vs (s.nodes.take j)).2 vw W)) (fun v27 _ _ => s.nodes.length - (intOf v27).toNat)
        case atStart => exact ⟨0, _, by omega, rfl, rfl, ⟨by rw [List.take_zero]; exact HI0.out⟩⟩
        case round =>
          clear HI0
          obtain ⟨j, vw, hj, rfl, rfl, HI⟩ := hrel
          by_cases hjl : j < s.nodes.length
          · obtain ⟨an, A1, c1, A2, c2, A3, c3, rfl, y0, y1, y2, y3, hN⟩ := at_node HS.out j hjl
            replace y0 := pw_cell_below HI.out.below y0
            replace y1 := pw_cell_below HI.out.below y1
            replace y2 := pw_cell_below HI.out.below y2
            replace y3 := pw_cell_below HI.out.below y3
            have HN := Aside0.mk hN
            have HNb := Aside0.mk (HSb.out.1 j hjl)
            have HTk2 := Aside0.mk (show ownS T vs (s.nodes.take (j + 1)) = numStep T (ownS T vs (s.nodes.take j)) (nd s.nodes j) from by rw [take_nd' hjl, own_snoc])
            have HLn := Aside0.mk (show (ownS T vs (s.nodes.take j)).2.length = j from own_len T vs j (s.nodes.take j) (by rw [List.length_take]; omega))
            have HVl := Aside0.mk (show (ownS T vs (s.nodes.take j)).1.length ≤ vs.length + j from own_vs_len T vs j (s.nodes.take j) (by rw [List.length_take]; omega))
            have HVv := Aside0.mk (own_vals T vs (s.nodes.take j))
            have HKd := Aside0.mk (HAh.out j hjl)
            have HIb := Aside0.mk (show i < 1000000 ∧ j < s.nodes.length from ⟨by omega, hjl⟩)
            generalize ownS T vs (s.nodes.take j) = st at HI HTk2 HLn HVl HVv
            obtain ⟨us, own⟩ := st
            have HI : Aside0 (ClsIn w wg mb us own vw wr) := HI
            have HLn : Aside0 (own.length = j) := HLn
            have HVl : Aside0 (us.length ≤ vs.length + j) := HVl
            have HVv : Aside0 (∀ x ∈ own, 0 ≤ x ∧ x ≤ (us.length : Int)) := HVv
            have HUb := Aside0.mk (show us.length ≤ 1000000000000 from by
              have h1 := HVl.out
              have h2 := HVs.out
              have h3 := HIb.out
              have h4 : i * 400000 ≤ 1000000 * 400000 := Nat.mul_le_mul_right _ (by omega)
              omega)
            have HVi := Aside0.mk (show ∀ x ∈ own, I64 x from fun x hx => by
              have h1 := HVv.out x hx
              have h2 := HUb.out
              exact ⟨by omega, by omega⟩)
            have HKk := Aside0.mk (show ∀ k ∈ (nd s.nodes j).kids, 0 ≤ k ∧ k < (own.length : Int) from fun k hk => by
              have := HKd.out k hk
              have := HLn.out
              omega)
            obtain ⟨Ao, co, hv8⟩ := Kd.R_slice HI.out.own
            subst hv8
            have HTk3 := Aside0.mk (show numStep T (us, own) (nd s.nodes j) = (addW us (nodeW T (nd s.nodes j) own), own ++ [((addW us (nodeW T (nd s.nodes j) own)).idxOf (nodeW T (nd s.nodes j) own) : Int)]) from rfl)
            generalize hnn : nd s.nodes j = n at y0 y1 y2 y3 HN HNb HTk2 HKk HTk3
            clear hnn hN
            have hA := below_alloc (Below.refl wr.heap.size wr) (.cells #[.int .i64 n.kind, .slice A1 n.ints.length c1, .slice A2 n.texts.length c2, .slice A3 n.kids.length c3] 52)
            have HJ := Aside0.mk (HI.out.later hA)
            clear hA HI
            have HLo := Aside0.mk (Kd.R_reads' HJ.out.own)
            go_wp2_with fail
            refine (word_any T n A1 c1 A2 c2 A3 c3 Ao co own _ (HN.out.below HJ.out.below) HNb.out.1 HNb.out.2.1 HNb.out.2.2 HLo.out.2.2 HKk.out HVi.out (HT.out.below HJ.out.below)).mono ?_
            rintro e w5 ⟨rfl, hB5⟩
            have HK := Aside0.mk (HJ.out.later hB5)
            clear hB5 HJ y0 y1 y2 y3 HLo
            have HWl := Aside0.mk (keyW_of (nodeW_len T HNb.out.1 HNb.out.2.1 HNb.out.2.2 HKk.out HVi.out))
            clear HN
            generalize nodeW T n own = x at HTk3 HWl ⊢
            by_cases hin : x ∈ us
            · have HV := Aside0.mk (numF_in hin (.int .i64 0))
              have ha : addW us x = us := by unfold addW; rw [if_pos hin]
              rw [ha] at HTk3
              have hjn := hnl
              generalize us.idxOf x = ix at HTk3 HV
              go_wp2_with (first
                | (at_lookup; refine wpList_lookup_F_ok _ rfl (.tmp 35) (.tmp 36) 53 rfl 9 3 keyW Tryd.underlying53 (zeroIW _) mb us.length (numF us) rfl HK.out.map.toF (.string ⟨x.toArray⟩) (.string x) rfl HWl.out (.int .i64 (ix : Int)) HV.out.1 true HV.out.2 ?_)
                | (at_lookup; refine wpList_lookup_F _ rfl (.tmp 47) (.tmp 48) 53 rfl 9 3 keyW Tryd.underlying53 (zeroIW _) mb us.length (numF us) rfl HK.out.map.toF (.string ⟨x.toArray⟩) (.string x) rfl HWl.out (.int .i64 (ix : Int)) HV.out.1 ?_)
                | (at_builtin; refine Kd.R_append (Kd.int .i64) (w0 := w) w.heap.size rfl (.tmp 46) (.tmp 50) 31 3 (.int .i64 0) 8 rfl Tryd.underlying31 info_int rfl (by decide) (by omega) (.slice Ao own.length co) own (ix : Int) [.int .i64 (ix : Int)] (fun q => wg.heap.size ≤ q) (fun _ => False) rfl (by go_simp) rfl (fun _ h => h.elim) (fun k hk => Nat.le_trans HK.out.grown.size hk) HK.out.own HK.out.below HK.out.below.size (by have := HLn.out; omega) ?_; intro v7 w7 hR7 hB7 hg7 _; have HL := Aside0.mk (HK.out.pushed hR7 hB7 hg7); clear hR7 hB7 hg7))
              go_roundw
              case rel =>
                refine ⟨j + 1, _, by omega, by go_num, rfl, ?_⟩
                rw [HTk2.out, HTk3.out]
                exact HL
              case measure => simp [intOf]; omega
            · have HV := Aside0.mk (numF_out hin (.int .i64 0))
              have HIn := Aside0.mk hin
              have ha : addW us x = us ++ [x] := by unfold addW; rw [if_neg hin]
              have HV2 := Aside0.mk (numF_in (vs := us ++ [x]) (x := x) (by simp) (.int .i64 0))
              rw [ha] at HTk3
              have hjn := hnl
              have hul : us.length < maxLen := by have := HUb.out; unfold maxLen; omega
              have HMb := Aside0.mk HO2.out.ge
              clear hin ha
              generalize hix : (us ++ [x]).idxOf x = ix at HTk3 HV2
              clear hix
              go_wp2_with (first
                | (at_lookup; refine wpList_lookup_F_ok _ rfl (.tmp 35) (.tmp 36) 53 rfl 9 3 keyW Tryd.underlying53 (zeroIW _) mb us.length (numF us) rfl HK.out.map.toF (.string ⟨x.toArray⟩) (.string x) rfl HWl.out (.int .i64 0) HV.out.1 false HV.out.2.1 ?_)
                | (at_len; refine wpList_len_N _ rfl (.tmp 44) 53 rfl 9 3 Tryd.underlying53 mb us.length (numF us) rfl HK.out.map ?_)
                | (at_mapUpdate; refine wpList_update_N _ rfl (.tmp 42) (.tmp 43) _ 53 rfl 9 3 keyW Tryd.underlying53 mb us.length (numF us) rfl HK.out.map hul (.string ⟨x.toArray⟩) (.int .i64 (us.length : Int)) (.string x) rfl rfl HWl.out HV.out.2.2 ?_; intro w6 hM6 hg6; have HP := Aside0.mk (HK.out.put HIn.out hM6 hg6 HMb.out); clear hM6 hg6)
                | (at_lookup; refine wpList_lookup_F _ rfl (.tmp 47) (.tmp 48) 53 rfl 9 3 keyW Tryd.underlying53 (zeroIW _) mb (us ++ [x]).length (numF (us ++ [x])) rfl HP.out.map.toF (.string ⟨x.toArray⟩) (.string x) rfl HWl.out (.int .i64 (ix : Int)) HV2.out.1 ?_)
                | (at_builtin; refine Kd.R_append (Kd.int .i64) (w0 := w) w.heap.size rfl (.tmp 46) (.tmp 50) 31 3 (.int .i64 0) 8 rfl Tryd.underlying31 info_int rfl (by decide) (by omega) (.slice Ao own.length co) own (ix : Int) [.int .i64 (ix : Int)] (fun q => wg.heap.size ≤ q) (fun _ => False) rfl (by go_simp) rfl (fun _ h => h.elim) (fun k hk => Nat.le_trans HP.out.grown.size hk) HP.out.own HP.out.below HP.out.below.size (by have := HLn.out; omega) ?_; intro v7 w7 hR7 hB7 hg7 _; have HL := Aside0.mk (HP.out.pushed hR7 hB7 hg7); clear hR7 hB7 hg7))
              go_roundw
              case rel =>
                refine ⟨j + 1, _, by omega, by go_num, rfl, ?_⟩
                rw [HTk2.out, HTk3.out]
                exact HL
              case measure => simp [intOf]; omega
          · obtain rfl : j = s.nodes.length := by omega
            rw [List.take_length] at HI
            have HOut := Aside0.mk (HI.out.whole HO2.out)
            have HMb := Aside0.mk HO2.out.ge
            have hol := HOl.out
            obtain ⟨Ao, co, hv8⟩ := Kd.R_slice HI.out.own
            subst hv8
            generalize ownS T vs s.nodes = st at HI HAll
            obtain ⟨us, own⟩ := st
            have HI : Aside0 (ClsIn w wg mb us own (.slice Ao own.length co) wr) := HI
            have HAll : Aside0 (allS T (l.take (i + 1)) = (us, outs ++ [own])) := HAll
            clear hjl hj HO2
            go_wp2_with (at_builtin; refine Kd.R_append kInts (w0 := w) w.heap.size rfl (.tmp 53) (.tmp 55) 25 31 (.slice none 0 0) 24 rfl Tryd.underlying25 infoInts rfl (by decide) (by omega) vo outs own [.slice Ao own.length co] (fun _ => True) (fun q => wg.heap.size ≤ q) rfl (by go_simp) ⟨_, rfl, HI.out.own⟩ (fun k hk => ⟨trivial, fun e => by have := HOut.out.1 k e.symm; omega⟩) (fun _ _ => trivial) (Kd.R_mono HOut.out (fun _ _ => trivial)) HI.out.below HI.out.below.size (by omega) ?_; intro v7 w7 hR7 hB7 hg7 _; have HL := Aside0.mk (ClsOut.pushed HI.out HOut.out hR7 hB7 hg7 HMb.out); clear hR7 hB7 hg7)
            go_roundw
            case rel =>
              refine ⟨i + 1, _, by omega, by go_num, rfl, HCi, ?_⟩
              rw [HAll.out]
              exact HL
            case measure => simp [intOf]; omega
    · obtain rfl : i = l.length := by omega
      rw [List.take_length] at HO
      go_wp2
      go_ret2
      exact ⟨HO.out.below, .inl ⟨HC.out, _, rfl, HO.out.out⟩⟩
end Go.Proofs.YtdfneldenipljaaDoor.L
end
section
namespace Go.Proofs.YtdfneldenipljaaDoor.L
open Go.RowKit Go.ChangeShapes Go.WideShapes Go.Proofs.YtdfneldenipljaaDoorW.PrintWords Go.Proofs.YtdfneldenipljaaDoorW.PrintLast Go.Proofs.YtdfneldenipljaaDoorW.PrintMore
attribute [local go_sem] max2_int min2_int max_two min_two max_three min_three max_four min_four
theorem sum_map_le {f : Nat → Nat} {b : Nat} : ∀ l : List Nat, (∀ x ∈ l, f x ≤ b) → (l.map f).sum ≤ l.length * b
  | [], _ => by simp
  | x :: l, h => by
    have h1 := sum_map_le l (fun y hy => h y (by simp [hy]))
    have h2 := h x (by simp)
    rw [List.map_cons, List.sum_cons, List.length_cons, Nat.succ_mul]
    omega
theorem rows_leB {ns : List Node} {b : Nat} (h : ∀ i : Nat, i < ns.length → (nd ns i).kids.length ≤ b) : rows ns ≤ ns.length * (b + 1) := by
  unfold rows
  have := sum_map_le (f := wt ns) (b := b + 1) (List.range ns.length) (fun x hx => by
    have := h x (List.mem_range.1 hx)
    unfold wt; omega)
  rwa [List.length_range] at this
theorem greatC_bd {s : Scene} (hg : greatC s = false) (hN : ∀ i : Nat, i < s.nodes.length → NBd (nd s.nodes i)) : ScBd s ∧ s.nodes.length ≤ 25 := by
  unfold greatC at hg
  obtain ⟨h1, h2⟩ := Bool.or_eq_false_iff.1 hg
  have h2 := of_decide_eq_false h2
  have h1 := of_decide_eq_false h1
  have hn : ∀ i : Nat, i < s.nodes.length → greatN (nd s.nodes i) = false := fun i hi => Bool.eq_false_iff.2 (fun e => h1 (.inr (.inr ⟨i, hi, e⟩)))
  have key : ∀ i : Nat, i < s.nodes.length → Small (nd s.nodes i) ∧ (∀ x ∈ (nd s.nodes i).texts, x.size ≤ 500) ∧ (nd s.nodes i).kids.length ≤ 300 := fun i hi => by
    have h3 := of_decide_eq_false (hn i hi)
    have a1 : ¬ 100 < (nd s.nodes i).ints.length := fun e => h3 (.inl e)
    have a2 : ¬ 100 < (nd s.nodes i).texts.length := fun e => h3 (.inr (.inl e))
    have a3 : ¬ 300 < (nd s.nodes i).kids.length := fun e => h3 (.inr (.inr (.inl e)))
    refine ⟨⟨by omega, by omega, by omega⟩, fun x hx => ?_, by omega⟩
    obtain ⟨j, hj, rfl⟩ := List.getElem_of_mem hx
    refine Classical.byContradiction fun hb => h3 (.inr (.inr (.inr ⟨j, hj, ?_⟩)))
    unfold str
    rw [List.getD_eq_getElem?_getD, List.getElem?_eq_getElem hj]
    show 500 < ((nd s.nodes i).texts[j]).size
    omega
  refine ⟨⟨fun i hi => ⟨(key i hi).1, fun x hx => Nat.le_trans ((key i hi).2.1 x hx) (by omega), hN i hi⟩, ?_⟩, by omega⟩
  have := rows_leB (ns := s.nodes) (b := 300) (fun i hi => (key i hi).2.2)
  have h4 : s.nodes.length * (300 + 1) ≤ 25 * 301 := Nat.mul_le_mul (by omega) (by omega)
  omega
theorem great2 {a b : Scene} (h : great19 [a, b] = false) : greatC a = false ∧ greatC b = false := by
  have h1 := of_decide_eq_false h
  refine ⟨Bool.eq_false_iff.2 (fun e => h1 (.inr ⟨0, by simp, e⟩)), Bool.eq_false_iff.2 (fun e => h1 (.inr ⟨1, by simp, e⟩))⟩
theorem parts_eq (T : Lib.PrintTabs) {a b : Scene} (ha : AheadN a.nodes) (hb : AheadN b.nodes) : ∃ o1 o2, (allS T [a, b, a]).2 = [o1, o2, o1] ∧ (allS T [a]).2 = [o1] := by
  have e1 : (allS T [a]).2 = [(ownS T [] a.nodes).2] := rfl
  have e3 : (allS T [a, b, a]).2 = [(ownS T [] a.nodes).2, (ownS T (ownS T [] a.nodes).1 b.nodes).2, (ownS T (ownS T (ownS T [] a.nodes).1 b.nodes).1 a.nodes).2] := rfl
  have h1 := own_spec T [] ha
  have h2 := own_spec T (ownS T [] a.nodes).1 hb
  have h3 := own_spec T (ownS T (ownS T [] a.nodes).1 b.nodes).1 ha
  have e := numd_uniq ha h3.numd (h1.numd.pre (h2.pre.trans h3.pre))
  exact ⟨_, _, by rw [e3, e], e1⟩
end Go.Proofs.YtdfneldenipljaaDoor.L
end
section
namespace Go.Proofs.YtdfneldenipljaaDoor.L
open Go.RowKit Go.ChangeShapes Go.WideShapes Go.Proofs.YtdfneldenipljaaDoorW.PrintWords Go.Proofs.YtdfneldenipljaaDoorW.PrintLast Go.Proofs.YtdfneldenipljaaDoorW.PrintMore
attribute [local go_sem] max2_int min2_int max_two min_two max_three min_three max_four min_four
def Lits {α : Type} (d : Kd α) (W : World) : List α → List Value → Prop
  | [], cs => cs = []
  | p :: ps, cs => ∃ c r, cs = c ++ r ∧ d.K W p c ∧ Lits d W ps r
theorem Lits.reps {α : Type} {d : Kd α} {W : World} : ∀ (ps : List α) (cs : List Value) (qs : List α) (ds : List Value), Lits d W ps cs → Reps (d.K W) d.sz qs ds → Reps (d.K W) d.sz (qs ++ ps) (ds ++ cs)
  | [], cs, qs, ds, h, hr => by
    obtain rfl : cs = [] := h
    simpa using hr
  | p :: ps, cs, qs, ds, h, hr => by
    obtain ⟨c, r, rfl, hk, hl⟩ := h
    have := Lits.reps ps r (qs ++ [p]) (ds ++ c) hl (Reps.snoc hr hk (d.K_len hk))
    simpa using this
theorem C_lits {α : Type} (d : Kd α) (W : World) (e n : Nat) (hn : W.heap.size = n) (ps : List α) (cs : List Value) (h : Lits d W ps cs) (hm : ps.length ≤ 1000000) {ca : Array Value} (hca : ca = cs.toArray) :
    d.C (W.alloc (.cells ca e)) (some ⟨n, 0, none⟩) ps.length ps := by
  subst hn hca
  have hr := Lits.reps ps cs [] [] h (Reps.none _ _)
  rw [List.nil_append, List.nil_append] at hr
  have hb : Below W.heap.size W (W.alloc (.cells cs.toArray e)) := below_alloc (Below.refl _ _) _
  refine ⟨rfl, by omega, fun _ => ⟨_, rfl, fun j p hj => ?_⟩⟩
  have hk := hr.2 j p hj
  refine ⟨_, d.K_len hk, d.K_below hb hk, fun q u hu => ?_⟩
  have hh : (W.alloc (.cells cs.toArray e)).heap[W.heap.size]? = some (.cells cs.toArray e (0, 0)) := by simpa using heap_alloc_new W _
  rw [Go.Proofs.YtdfneldenipljaaDoorW.PrintWords.add_plain, blk_cell hh]
  rw [List.getElem?_take] at hu
  split at hu
  · rw [List.getElem?_drop] at hu
    simpa using hu
  · cases hu
end Go.Proofs.YtdfneldenipljaaDoor.L
end
section
namespace Go.Proofs.YtdfneldenipljaaDoor.L
open Go.RowKit Go.ChangeShapes Go.WideShapes Go.Proofs.YtdfneldenipljaaDoorW.PrintWords Go.Proofs.YtdfneldenipljaaDoorW.PrintLast Go.Proofs.YtdfneldenipljaaDoorW.PrintMore
attribute [local go_sem] max2_int min2_int max_two min_two max_three min_three max_four min_four
theorem scK {w : World} {A : Option Addr} {c : Nat} {s : Scene} (h : kNode.C w A s.nodes.length s.nodes) (hc : s.nodes.length ≤ c) : kScene.K w s [.slice A s.nodes.length c, .int .i64 s.root] := ⟨_, _, rfl, ⟨A, c, rfl, hc, h⟩, rfl⟩
theorem sc_row1 (w : World) (g : Nat) (hg : w.heap.size = g) {a : Scene} {x0 x1 : Value} (ha : kScene.K w a [x0, x1]) : kScene.C (w.alloc (.cells #[x0, x1] 34)) (some ⟨g, 0, none⟩) 1 [a] := by
  subst hg
  exact C_lits kScene _ 34 _ rfl [a] _ ⟨_, _, (show _ = [_, _] ++ [] from rfl), ha, rfl⟩ (by simp) rfl
theorem sc_row2 (w : World) (g : Nat) (hg : w.heap.size = g) {a b : Scene} {x0 x1 y0 y1 : Value} (ha : kScene.K w a [x0, x1]) (hb : kScene.K w b [y0, y1]) : kScene.C (w.alloc (.cells #[x0, x1, y0, y1] 34)) (some ⟨g, 0, none⟩) 2 [a, b] := by
  subst hg
  exact C_lits kScene _ 34 _ rfl [a, b] _ ⟨_, _, (show _ = [_, _] ++ [_, _] from rfl), ha, _, _, (show _ = [_, _] ++ [] from rfl), hb, rfl⟩ (by simp) rfl
theorem sc_row3 (w : World) (g : Nat) (hg : w.heap.size = g) {a b c : Scene} {x0 x1 y0 y1 z0 z1 : Value} (ha : kScene.K w a [x0, x1]) (hb : kScene.K w b [y0, y1]) (hc : kScene.K w c [z0, z1]) : kScene.C (w.alloc (.cells #[x0, x1, y0, y1, z0, z1] 34)) (some ⟨g, 0, none⟩) 3 [a, b, c] := by
  subst hg
  exact C_lits kScene _ 34 _ rfl [a, b, c] _ ⟨_, _, (show _ = [_, _] ++ [_, _, _, _] from rfl), ha, _, _, (show _ = [_, _] ++ [_, _] from rfl), hb, _, _, (show _ = [_, _] ++ [] from rfl), hc, rfl⟩ (by simp) rfl
def kA : Node := ⟨3, [], [], []⟩
def kB : Node := ⟨1, [], [], [0, 1]⟩
def sK : Scene := ⟨[kA, kA, kB], 2⟩
theorem sK_ahead : AheadN sK.nodes := fun p hp k hk => by
  have hp : p < 3 := hp
  match p, hp with
  | 0, _ => cases hk
  | 1, _ => cases hk
  | 2, _ =>
    have hk : k ∈ [(0 : Int), 1] := hk
    simp at hk
    omega
theorem sK_right : Right sK := by
  refine ⟨by show (0 : Int) ≤ 2; omega, by show (2 : Int) < 3; omega, ahead_places sK_ahead, ahead_cyc sK_ahead, fun p hp => ?_⟩
  have hp : p < 3 := hp
  have h2 : Rch sK.nodes [sK.root] 2 := .base (by simp [sK])
  match p, hp with
  | 0, _ => exact .step h2 (show (0 : Int) ∈ [(0 : Int), 1] by simp)
  | 1, _ => exact .step h2 (show (1 : Int) ∈ [(0 : Int), 1] by simp)
  | 2, _ => exact h2
theorem sK_ord : ord sK = [0, 1, 2] := by
  have hd := sK_right.dag
  have p0 : Pl sK.nodes 0 := ⟨by omega, by show (0 : Int) < 3; omega⟩
  have p1 : Pl sK.nodes 1 := ⟨by omega, by show (1 : Int) < 3; omega⟩
  have p2 : Pl sK.nodes 2 := ⟨by omega, by show (2 : Int) < 3; omega⟩
  have k0 : kids sK.nodes 0 = [] := rfl
  have k1 : kids sK.nodes 1 = [] := rfl
  have k2 : kids sK.nodes 2 = [0, 1] := rfl
  show M sK.nodes 2 [] = _
  rw [M_out hd p2 (by simp), k2, ML_cons, M_out hd p0 (by simp), k0, ML_cons]
  show M sK.nodes 1 [0] ++ [2] = _
  rw [M_out hd p1 (by simp), k1]
  rfl
theorem sK_c : isC sK = true := by
  refine (isC_iff sK_right).2 ?_
  have hc : canonL sK = sK.nodes := by
    unfold canonL
    rw [sK_ord]
    show [relab sK kA, relab sK kA, relab sK kB] = _
    have e1 : relab sK kA = kA := rfl
    have e2 : relab sK kB = kB := by
      unfold relab idx
      rw [sK_ord]
      rfl
    rw [e1, e2]
    rfl
  rw [hc]
  rfl
theorem none_c : isC ⟨[], 0⟩ = false := Bool.eq_false_iff.2 fun h => by
  have := (isC_right h).r1
  simp at this
theorem sK_all (T : Lib.PrintTabs) : (allS T [sK]).2 = [[0, 0, 1]] := by
  have h1 : nodeW T kA [0] = nodeW T kA [] := (nodeW_inj T).2 ⟨rfl, rfl, rfl, rfl⟩
  have hne : ¬ nodeW T kB [0, 0] = nodeW T kA [] := fun e => absurd ((nodeW_inj T).1 e).1 (by decide)
  have hn2 : ¬ nodeW T kA [] = nodeW T kB [0, 0] := fun e => hne e.symm
  have hb : (nodeW T kA [] == nodeW T kB [0, 0]) = false := beq_eq_false_iff_ne.2 hn2
  simp [allS, ownS, numStep, addW, sK, h1, hne, hn2, List.idxOf_cons, hb]
theorem sK_bd : ScBd sK := by
  refine ⟨fun i hi => ?_, by decide⟩
  have hi : i < 3 := hi
  have hA : Small kA ∧ (∀ x ∈ kA.texts, x.size ≤ 1000000) ∧ NBd kA := ⟨⟨by decide, by decide, by decide⟩, (fun x hx => by cases hx), ⟨⟨by decide, by decide⟩, (fun x hx => by cases hx)⟩⟩
  match i, hi with
  | 0, _ => exact hA
  | 1, _ => exact hA
  | 2, _ => exact ⟨⟨by decide, by decide, by decide⟩, (fun x hx => by cases hx), ⟨⟨by decide, by decide⟩, (fun x hx => by cases hx)⟩⟩
theorem none_bd : ScBd ⟨[], 0⟩ := ⟨fun i hi => absurd hi (Nat.not_lt_zero _), by decide⟩
end Go.Proofs.YtdfneldenipljaaDoor.L
end
section
namespace Go.Proofs.YtdfneldenipljaaDoor.L
open Go.RowKit Go.ChangeShapes Go.WideShapes Go.Proofs.YtdfneldenipljaaDoorW.PrintWords Go.Proofs.YtdfneldenipljaaDoorW.PrintLast Go.Proofs.YtdfneldenipljaaDoorW.PrintMore
attribute [local go_sem] max2_int min2_int max_two min_two max_three min_three max_four min_four
theorem at_ints {w : World} {A : Option Addr} {n : Nat} {xs : List (List Int)} (h : kInts.C w A n xs) (i : Nat) (h1 : i < n) :
    ∃ ad B d, A = some ad ∧ w.cell? (ad.add i) = some (.slice B (xs.getD i []).length d) ∧ (xs.getD i []).length ≤ d ∧ (Kd.int .i64).C w B (xs.getD i []).length (xs.getD i []) := by
  obtain ⟨ad, c, e, _, hK, hc0⟩ := Kd.C_get h [] (i : Int) (by omega) (by omega)
  have hK : kInts.K w (xs.getD i []) c := by simpa using hK
  obtain ⟨B, d, rfl, hl, hC⟩ := hK
  refine ⟨ad, B, d, e, ?_, hl, hC⟩
  have := hc0 0 _ rfl
  simpa [show kInts.sz = 1 from rfl] using this
abbrev oK1 : Obj := .cells #[.int .i64 0, .int .i64 1] 3
abbrev oK2 (g : Nat) : Obj := .cells #[.int .i64 3, .slice none 0 0, .slice none 0 0, .slice none 0 0, .int .i64 3, .slice none 0 0, .slice none 0 0, .slice none 0 0, .int .i64 1, .slice none 0 0, .slice none 0 0, .slice (some ⟨g, 0, none⟩) 2 2] 52
theorem kA_K (w : World) : kNode.K w kA [.int .i64 3, .slice none 0 0, .slice none 0 0, .slice none 0 0] := kNode_mk (x := kA) ⟨by simp [kA], by simp [kA], by simp [kA], C_nil _ _, C_nil _ _, C_nil _ _⟩
theorem sK_C (w : World) (g : Nat) (hg : w.heap.size = g) : kNode.C ((w.alloc oK1).alloc (oK2 g)) (some ⟨g + 1, 0, none⟩) 3 sK.nodes := by
  subst hg
  refine C_lits kNode _ 52 _ (by simp) [kA, kA, kB] _ ⟨_, _, (show _ = [_, _, _, _] ++ [_, _, _, _, _, _, _, _] from rfl), kA_K _, _, _, (show _ = [_, _, _, _] ++ [_, _, _, _] from rfl), kA_K _, _, _, (show _ = [_, _, _, _] ++ [] from rfl), ?_, rfl⟩ (by simp) rfl
  exact kNode_mk (x := kB) ⟨by simp [kB], by simp [kB], by simp [kB], C_nil _ _, C_nil _ _, C_ints w _ _ rfl [0, 1] (by simp) rfl⟩
theorem add_zero (ad : Addr) : ad.add (0 : Nat) = ad := by cases ad; simp [Addr.add]
set_option maxRecDepth 100000 in
set_option maxHeartbeats 4000000 in
theorem cawake_any (T : Lib.PrintTabs) (w : World) (hT : QTabs T w) : Calls Tryd.prog 13 #[] w fun e w' => e = .returned (.bool true) ∧ Below w.heap.size w w' := by
  have HT := Aside0.mk hT
  have hua := Tryd.underlying34
  have hun := Tryd.underlying52
  clear hT
  go_enter Tryd.func13, Tryd.ntmps13
  go_wp2_with fail
  have HS3 := Aside0.mk (Kd.C_alloc (sK_C w _ rfl) (.cells #[.slice (some ⟨w.heap.size + 1, 0, none⟩) 3 3, .int .i64 2] 34))
  have HB3 := Aside0.mk (below_alloc (below_alloc (below_alloc (Below.refl w.heap.size w) oK1) (oK2 w.heap.size)) (.cells #[.slice (some ⟨w.heap.size + 1, 0, none⟩) 3 3, .int .i64 2] 34))
  have k0 := box_cell ((w.alloc oK1).alloc (oK2 w.heap.size)) (w.heap.size + 1 + 1) (by simp) #[.slice (some ⟨w.heap.size + 1, 0, none⟩) 3 3, .int .i64 2] 34 0 _ rfl
  have k1 := box_cell ((w.alloc oK1).alloc (oK2 w.heap.size)) (w.heap.size + 1 + 1) (by simp) #[.slice (some ⟨w.heap.size + 1, 0, none⟩) 3 3, .int .i64 2] 34 1 _ rfl
  have HZ := Aside0.mk (show ((((w.alloc oK1).alloc (oK2 w.heap.size)).alloc (.cells #[.slice (some ⟨w.heap.size + 1, 0, none⟩) 3 3, .int .i64 2] 34))).heap.size = w.heap.size + 1 + 1 + 1 by simp)
  generalize ((w.alloc oK1).alloc (oK2 w.heap.size)).alloc (.cells #[.slice (some ⟨w.heap.size + 1, 0, none⟩) 3 3, .int .i64 2] 34) = w3 at HS3 HB3 k0 k1 HZ ⊢
  have hA3 := below_alloc (Below.refl w3.heap.size w3) (.cells #[.slice (some ⟨w.heap.size + 1, 0, none⟩) 3 3, .int .i64 2] 34)
  refine (numbers_any T _ 1 [sK] _ (sc_row1 w3 _ HZ.out (scK (s := sK) HS3.out (by decide))) (fun i hi => by
    obtain rfl : i = 0 := by simp at hi; omega
    exact sK_bd) (by simp) (HT.out.below (below_step HB3.out hA3))).mono ?_
  rintro e w5 ⟨hB5, (⟨-, v, rfl, hR5⟩ | ⟨⟨i, hi, hbad⟩, rfl⟩)⟩
  rotate_left
  · obtain rfl : i = 0 := by simp at hi; omega
    have h1 : isC sK = false := hbad
    rw [sK_c] at h1
    cases h1
  replace k0 := pw_cell_below hB5 (pw_cell_below hA3 k0)
  replace k1 := pw_cell_below hB5 (pw_cell_below hA3 k1)
  have HB5 := Aside0.mk (below_step (below_step HB3.out hA3) hB5)
  have HS5 := Aside0.mk (Kd.C_below (Kd.C_below HS3.out hA3) hB5)
  rw [sK_all] at hR5
  obtain ⟨A5, c5, hv5⟩ := Kd.R_slice hR5
  subst hv5
  have HL5 := Aside0.mk (Kd.R_reads' hR5).2.2
  clear hR5 hB5 hA3 HS3 HB3
  go_wp2_with fail
  have hA5 := below_alloc (Below.refl w5.heap.size w5) (.cells #[.slice (some ⟨w.heap.size + 1, 0, none⟩) 3 3, .int .i64 2, .slice none 0 0, .int .i64 0] 34)
  refine (numbers_any T _ 2 [sK, ⟨[], 0⟩] _ (sc_row2 w5 _ rfl (scK (s := sK) HS5.out (by decide)) (scK (s := ⟨[], 0⟩) (C_nil _ _) (by decide))) (fun i hi => by
    have hi : i < 2 := hi
    match i, hi with
    | 0, _ => exact sK_bd
    | 1, _ => exact none_bd) (by simp) (HT.out.below (below_step HB5.out hA5))).mono ?_
  rintro e w6 ⟨hB6, (⟨hall, -⟩ | ⟨-, rfl⟩)⟩
  · have h1 : isC ⟨[], 0⟩ = true := hall 1 (by simp)
    rw [none_c] at h1
    cases h1
  have HB6 := Aside0.mk (below_step (below_step HB5.out hA5) hB6)
  have HL6 := Aside0.mk (Kd.C_below (Kd.C_below HL5.out hA5) hB6)
  clear hB6 hA5 HL5 HS5 HB5 k0 k1
  go_wp2_with fail
  refine (numbers_any T none 0 [] _ (C_nil _ _) (fun i hi => by simp at hi) (by simp) (HT.out.below HB6.out)).mono ?_
  rintro e w7 ⟨hB7, (⟨-, v, rfl, hR7⟩ | ⟨⟨i, hi, hbad⟩, rfl⟩)⟩
  rotate_left
  · simp at hi
  obtain ⟨A7, c7, hv7⟩ := Kd.R_slice hR7
  subst hv7
  have HB7 := Aside0.mk (below_step HB6.out hB7)
  have HL7 := Aside0.mk (Kd.C_below HL6.out hB7)
  have e7 : (allS T []).2.length = 0 := rfl
  rw [e7]
  clear hB7 hR7 HL6 HB6 e7
  obtain ⟨ad, B, d, rfl, x0, hd, hC⟩ := at_ints HL7.out 0 (by simp)
  have HC := Aside0.mk (show (Kd.int .i64).C w7 B 3 [0, 0, 1] from hC)
  have x0 : w7.cell? ad = some (.slice B 3 d) := by
    rw [add_zero ad] at x0
    exact x0
  clear hC hd
  go_wp2_with fail
  refine (ints_any B d [0, 0, 1] (some ⟨w7.heap.size, 0, none⟩) 3 [0, 0, 1] _ (Kd.C_alloc HC.out _) (C_ints w7 _ _ rfl [0, 0, 1] (by simp) rfl)).mono ?_
  rintro e w8 ⟨rfl, hB8⟩
  have HB8 := Aside0.mk (below_step HB7.out (below_step (below_alloc (Below.refl w7.heap.size w7) _) hB8))
  clear hB8 x0
  go_wp2
  go_ret
  exact ⟨by first | rfl | (simp; done), HB8.out⟩
end Go.Proofs.YtdfneldenipljaaDoor.L
end
