/- Part 8 of the texts that YtggldnbhmebcpaaDoorRowMC rests on, joined by a program: what its functions come to. Conditions: those that each theorem states. -/
import Derived.Test.YtggldnbhmebcpaaDoorQjg
set_option linter.unusedVariables false
set_option linter.unusedSimpArgs false
section
namespace Go.Proofs.YtggldnbhmebcpaaDoor.L
open Go.RowKit Go.ChangeShapes Go.WideShapes Go.Proofs.YtggldnbhmebcpaaDoorW.PrintWords Go.Proofs.YtggldnbhmebcpaaDoorW.PrintLast Go.Proofs.YtggldnbhmebcpaaDoorW.PrintMore
attribute [local go_sem] max2_int min2_int max_two min_two max_three min_three max_four min_four
theorem R_apart {α β : Type} {d : Kd α} {d' : Kd β} {e e' : Nat} {w : World} {b b' : Nat} {ok ok' : Nat → Prop} {v v' : Value} {xs : List α} {ys : List β} (h : d.R e w b ok v xs) (h' : d'.R e' w b' ok' v' ys) (hT : e ≠ e') (k : Nat) (hk : some k = v.ownBlock) : some k ≠ v'.ownBlock := fun hk' => by
  obtain ⟨c1, e1⟩ := Kd.R_typed h k hk.symm
  obtain ⟨c2, e2⟩ := Kd.R_typed h' k hk'.symm
  rw [e1] at e2
  injection e2 with e2
  injection e2 with _ e2
  exact hT e2
structure CnRel (w1 : World) (root : Int) (xs : List Node) (v4 : Value) (W : World) : Prop where
  below : Below w1.heap.size w1 W
  out : W.heap[w1.heap.size]? = some (.cells #[v4, .int .i64 root] 24 (0, 0))
  row : kNode.R 46 W w1.heap.size (fun _ => True) v4 xs
theorem CnRel.start (w1 : World) (root : Int) : CnRel w1 root [] (.slice none 0 0) (w1.alloc (.cells #[.slice none 0 0, .int .i64 root] 24)) :=
  ⟨below_alloc (Below.refl _ _) _, by simpa using heap_alloc_new w1 _, Kd.R_nil _ _ _ _ _⟩
theorem CnRel.later {w1 : World} {root : Int} {xs : List Node} {v4 : Value} {W W1 : World} (h : CnRel w1 root xs v4 W) (hb : Below W.heap.size W W1) : CnRel w1 root xs v4 W1 :=
  ⟨below_step h.below hb, (hb.block _ (blk_lt h.out)).trans h.out, Kd.R_below h.row hb⟩
theorem CnRel.drewN {w1 : World} {root : Int} {xs : List Node} {v4 : Value} {W : World} (h : CnRel w1 root xs v4 W) (m : Nat) : CnRel w1 root xs v4 (W.drewN m) := h.later (pw_below_drewN (Below.refl _ _) m)
theorem CnRel.put {w1 : World} {root : Int} {xs : List Node} {v4 v5 : Value} {ys : List Node} {W w2 : World} (h : CnRel w1 root xs v4 W) (hR : kNode.R 46 w2 w1.heap.size (fun _ => True) v5 ys) (hB : Below w1.heap.size w1 w2) (hg : W.grownBy w2 v4.ownBlock) :
    w2.heap[w1.heap.size]? = some (.cells #[v4, .int .i64 root] 24 (0, 0)) ∧ CnRel w1 root ys v5 (w2.setCell ⟨w1.heap.size, 0, none⟩ v5) := by
  have hb := blk_grown h.out hg (Kd.R_ne h.row h.out (by decide))
  refine ⟨hb, below_set hB (Nat.le_refl _), ?_, R_type hR hb (by decide) v5 0⟩
  have := blk_set hb 0 v5
  simpa using this
theorem node_off {W : World} {base : Nat} {n : Node} {v1 v2 v3 v4 : Value} {xs : List Node} (h1 : (Kd.int .i64).R 2 W base (fun _ => True) v1 n.ints) (h2 : Kd.string.R 9 W base (fun _ => True) v2 n.texts) (h3 : (Kd.int .i64).R 3 W base (fun _ => True) v3 n.kids)
    (h : kNode.R 46 W base (fun _ => True) v4 xs) : kNode.M W base (fun k => some k ≠ v4.ownBlock) n [.int .i64 n.kind, v1, v2, v3] :=
  kNode_mkM (Kd.R_mono (Kd.R_tight rfl h1) (fun k hk => R_apart h1 h (by decide) k hk)) (Kd.R_mono (Kd.R_tight rfl h2) (fun k hk => R_apart h2 h (by decide) k hk)) (Kd.R_mono (Kd.R_tight rfl h3) (fun k hk => R_apart h3 h (by decide) k hk))
end Go.Proofs.YtggldnbhmebcpaaDoor.L
end
section
namespace Go.Proofs.YtggldnbhmebcpaaDoor.L
open Go.RowKit Go.ChangeShapes Go.WideShapes Go.Proofs.YtggldnbhmebcpaaDoorW.PrintWords Go.Proofs.YtggldnbhmebcpaaDoorW.PrintLast Go.Proofs.YtggldnbhmebcpaaDoorW.PrintMore
attribute [local go_sem] max2_int min2_int max_two min_two max_three min_three max_four min_four
structure PF (w : World) (g r : Nat) (cs : Array Value) (W : World) (v1 v2 v3 : Value) (l1 : List Int) (l2 : List ByteArray) (l3 : List Int) : Prop where
  below : Below w.heap.size w W
  box : W.heap[g]? = some (.cells cs 46 (0, 0))
  res : W.heap[r]? = some (.cells #[.int .i64 0, .slice none 0 0, .slice none 0 0, .slice none 0 0] 46 (0, 0))
  r1 : (Kd.int .i64).R 2 W w.heap.size (fun _ => True) v1 l1
  r2 : Kd.string.R 9 W w.heap.size (fun _ => True) v2 l2
  r3 : (Kd.int .i64).R 3 W w.heap.size (fun _ => True) v3 l3
section
variable {w : World} {g r : Nat} {cs : Array Value} {W W1 : World} {v1 v2 v3 : Value} {l1 : List Int} {l2 : List ByteArray} {l3 : List Int}
theorem PF.later (h : PF w g r cs W v1 v2 v3 l1 l2 l3) (hb : Below W.heap.size W W1) : PF w g r cs W1 v1 v2 v3 l1 l2 l3 :=
  ⟨below_step h.below hb, (hb.block _ (blk_lt h.box)).trans h.box, (hb.block _ (blk_lt h.res)).trans h.res, Kd.R_below h.r1 hb, Kd.R_below h.r2 hb, Kd.R_below h.r3 hb⟩
theorem PF.alloc (h : PF w g r cs W v1 v2 v3 l1 l2 l3) (o : Obj) : PF w g r cs (W.alloc o) v1 v2 v3 l1 l2 l3 := h.later (below_alloc (Below.refl _ _) o)
theorem PF.drew (h : PF w g r cs W v1 v2 v3 l1 l2 l3) : PF w g r cs W.drew v1 v2 v3 l1 l2 l3 := h.later (below_drew (Below.refl _ _))
theorem PF.lives (h : PF w g r cs W v1 v2 v3 l1 l2 l3) : Lives 4 r W := ⟨_, rfl, _, h.res⟩
theorem PF.cell (h : PF w g r cs W v1 v2 v3 l1 l2 l3) (i : Nat) {v : Value} (hv : cs[i]? = some v) : W.cell? ⟨g, i, none⟩ = some v := (blk_cell h.box i).trans hv
theorem PF.lit1 (h : PF w g r cs W v1 v2 v3 l1 l2 l3) (b : Nat) (hb : b = W.heap.size) : PF w g r cs (W.alloc (.cells #[] 2)) (.slice (some ⟨b, 0, none⟩) 0 0) v2 v3 [] l2 l3 := by
  subst hb
  have h' := h.alloc (.cells #[] 2)
  exact { h' with r1 := R_empty _ _ _ _ h.below.size }
theorem PF.lit1a (h : PF w g r cs W v1 v2 v3 l1 l2 l3) : PF w g r cs (W.alloc (.cells #[] 2)) (.slice (some ⟨W.heap.size, 0, none⟩) 0 0) v2 v3 [] l2 l3 := h.lit1 _ rfl
theorem PF.lit1b {o : Obj} (h : PF w g r cs (W.alloc o) v1 v2 v3 l1 l2 l3) : PF w g r cs ((W.alloc o).alloc (.cells #[] 2)) (.slice (some ⟨W.heap.size + 1, 0, none⟩) 0 0) v2 v3 [] l2 l3 := h.lit1 _ (by simp)
theorem PF.lit1c {o o' : Obj} (h : PF w g r cs ((W.alloc o).alloc o') v1 v2 v3 l1 l2 l3) : PF w g r cs (((W.alloc o).alloc o').alloc (.cells #[] 2)) (.slice (some ⟨W.heap.size + 1 + 1, 0, none⟩) 0 0) v2 v3 [] l2 l3 := h.lit1 _ (by simp)
theorem PF.app1 {b n c : Nat} {u : Value} {m : List Int} (h : PF w g r cs W (.slice (some ⟨b, 0, none⟩) n c) v2 v3 l1 l2 l3) (hR : (Kd.int .i64).R 2 W1 w.heap.size (fun _ => True) u m) (hB : Below w.heap.size w W1) (hg : W.grownBy W1 (Value.slice (some ⟨b, 0, none⟩) n c).ownBlock) : PF w g r cs W1 u v2 v3 m l2 l3 := by
  obtain ⟨cells, hc⟩ := Kd.R_typed h.r1 b rfl
  have hg' : W.grownBy W1 (some b) := hg
  refine ⟨hB, blk_grown h.box hg' (fun e => ?_), blk_grown h.res hg' (fun e => ?_), hR, Kd.R_grown1 h.r2 rfl hg (Kd.R_ne h.r2 hc (by decide)), Kd.R_grown1 h.r3 rfl hg (Kd.R_ne h.r3 hc (by decide))⟩
  · injection e with e
    have h1 := h.box
    rw [e, hc] at h1
    injection h1 with h1
    injection h1 with _ h1
    exact absurd h1 (by decide)
  · injection e with e
    have h1 := h.res
    rw [e, hc] at h1
    injection h1 with h1
    injection h1 with _ h1
    exact absurd h1 (by decide)
theorem PF.lit2 (h : PF w g r cs W v1 v2 v3 l1 l2 l3) (b : Nat) (hb : b = W.heap.size) : PF w g r cs (W.alloc (.cells #[] 9)) v1 (.slice (some ⟨b, 0, none⟩) 0 0) v3 l1 [] l3 := by
  subst hb
  have h' := h.alloc (.cells #[] 9)
  exact { h' with r2 := R_empty _ _ _ _ h.below.size }
theorem PF.lit2a (h : PF w g r cs W v1 v2 v3 l1 l2 l3) : PF w g r cs (W.alloc (.cells #[] 9)) v1 (.slice (some ⟨W.heap.size, 0, none⟩) 0 0) v3 l1 [] l3 := h.lit2 _ rfl
theorem PF.lit2b {o : Obj} (h : PF w g r cs (W.alloc o) v1 v2 v3 l1 l2 l3) : PF w g r cs ((W.alloc o).alloc (.cells #[] 9)) v1 (.slice (some ⟨W.heap.size + 1, 0, none⟩) 0 0) v3 l1 [] l3 := h.lit2 _ (by simp)
theorem PF.lit2c {o o' : Obj} (h : PF w g r cs ((W.alloc o).alloc o') v1 v2 v3 l1 l2 l3) : PF w g r cs (((W.alloc o).alloc o').alloc (.cells #[] 9)) v1 (.slice (some ⟨W.heap.size + 1 + 1, 0, none⟩) 0 0) v3 l1 [] l3 := h.lit2 _ (by simp)
theorem PF.app2 {b n c : Nat} {u : Value} {m : List ByteArray} (h : PF w g r cs W v1 (.slice (some ⟨b, 0, none⟩) n c) v3 l1 l2 l3) (hR : Kd.string.R 9 W1 w.heap.size (fun _ => True) u m) (hB : Below w.heap.size w W1) (hg : W.grownBy W1 (Value.slice (some ⟨b, 0, none⟩) n c).ownBlock) : PF w g r cs W1 v1 u v3 l1 m l3 := by
  obtain ⟨cells, hc⟩ := Kd.R_typed h.r2 b rfl
  have hg' : W.grownBy W1 (some b) := hg
  refine ⟨hB, blk_grown h.box hg' (fun e => ?_), blk_grown h.res hg' (fun e => ?_), Kd.R_grown1 h.r1 rfl hg (Kd.R_ne h.r1 hc (by decide)), hR, Kd.R_grown1 h.r3 rfl hg (Kd.R_ne h.r3 hc (by decide))⟩
  · injection e with e
    have h1 := h.box
    rw [e, hc] at h1
    injection h1 with h1
    injection h1 with _ h1
    exact absurd h1 (by decide)
  · injection e with e
    have h1 := h.res
    rw [e, hc] at h1
    injection h1 with h1
    injection h1 with _ h1
    exact absurd h1 (by decide)
theorem PF.lit3 (h : PF w g r cs W v1 v2 v3 l1 l2 l3) (b : Nat) (hb : b = W.heap.size) : PF w g r cs (W.alloc (.cells #[] 3)) v1 v2 (.slice (some ⟨b, 0, none⟩) 0 0) l1 l2 [] := by
  subst hb
  have h' := h.alloc (.cells #[] 3)
  exact { h' with r3 := R_empty _ _ _ _ h.below.size }
theorem PF.lit3a (h : PF w g r cs W v1 v2 v3 l1 l2 l3) : PF w g r cs (W.alloc (.cells #[] 3)) v1 v2 (.slice (some ⟨W.heap.size, 0, none⟩) 0 0) l1 l2 [] := h.lit3 _ rfl
theorem PF.lit3b {o : Obj} (h : PF w g r cs (W.alloc o) v1 v2 v3 l1 l2 l3) : PF w g r cs ((W.alloc o).alloc (.cells #[] 3)) v1 v2 (.slice (some ⟨W.heap.size + 1, 0, none⟩) 0 0) l1 l2 [] := h.lit3 _ (by simp)
theorem PF.lit3c {o o' : Obj} (h : PF w g r cs ((W.alloc o).alloc o') v1 v2 v3 l1 l2 l3) : PF w g r cs (((W.alloc o).alloc o').alloc (.cells #[] 3)) v1 v2 (.slice (some ⟨W.heap.size + 1 + 1, 0, none⟩) 0 0) l1 l2 [] := h.lit3 _ (by simp)
theorem PF.app3 {b n c : Nat} {u : Value} {m : List Int} (h : PF w g r cs W v1 v2 (.slice (some ⟨b, 0, none⟩) n c) l1 l2 l3) (hR : (Kd.int .i64).R 3 W1 w.heap.size (fun _ => True) u m) (hB : Below w.heap.size w W1) (hg : W.grownBy W1 (Value.slice (some ⟨b, 0, none⟩) n c).ownBlock) : PF w g r cs W1 v1 v2 u l1 l2 m := by
  obtain ⟨cells, hc⟩ := Kd.R_typed h.r3 b rfl
  have hg' : W.grownBy W1 (some b) := hg
  refine ⟨hB, blk_grown h.box hg' (fun e => ?_), blk_grown h.res hg' (fun e => ?_), Kd.R_grown1 h.r1 rfl hg (Kd.R_ne h.r1 hc (by decide)), Kd.R_grown1 h.r2 rfl hg (Kd.R_ne h.r2 hc (by decide)), hR⟩
  · injection e with e
    have h1 := h.box
    rw [e, hc] at h1
    injection h1 with h1
    injection h1 with _ h1
    exact absurd h1 (by decide)
  · injection e with e
    have h1 := h.res
    rw [e, hc] at h1
    injection h1 with h1
    injection h1 with _ h1
    exact absurd h1 (by decide)
theorem PF.step1 {ops : Array Oper} {o : Oper} {a : Act} {Q : Exit → Act → World → Prop} {Kc : Act → World → Prop} {b : Nat} {A : Option Addr} {c : Nat} {l : List Int} (s x : Operand) (h : PF w g r cs W (.slice (some ⟨b, 0, none⟩) 0 0) v2 v3 [] l2 l3) (hw : Region.wanted o (yielded ops a.tmps) = true)
    (ho : o.op = .call { callee := .builtin .append, args := #[s, x], argTypes := #[43, 43] }) (hs : a.eval s = .slice (some ⟨b, 0, none⟩) 0 0) (hx : a.eval x = .slice A l.length c) (hC : (Kd.int .i64).C w A l.length l) (hl : l.length ≤ 1000000)
    (hK : ∀ B d W1, PF w g r cs W1 (.slice B l.length d) v2 v3 l l2 l3 → Kc (a.put o.dst (.slice B l.length d)) W1) : if Region.wanted o (yielded ops a.tmps) = true then Oper.wp Tryd.prog o a W Kc Q else Kc (a.put o.dst undef) W := by
  refine Kd.R_append_rows_step (Kd.int .i64) (Rr := fun x cs => cs = [.int .i64 x]) (w0 := w) w.heap.size hw s x 43 2 (.int .i64 0) 8 ho Tryd.underlying43 info_i64 rfl (by decide) (by omega) _ [] l A l.length c (fun _ => True) (fun _ => False) hs hx h.r1 (Kd.C_below hC h.below) (fun _ _ h => h) (fun _ h => h.elim) (fun _ _ => trivial) h.below h.below.size (by simp; omega) ?_
  intro u W1 hR hB hg _
  obtain ⟨B, d, rfl⟩ := Kd.R_slice hR
  exact hK B d W1 (h.app1 hR hB hg)
theorem PF.step2 {ops : Array Oper} {o : Oper} {a : Act} {Q : Exit → Act → World → Prop} {Kc : Act → World → Prop} {b : Nat} {A : Option Addr} {c : Nat} {l : List ByteArray} (s x : Operand) (h : PF w g r cs W v1 (.slice (some ⟨b, 0, none⟩) 0 0) v3 l1 [] l3) (hw : Region.wanted o (yielded ops a.tmps) = true)
    (ho : o.op = .call { callee := .builtin .append, args := #[s, x], argTypes := #[44, 44] }) (hs : a.eval s = .slice (some ⟨b, 0, none⟩) 0 0) (hx : a.eval x = .slice A l.length c) (hC : Kd.string.C w A l.length l) (hl : l.length ≤ 1000000)
    (hK : ∀ B d W1, PF w g r cs W1 v1 (.slice B l.length d) v3 l1 l l3 → Kc (a.put o.dst (.slice B l.length d)) W1) : if Region.wanted o (yielded ops a.tmps) = true then Oper.wp Tryd.prog o a W Kc Q else Kc (a.put o.dst undef) W := by
  refine Kd.R_append_rows_step Kd.string (Rr := fun x cs => cs = [.string x]) (w0 := w) w.heap.size hw s x 44 9 (.string ByteArray.empty) 16 ho Tryd.underlying44 info_str rfl (by decide) (by omega) _ [] l A l.length c (fun _ => True) (fun _ => False) hs hx h.r2 (Kd.C_below hC h.below) (fun _ _ h => h) (fun _ h => h.elim) (fun _ _ => trivial) h.below h.below.size (by simp; omega) ?_
  intro u W1 hR hB hg _
  obtain ⟨B, d, rfl⟩ := Kd.R_slice hR
  exact hK B d W1 (h.app2 hR hB hg)
theorem PF.step3 {ops : Array Oper} {o : Oper} {a : Act} {Q : Exit → Act → World → Prop} {Kc : Act → World → Prop} {b : Nat} {A : Option Addr} {c : Nat} {l : List Int} (s x : Operand) (h : PF w g r cs W v1 v2 (.slice (some ⟨b, 0, none⟩) 0 0) l1 l2 []) (hw : Region.wanted o (yielded ops a.tmps) = true)
    (ho : o.op = .call { callee := .builtin .append, args := #[s, x], argTypes := #[27, 27] }) (hs : a.eval s = .slice (some ⟨b, 0, none⟩) 0 0) (hx : a.eval x = .slice A l.length c) (hC : (Kd.int .i64).C w A l.length l) (hl : l.length ≤ 1000000)
    (hK : ∀ B d W1, PF w g r cs W1 v1 v2 (.slice B l.length d) l1 l2 l → Kc (a.put o.dst (.slice B l.length d)) W1) : if Region.wanted o (yielded ops a.tmps) = true then Oper.wp Tryd.prog o a W Kc Q else Kc (a.put o.dst undef) W := by
  refine Kd.R_append_rows_step (Kd.int .i64) (Rr := fun x cs => cs = [.int .i64 x]) (w0 := w) w.heap.size hw s x 27 3 (.int .i64 0) 8 ho Tryd.underlying27 info_int rfl (by decide) (by omega) _ [] l A l.length c (fun _ => True) (fun _ => False) hs hx h.r3 (Kd.C_below hC h.below) (fun _ _ h => h) (fun _ h => h.elim) (fun _ _ => trivial) h.below h.below.size (by simp; omega) ?_
  intro u W1 hR hB hg _
  obtain ⟨B, d, rfl⟩ := Kd.R_slice hR
  exact hK B d W1 (h.app3 hR hB hg)
theorem PF.done {n : Node} (h : PF w g r cs W v1 v2 v3 n.ints n.texts n.kids) (hr : w.heap.size ≤ r) :
    kNode.M ((((W.setCell ⟨r, 0, none⟩ (.int .i64 n.kind)).setCell ⟨r, 1, none⟩ v1).setCell ⟨r, 2, none⟩ v2).setCell ⟨r, 3, none⟩ v3) w.heap.size (fun _ => True) n [.int .i64 n.kind, v1, v2, v3] ∧
    Below w.heap.size w ((((W.setCell ⟨r, 0, none⟩ (.int .i64 n.kind)).setCell ⟨r, 1, none⟩ v1).setCell ⟨r, 2, none⟩ v2).setCell ⟨r, 3, none⟩ v3) := by
  have hb0 := h.res
  have hb1 := blk_set hb0 0 (.int .i64 n.kind)
  have hb2 := blk_set hb1 1 v1
  have hb3 := blk_set hb2 2 v2
  refine ⟨kNode_mkM ?_ ?_ ?_, below_set4 h.below hr⟩
  · exact Kd.R_set (Kd.R_set (Kd.R_set (Kd.R_set h.r1 hb0 (by decide) _ _) hb1 (by decide) _ _) hb2 (by decide) _ _) hb3 (by decide) _ _
  · exact Kd.R_set (Kd.R_set (Kd.R_set (Kd.R_set h.r2 hb0 (by decide) _ _) hb1 (by decide) _ _) hb2 (by decide) _ _) hb3 (by decide) _ _
  · exact Kd.R_set (Kd.R_set (Kd.R_set (Kd.R_set h.r3 hb0 (by decide) _ _) hb1 (by decide) _ _) hb2 (by decide) _ _) hb3 (by decide) _ _
end
set_option maxRecDepth 100000 in
set_option maxHeartbeats 4000000 in
theorem rcopy_any (n : Node) (A1 : Option Addr) (c1 : Nat) (A2 : Option Addr) (c2 : Nat) (A3 : Option Addr) (c3 : Nat) (w : World) (h : NodeC w n A1 c1 A2 c2 A3 c3) (hs : Small n) :
    Calls Tryd.prog 27 #[.agg #[.int .i64 n.kind, .slice A1 n.ints.length c1, .slice A2 n.texts.length c2, .slice A3 n.kids.length c3]] w (CopyPost n w) := by
  have HN := Aside0.mk h
  have HS := Aside0.mk hs
  have HP : Aside0 (PF w w.heap.size (w.heap.size + 1) #[.int .i64 n.kind, .slice A1 n.ints.length c1, .slice A2 n.texts.length c2, .slice A3 n.kids.length c3] ((w.alloc (.cells #[.int .i64 n.kind, .slice A1 n.ints.length c1, .slice A2 n.texts.length c2, .slice A3 n.kids.length c3] 46)).alloc (.cells #[.int .i64 0, .slice none 0 0, .slice none 0 0, .slice none 0 0] 46)) (.slice none 0 0) (.slice none 0 0) (.slice none 0 0) [] [] []) := ⟨by
    have b1 := below_alloc (Below.refl w.heap.size w) (.cells #[.int .i64 n.kind, .slice A1 n.ints.length c1, .slice A2 n.texts.length c2, .slice A3 n.kids.length c3] 46)
    have n1 := heap_alloc_new w (.cells #[.int .i64 n.kind, .slice A1 n.ints.length c1, .slice A2 n.texts.length c2, .slice A3 n.kids.length c3] 46)
    generalize hw1 : w.alloc (.cells #[.int .i64 n.kind, .slice A1 n.ints.length c1, .slice A2 n.texts.length c2, .slice A3 n.kids.length c3] 46) = W1 at b1 n1 ⊢
    have s1 : W1.heap.size = w.heap.size + 1 := by rw [← hw1]; simp
    have b2 := below_alloc (Below.refl W1.heap.size W1) (.cells #[.int .i64 0, .slice none 0 0, .slice none 0 0, .slice none 0 0] 46)
    have n2 := heap_alloc_new W1 (.cells #[.int .i64 0, .slice none 0 0, .slice none 0 0, .slice none 0 0] 46)
    rw [s1] at n2
    exact ⟨below_step b1 b2, (b2.block _ (by omega)).trans n1, n2, Kd.R_nil _ _ _ _ _, Kd.R_nil _ _ _ _ _, Kd.R_nil _ _ _ _ _⟩⟩
  have hu := Tryd.underlying46
  clear h hs
  have hL0 := fun (W : World) (h : Lives 4 (w.heap.size + 1) W) => h.at 0 (by omega)
  have hL1 := fun (W : World) (h : Lives 4 (w.heap.size + 1) W) => h.at 1 (by omega)
  have hL2 := fun (W : World) (h : Lives 4 (w.heap.size + 1) W) => h.at 2 (by omega)
  have hL3 := fun (W : World) (h : Lives 4 (w.heap.size + 1) W) => h.at 3 (by omega)
  go_enter Tryd.func27, Tryd.ntmps27
  go_wp2_with fail
  generalize (w.alloc (.cells #[.int .i64 n.kind, .slice A1 n.ints.length c1, .slice A2 n.texts.length c2, .slice A3 n.kids.length c3] 46)).alloc (.cells #[.int .i64 0, .slice none 0 0, .slice none 0 0, .slice none 0 0] 46) = W0 at HP ⊢
  go_region_held3 (fun W => W.cell? ⟨w.heap.size, 0, none⟩ = some (.int .i64 n.kind) ∧ W.cell? ⟨w.heap.size, 1, none⟩ = some (.slice A1 n.ints.length c1) ∧ W.cell? ⟨w.heap.size, 2, none⟩ = some (.slice A2 n.texts.length c2) ∧ W.cell? ⟨w.heap.size, 3, none⟩ = some (.slice A3 n.kids.length c3) ∧ Lives 4 (w.heap.size + 1) W)
    (first
      | (go_split_ands
         refine ⟨?_, ?_, ?_, ?_, ?_⟩
         all_goals first
           | with_reducible exact HP.out.cell _ rfl
           | with_reducible exact HP.out.lives
           | with_reducible exact HP.out.drew.cell _ rfl
           | with_reducible exact HP.out.drew.lives
           | with_reducible exact (HP.out.alloc _).cell _ rfl
           | with_reducible exact (HP.out.alloc _).lives
           | with_reducible exact (HP.out.alloc _).drew.cell _ rfl
           | with_reducible exact (HP.out.alloc _).drew.lives
           | with_reducible exact ((HP.out.alloc _).alloc _).cell _ rfl
           | with_reducible exact ((HP.out.alloc _).alloc _).lives
           | with_reducible exact ((HP.out.alloc _).alloc _).drew.cell _ rfl
           | with_reducible exact ((HP.out.alloc _).alloc _).drew.lives
           | with_reducible exact (((HP.out.alloc _).alloc _).alloc _).cell _ rfl
           | with_reducible exact (((HP.out.alloc _).alloc _).alloc _).lives
           | with_reducible exact (((HP.out.alloc _).alloc _).alloc _).drew.cell _ rfl
           | with_reducible exact (((HP.out.alloc _).alloc _).alloc _).drew.lives
           | with_reducible exact far_set (far_set (far_set (far_set (by assumption) _ _ (by simp) _) _ _ (by simp) _) _ _ (by simp) _) _ _ (by simp) _
           | with_reducible exact Lives.set (Lives.set (Lives.set (Lives.set (by assumption) _ _) _ _) _ _) _ _
           | (simp; done)))
    (first
      | (refine' PF.step1 (.tmp 5) (.tmp 7) ?hP ?hw ?ho ?hs ?hx HN.out.i HS.out.1 ?_; (case hw => rfl); (case ho => rfl); (case hs => rfl); (case hx => rfl); (case hP => first | with_reducible exact HP.out | with_reducible exact (HP.out).drew | with_reducible exact HP.out.lit1a | with_reducible exact (HP.out.lit1a).drew | with_reducible exact HP.out.lit2a | with_reducible exact (HP.out.lit2a).drew | with_reducible exact HP.out.lit3a | with_reducible exact (HP.out.lit3a).drew | with_reducible exact HP.out.lit1a.lit2b | with_reducible exact (HP.out.lit1a.lit2b).drew | with_reducible exact HP.out.lit1a.lit3b | with_reducible exact (HP.out.lit1a.lit3b).drew | with_reducible exact HP.out.lit2a.lit1b | with_reducible exact (HP.out.lit2a.lit1b).drew | with_reducible exact HP.out.lit2a.lit3b | with_reducible exact (HP.out.lit2a.lit3b).drew | with_reducible exact HP.out.lit3a.lit1b | with_reducible exact (HP.out.lit3a.lit1b).drew | with_reducible exact HP.out.lit3a.lit2b | with_reducible exact (HP.out.lit3a.lit2b).drew | with_reducible exact HP.out.lit1a.lit2b.lit3c | with_reducible exact (HP.out.lit1a.lit2b.lit3c).drew | with_reducible exact HP.out.lit1a.lit3b.lit2c | with_reducible exact (HP.out.lit1a.lit3b.lit2c).drew | with_reducible exact HP.out.lit2a.lit1b.lit3c | with_reducible exact (HP.out.lit2a.lit1b.lit3c).drew | with_reducible exact HP.out.lit2a.lit3b.lit1c | with_reducible exact (HP.out.lit2a.lit3b.lit1c).drew | with_reducible exact HP.out.lit3a.lit1b.lit2c | with_reducible exact (HP.out.lit3a.lit1b.lit2c).drew | with_reducible exact HP.out.lit3a.lit2b.lit1c | with_reducible exact (HP.out.lit3a.lit2b.lit1c).drew); intro B1 d1 w1 hP; replace HP := Aside0.mk hP; clear hP)
      | (refine' PF.step2 (.tmp 9) (.tmp 11) ?hP ?hw ?ho ?hs ?hx HN.out.t HS.out.2.1 ?_; (case hw => rfl); (case ho => rfl); (case hs => rfl); (case hx => rfl); (case hP => first | with_reducible exact HP.out | with_reducible exact (HP.out).drew | with_reducible exact HP.out.lit1a | with_reducible exact (HP.out.lit1a).drew | with_reducible exact HP.out.lit2a | with_reducible exact (HP.out.lit2a).drew | with_reducible exact HP.out.lit3a | with_reducible exact (HP.out.lit3a).drew | with_reducible exact HP.out.lit1a.lit2b | with_reducible exact (HP.out.lit1a.lit2b).drew | with_reducible exact HP.out.lit1a.lit3b | with_reducible exact (HP.out.lit1a.lit3b).drew | with_reducible exact HP.out.lit2a.lit1b | with_reducible exact (HP.out.lit2a.lit1b).drew | with_reducible exact HP.out.lit2a.lit3b | with_reducible exact (HP.out.lit2a.lit3b).drew | with_reducible exact HP.out.lit3a.lit1b | with_reducible exact (HP.out.lit3a.lit1b).drew | with_reducible exact HP.out.lit3a.lit2b | with_reducible exact (HP.out.lit3a.lit2b).drew | with_reducible exact HP.out.lit1a.lit2b.lit3c | with_reducible exact (HP.out.lit1a.lit2b.lit3c).drew | with_reducible exact HP.out.lit1a.lit3b.lit2c | with_reducible exact (HP.out.lit1a.lit3b.lit2c).drew | with_reducible exact HP.out.lit2a.lit1b.lit3c | with_reducible exact (HP.out.lit2a.lit1b.lit3c).drew | with_reducible exact HP.out.lit2a.lit3b.lit1c | with_reducible exact (HP.out.lit2a.lit3b.lit1c).drew | with_reducible exact HP.out.lit3a.lit1b.lit2c | with_reducible exact (HP.out.lit3a.lit1b.lit2c).drew | with_reducible exact HP.out.lit3a.lit2b.lit1c | with_reducible exact (HP.out.lit3a.lit2b.lit1c).drew); intro B2 d2 w2 hP; replace HP := Aside0.mk hP; clear hP)
      | (refine' PF.step3 (.tmp 13) (.tmp 15) ?hP ?hw ?ho ?hs ?hx HN.out.k HS.out.2.2 ?_; (case hw => rfl); (case ho => rfl); (case hs => rfl); (case hx => rfl); (case hP => first | with_reducible exact HP.out | with_reducible exact (HP.out).drew | with_reducible exact HP.out.lit1a | with_reducible exact (HP.out.lit1a).drew | with_reducible exact HP.out.lit2a | with_reducible exact (HP.out.lit2a).drew | with_reducible exact HP.out.lit3a | with_reducible exact (HP.out.lit3a).drew | with_reducible exact HP.out.lit1a.lit2b | with_reducible exact (HP.out.lit1a.lit2b).drew | with_reducible exact HP.out.lit1a.lit3b | with_reducible exact (HP.out.lit1a.lit3b).drew | with_reducible exact HP.out.lit2a.lit1b | with_reducible exact (HP.out.lit2a.lit1b).drew | with_reducible exact HP.out.lit2a.lit3b | with_reducible exact (HP.out.lit2a.lit3b).drew | with_reducible exact HP.out.lit3a.lit1b | with_reducible exact (HP.out.lit3a.lit1b).drew | with_reducible exact HP.out.lit3a.lit2b | with_reducible exact (HP.out.lit3a.lit2b).drew | with_reducible exact HP.out.lit1a.lit2b.lit3c | with_reducible exact (HP.out.lit1a.lit2b.lit3c).drew | with_reducible exact HP.out.lit1a.lit3b.lit2c | with_reducible exact (HP.out.lit1a.lit3b.lit2c).drew | with_reducible exact HP.out.lit2a.lit1b.lit3c | with_reducible exact (HP.out.lit2a.lit1b.lit3c).drew | with_reducible exact HP.out.lit2a.lit3b.lit1c | with_reducible exact (HP.out.lit2a.lit3b.lit1c).drew | with_reducible exact HP.out.lit3a.lit1b.lit2c | with_reducible exact (HP.out.lit3a.lit1b.lit2c).drew | with_reducible exact HP.out.lit3a.lit2b.lit1c | with_reducible exact (HP.out.lit3a.lit2b.lit1c).drew); intro B3 d3 w3 hP; replace HP := Aside0.mk hP; clear hP))
  all_goals
    clear hL0 hL1 hL2 hL3
    go_wp2
    have h4 := HP.out.lives.set4 (.int .i64 n.kind) (.slice B1 n.ints.length d1) (.slice B2 n.texts.length d2) (.slice B3 n.kids.length d3)
    obtain ⟨hM, hB⟩ := HP.out.done (n := n) (Nat.le_succ _)
    exact bodyPost_ret (v := .agg #[.int .i64 n.kind, .slice B1 n.ints.length d1, .slice B2 n.texts.length d2, .slice B3 n.kids.length d3]) (by simp [results, Tryd.results27, go_sem, h4]) rfl ⟨_, rfl, ⟨_, _, _, rfl, hM⟩, hB⟩
end Go.Proofs.YtggldnbhmebcpaaDoor.L
end
section
namespace Go.Proofs.YtggldnbhmebcpaaDoor.L
open Go.RowKit Go.ChangeShapes Go.WideShapes Go.Proofs.YtggldnbhmebcpaaDoorW.PrintWords Go.Proofs.YtggldnbhmebcpaaDoorW.PrintLast Go.Proofs.YtggldnbhmebcpaaDoorW.PrintMore
attribute [local go_sem] max2_int min2_int max_two min_two max_three min_three max_four min_four
def isPl (n : Nat) (k : Int) : Bool := decide (0 ≤ k ∧ k < (n : Int))
set_option maxRecDepth 100000 in
set_option maxHeartbeats 1000000 in
theorem place_any (A : Option Addr) (c n : Nat) (r k : Int) (w : World) :
    Calls Tryd.prog 16 #[.agg #[.slice A n c, .int .i64 r], .int .i64 k] w fun e w' => e = .returned (.bool (isPl n k)) ∧ Below w.heap.size w w' := by
  have HB := Aside0.mk (below_alloc (Below.refl w.heap.size w) (.cells #[.slice A n c, .int .i64 r] 24))
  have k0 := box_cell w _ rfl #[.slice A n c, .int .i64 r] 24 0 _ rfl
  have hu := Tryd.underlying24
  by_cases h0 : 0 ≤ k
  · by_cases h1 : k < (n : Int)
    · have HE : Aside0 (isPl n k = true) := ⟨decide_eq_true ⟨h0, h1⟩⟩
      have d0 : decide (0 ≤ k) = true := decide_eq_true h0
      have d1 : decide (k < (n : Int)) = true := decide_eq_true h1
      clear h0 h1
      go_enter Tryd.func16, Tryd.ntmps16
      go_wp2
      go_ret
      exact ⟨ret_bool HE.out.symm, HB.out⟩
    · have HE : Aside0 (isPl n k = false) := ⟨decide_eq_false (fun h => h1 h.2)⟩
      have d0 : decide (0 ≤ k) = true := decide_eq_true h0
      have d1 : decide (k < (n : Int)) = false := decide_eq_false h1
      clear h0 h1
      go_enter Tryd.func16, Tryd.ntmps16
      go_wp2
      go_ret
      exact ⟨ret_bool HE.out.symm, HB.out⟩
  · have HE : Aside0 (isPl n k = false) := ⟨decide_eq_false (fun h => h0 h.1)⟩
    have d0 : decide (0 ≤ k) = false := decide_eq_false h0
    clear h0
    go_enter Tryd.func16, Tryd.ntmps16
    go_wp2
    go_ret
    exact ⟨ret_bool HE.out.symm, HB.out⟩
end Go.Proofs.YtggldnbhmebcpaaDoor.L
end
section
namespace Go.Proofs.YtggldnbhmebcpaaDoor.L
open Go.RowKit Go.ChangeShapes Go.WideShapes Go.Proofs.YtggldnbhmebcpaaDoorW.PrintWords Go.Proofs.YtggldnbhmebcpaaDoorW.PrintLast Go.Proofs.YtggldnbhmebcpaaDoorW.PrintMore
attribute [local go_sem] max2_int min2_int max_two min_two max_three min_three max_four min_four
theorem isPl_no {n : Nat} {k : Int} : isPl n k = !noPlace n k := by
  unfold isPl noPlace
  by_cases h0 : 0 ≤ k
  · by_cases h1 : k < (n : Int)
    · rw [decide_eq_true (And.intro h0 h1), decide_eq_false (by omega : ¬ k < 0), decide_eq_false (by omega : ¬ (n : Int) ≤ k)]; rfl
    · rw [decide_eq_false (fun h => h1 h.2), decide_eq_false (by omega : ¬ k < 0), decide_eq_true (by omega : (n : Int) ≤ k)]; rfl
  · rw [decide_eq_false (fun h => h0 h.1), decide_eq_true (by omega : k < 0)]; rfl
set_option maxRecDepth 100000 in
set_option maxHeartbeats 4000000 in
theorem rrefs_any (A : Option Addr) (c : Nat) (s : Scene) (w : World) (h : kNode.C w A s.nodes.length s.nodes) :
    Calls Tryd.prog 52 #[.agg #[.slice A s.nodes.length c, .int .i64 s.root]] w fun e w' => e = .returned (.int .i64 (refsAt s.nodes)) ∧ Below w.heap.size w w' := by
  have HR := Aside0.mk h
  have b0 := h.2.1
  have HB := Aside0.mk (below_alloc (Below.refl w.heap.size w) (.cells #[.slice A s.nodes.length c, .int .i64 s.root] 24))
  have k0 := box_cell w _ rfl #[.slice A s.nodes.length c, .int .i64 s.root] 24 0 _ rfl
  have k1 := box_cell w _ rfl #[.slice A s.nodes.length c, .int .i64 s.root] 24 1 _ rfl
  have HK := Aside0.mk (And.intro HB.out (And.intro k0 k1))
  have hu := Tryd.underlying24
  have hun := Tryd.underlying46
  clear h
  go_enter Tryd.func52, Tryd.ntmps52
  go_wp2
  clear k0 k1
  go_loopw [3] (fun v3 W => ∃ i : Nat, i ≤ s.nodes.length ∧ v3 = .int .i64 i ∧ Aside0 (∀ j, j < i → kidsBad s.nodes.length (nd s.nodes j).kids = false) ∧ Aside0 (Below w.heap.size w W ∧ W.cell? ⟨w.heap.size, 0, none⟩ = some (.slice A s.nodes.length c) ∧ W.cell? ⟨w.heap.size, 1, none⟩ = some (.int .i64 s.root))) (fun v3 _ => s.nodes.length - (intOf v3).toNat)
  case atStart => exact ⟨0, by omega, rfl, ⟨fun j h => by omega⟩, HK⟩
  case round =>
    clear HK
    obtain ⟨i, hi, rfl, HJ, HK⟩ := hrel
    have k0 := HK.out.2.1
    by_cases hlt : i < s.nodes.length
    · obtain ⟨adn, A1, c1, A2, c2, A3, c3, rfl, y0, y1, y2, y3, hN⟩ := at_node HR.out i hlt
      have HN := Aside0.mk hN.k
      have HY := Aside0.mk y3
      have b3 := hN.k.2.1
      clear hN y0 y1 y2 y3
      go_wp2
      go_loopw [4] (fun v4 W => ∃ j : Nat, j ≤ (nd s.nodes i).kids.length ∧ v4 = .int .i64 j ∧ Aside0 (∀ q, q < j → noPlace s.nodes.length (rd (nd s.nodes i).kids (q : Int)) = false) ∧ Aside0 (Below w.heap.size w W ∧ W.cell? ⟨w.heap.size, 0, none⟩ = some (.slice (some adn) s.nodes.length c) ∧ W.cell? ⟨w.heap.size, 1, none⟩ = some (.int .i64 s.root))) (fun v4 _ => (nd s.nodes i).kids.length - (intOf v4).toNat)
      case atStart => exact ⟨0, by omega, rfl, ⟨fun j h => by omega⟩, HK⟩
      case round =>
        clear HK k0
        obtain ⟨j, hj, rfl, HQ, HK⟩ := hrel
        have k0 := HK.out.2.1
        have k1 := HK.out.2.2
        have x3 := pw_cell_below HK.out.1 HY.out
        by_cases hjl : j < (nd s.nodes i).kids.length
        · obtain ⟨adk, rfl, xk⟩ := at_nat (Kd.C_below HN.out HK.out.1) j hjl
          go_wp2
          go_region_held3 (fun W => W.cell? ⟨w.heap.size, 0, none⟩ = some (.slice (some adn) s.nodes.length c) ∧ W.cell? ⟨w.heap.size, 1, none⟩ = some (.int .i64 s.root) ∧ W.cell? ⟨(adn.add (i * 4)).block, (adn.add (i * 4)).off + 3, none⟩ = some (.slice (some adk) (nd s.nodes i).kids.length c3) ∧ W.cell? (adk.add j) = some (.int .i64 (rd (nd s.nodes i).kids (j : Int))))
            (first
              | (go_split_ands
                 refine ⟨?_, ?_, ?_, ?_⟩
                 all_goals first
                   | with_reducible assumption
                   | with_reducible exact pw_cell_below hB (by assumption)
                   | (simp [*]; done)))
            (first
              | (go_at_call 16; refine (place_any (some adn) c s.nodes.length s.root (rd (nd s.nodes i).kids (j : Int)) _).mono ?_; rintro e w2 ⟨rfl, hB2⟩; have hB := hB2))
          have HK2 := Aside0.mk (And.intro (below_step (below_drew HK.out.1) hB2) (And.intro (pw_cell_below hB2 (show wr.drew.cell? _ = _ from k0)) (pw_cell_below hB2 (show wr.drew.cell? _ = _ from k1))))
          rw [isPl_no]
          clear k0 k1 x3 xk
          cases hp : noPlace s.nodes.length (rd (nd s.nodes i).kids (j : Int)) with
          | true =>
            have HE : Aside0 (refsAt s.nodes = (i : Int)) := ⟨by unfold refsAt; rw [refsFrom_at s.nodes 0 i hlt HJ.out (kidsBad_at hjl hp)]; simp⟩
            clear hp
            go_wp2
            go_ret
            exact ⟨ret_int HE.out.symm, HK2.out.1⟩
          | false =>
            have HQ2 := Aside0.mk (ext_lt HQ.out hp)
            clear hp
            go_wp2
            go_roundw
            case rel => exact ⟨j + 1, by omega, by go_num, HQ2, HK2⟩
            case measure => simp [intOf]; omega
        · obtain rfl : j = (nd s.nodes i).kids.length := by omega
          have HJ2 := Aside0.mk (ext_lt HJ.out (kidsBad_no (Nat.le_refl _) HQ.out))
          go_wp2
          go_roundw
          case rel => exact ⟨i + 1, by omega, by go_num, HJ2, HK⟩
          case measure => simp [intOf]; omega
    · obtain rfl : i = s.nodes.length := by omega
      have HE : Aside0 (refsAt s.nodes = -1) := ⟨refsFrom_no s.nodes 0 HJ.out⟩
      go_wp2
      go_ret
      exact ⟨ret_int HE.out.symm, HK.out.1⟩
end Go.Proofs.YtggldnbhmebcpaaDoor.L
end
